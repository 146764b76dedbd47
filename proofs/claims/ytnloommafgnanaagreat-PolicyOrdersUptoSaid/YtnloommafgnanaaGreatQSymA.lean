/-
  slices.SortStableFunc of records: swapRange, rotate.
-/
import Derived.Test.YtnloommafgnanaaGreatQSymQ
import Derived.Test.YtnloommafgnanaaGreatQZoneC
import Derived.Shelf.SlSortCmp.InsertionK
import Derived.BigRegion
namespace Go.Proofs.YtnloommafgnanaaGreat
open Go.RowKit Go.Shelf Go.Sort Go.Proofs.YtnloommafgnanaaGreat.nm Go.Proofs.YtnloommafgnanaaGreat.od Go.Proofs.YtnloommafgnanaaGreat.sm

/-- What stays through a sort of records. -/
structure SortC {α : Type} [Inhabited α] (rc : α → Rec) (w : World) (blk n : Nat) : Prop where
  holds : ∃ d : Array α, d.size = n ∧ HoldsK (fun x => recC (rc x)) 5 w blk 0 d
  lt : blk < w.heap.size
  sz : n ≤ 1000000000000
/-- A world that the sort passes through. -/
@[irreducible] def SW {α : Type} [Inhabited α] (rc : α → Rec) (w : World) (blk m : Nat) (dk : Array α) (os : Array Obj) : World := sortWorldK (fun x => recC (rc x)) 5 w blk 0 m dk os
section
variable {α : Type} [Inhabited α] {rc : α → Rec} {w : World} {blk n m : Nat} {dk : Array α} {os : Array Obj}
theorem sw_eq : SW rc w blk m dk os = sortWorldK (fun x => recC (rc x)) 5 w blk 0 m dk os := by unfold SW; rfl
theorem sw_grown (q : Nat) (os' : Array Obj) : grow ((SW rc w blk m dk os).drewN q) os' = SW rc w blk (m + q) dk (os ++ os') := by unfold SW; exact sortWorldK_grown_c _ 5 w blk 0 m q dk os os'
theorem sw_at (h : SortC rc w blk n) (hs : dk.size = n) {i : Nat} (hi : i < n) : RecAt (SW rc w blk m dk os) blk (i * 5) (rc dk[i]!) ∧ (SW rc w blk m dk os).frozen? ⟨blk, i * 5, none⟩ = false ∧ (SW rc w blk m dk os).frozen? ⟨blk, i * 5 + 1, none⟩ = false ∧ (SW rc w blk m dk os).frozen? ⟨blk, i * 5 + 2, none⟩ = false ∧ (SW rc w blk m dk os).frozen? ⟨blk, i * 5 + 3, none⟩ = false ∧ (SW rc w blk m dk os).frozen? ⟨blk, i * 5 + 4, none⟩ = false := by
  obtain ⟨d, hd, hH⟩ := h.holds
  rw [sw_eq]
  have hk := holdsK_sortWorldK_c (fun x => recC (rc x)) 5 w blk 0 d dk m os hH h.lt (by omega)
  have hc : ∀ c, c < 5 → _ := fun c hc => hk.cell (i := i) (c := c) (by omega) hc
  have e : ∀ c, (⟨blk, 0 + i * 5 + c, none⟩ : Addr) = ⟨blk, i * 5 + c, none⟩ := fun c => by rw [Nat.zero_add]
  simp only [e] at hc
  exact ⟨⟨(hc 0 (by omega)).1, (hc 1 (by omega)).1, (hc 2 (by omega)).1, (hc 3 (by omega)).1, (hc 4 (by omega)).1⟩, (hc 0 (by omega)).2, (hc 1 (by omega)).2, (hc 2 (by omega)).2, (hc 3 (by omega)).2, (hc 4 (by omega)).2⟩
theorem sw_swap0 (h : SortC rc w blk n) (hs : dk.size = n) {i j : Nat} (hi : i < n) (hj : j < n) :
    ((((((((((SW rc w blk m dk os).drew.setCell ⟨blk, i * 5, none⟩ (.string (rc dk[j]!).owner)).setCell ⟨blk, i * 5 + 1, none⟩ (.int .i64 (rc dk[j]!).typ)).setCell ⟨blk, i * 5 + 2, none⟩ (.int .i64 (rc dk[j]!).cls)).setCell ⟨blk, i * 5 + 3, none⟩ (.int .i64 (rc dk[j]!).ttl)).setCell ⟨blk, i * 5 + 4, none⟩ (.string (rc dk[j]!).data)).setCell
      ⟨blk, j * 5, none⟩ (.string (rc dk[i]!).owner)).setCell ⟨blk, j * 5 + 1, none⟩ (.int .i64 (rc dk[i]!).typ)).setCell ⟨blk, j * 5 + 2, none⟩ (.int .i64 (rc dk[i]!).cls)).setCell ⟨blk, j * 5 + 3, none⟩ (.int .i64 (rc dk[i]!).ttl)).setCell ⟨blk, j * 5 + 4, none⟩ (.string (rc dk[i]!).data) = SW rc w blk (m + 1) (swp dk i j) os := by
  obtain ⟨d, hd, hH⟩ := h.holds
  rw [sw_eq, sw_eq, ← sortWorldK_swp_c (fun x => recC (rc x)) 5 w blk 0 (fun _ => rfl) m dk os h.lt i j (by omega) (by omega), Nat.zero_add, Nat.zero_add]
  rfl
theorem sw_swap (h : SortC rc w blk n) (hs : dk.size = n) {i j : Nat} (hi : i < n) (hj : j < n) :
    (((((((((((SW rc w blk m dk os).setCell ⟨blk, i * 5, none⟩ (.string (rc dk[j]!).owner)).setCell ⟨blk, i * 5 + 1, none⟩ (.int .i64 (rc dk[j]!).typ)).setCell ⟨blk, i * 5 + 2, none⟩ (.int .i64 (rc dk[j]!).cls)).setCell ⟨blk, i * 5 + 3, none⟩ (.int .i64 (rc dk[j]!).ttl)).setCell ⟨blk, i * 5 + 4, none⟩ (.string (rc dk[j]!).data)).setCell
      ⟨blk, j * 5, none⟩ (.string (rc dk[i]!).owner)).setCell ⟨blk, j * 5 + 1, none⟩ (.int .i64 (rc dk[i]!).typ)).setCell ⟨blk, j * 5 + 2, none⟩ (.int .i64 (rc dk[i]!).cls)).setCell ⟨blk, j * 5 + 3, none⟩ (.int .i64 (rc dk[i]!).ttl)).setCell ⟨blk, j * 5 + 4, none⟩ (.string (rc dk[i]!).data)).drew = SW rc w blk (m + 1) (swp dk i j) os := by
  have h0 := sw_swap0 (m := m) (os := os) h hs hi hj
  simp only [World.setCell_drew] at h0
  exact h0
end

section
variable {α : Type} [Inhabited α] {rc : α → Rec} {w : World} {blk n m : Nat} {dk : Array α} {os : Array Obj}
/-- What an exchange of parts leaves. -/
def Exch (rc : α → Rec) (w : World) (blk n : Nat) (os : Array Obj) (dk : Array α) (F : Nat → α) (lo hi : Nat) (w' : World) : Prop :=
  ∃ m' dk', w' = SW rc w blk m' dk' os ∧ dk'.size = n ∧ PermIn lo hi dk dk' ∧ ∀ x, x < n → dk'[x]! = F x
set_option maxRecDepth 100000 in
set_option maxHeartbeats 4000000 in
theorem swapRange_any (hC : SortC rc w blk n) (a b k cap : Nat) (fv : Value) (hs : dk.size = n) (hab : a + k ≤ b) (hb : b + k ≤ n) :
    Calls Tryz.prog 72 #[.slice (some ⟨blk, 0, none⟩) n cap, .int .i64 (a : Int), .int .i64 (b : Int), .int .i64 (k : Int), fv] (SW rc w blk m dk os) fun e w' =>
      e = .returned (.tuple #[]) ∧ Exch rc w blk n os dk (swrF (fun x => dk[x]!) a b k) a (b + k) w' := by
  have HC := Lib.hid hC; have HS := Lib.hid hs
  have hsz := hC.sz
  clear hC hs
  go_enter Tryz.func72, Tryz.ntmps72
  go_wp2_with fail
  go_loopw [10] (fun iv wr => ∃ i m' dk', i ≤ k ∧ iv = .int .i64 (i : Int) ∧ Hid (wr = SW rc w blk m' dk' os ∧ dk'.size = n ∧ PermIn a (b + k) dk dk' ∧ ∀ x, x < n → dk'[x]! = swrF (fun x => dk[x]!) a b i x)) (fun iv _ => k - (intOf iv).toNat)
  case atStart => exact ⟨0, m, dk, Nat.zero_le _, rfl, Lib.hid ⟨rfl, HS.out, permIn_refl _ _ _, fun x _ => by rw [swr_zero]⟩⟩
  case round =>
    obtain ⟨i, m', dk', hik, rfl, HR⟩ := hrel
    by_cases hlt : i < k
    · obtain ⟨hw, hs', hp', hx'⟩ := HR.out
      obtain ⟨ia, hia⟩ : ∃ x, x = a + i := ⟨_, rfl⟩
      obtain ⟨ib, hib⟩ : ∃ x, x = b + i := ⟨_, rfl⟩
      obtain ⟨r, hr⟩ : ∃ r, r = rc dk'[ia]! := ⟨_, rfl⟩
      obtain ⟨s, hs2⟩ : ∃ r, r = rc dk'[ib]! := ⟨_, rfl⟩
      have f1 := sw_at (m := m') (os := os) HC.out hs' (i := ia) (by omega)
      have f2 := sw_at (m := m') (os := os) HC.out hs' (i := ib) (by omega)
      rw [← hw, ← hr] at f1
      rw [← hw, ← hs2] at f2
      have hend := sw_swap (m := m') (os := os) HC.out hs' (i := ia) (j := ib) (by omega) (by omega)
      rw [← hw, ← hr, ← hs2] at hend
      have HE := Lib.hid hend
      have wa : IntKind.i64.wrap ((a : Int) + (i : Int)) = (ia : Int) := by rw [IntKind.wrap_i64]; omega
      have wb : IntKind.i64.wrap ((b : Int) + (i : Int)) = (ib : Int) := by rw [IntKind.wrap_i64]; omega
      have la : (ia : Int) < (n : Int) := by omega
      have lb : (ib : Int) < (n : Int) := by omega
      have hki : (i : Int) < (k : Int) := by omega
      have hnk : ia ≠ ib := by omega
      have HIA := Lib.hid hia; have HIB := Lib.hid hib; have HNK := Lib.hid hnk
      have n0 : ¬ ib * 5 = ia * 5 := (by omega); have n1 : ¬ ib * 5 = ia * 5 + 1 := (by omega); have n2 : ¬ ib * 5 = ia * 5 + 2 := (by omega); have n3 : ¬ ib * 5 = ia * 5 + 3 := (by omega); have n4 : ¬ ib * 5 = ia * 5 + 4 := (by omega); have m1 : ¬ ib * 5 + 1 = ia * 5 := (by omega); have m2 : ¬ ib * 5 + 2 = ia * 5 := (by omega); have m3 : ¬ ib * 5 + 3 = ia * 5 := (by omega); have m4 : ¬ ib * 5 + 4 = ia * 5 := (by omega); have p0 : ¬ ia * 5 = ib * 5 := (by omega); have p1 : ¬ ia * 5 = ib * 5 + 1 := (by omega); have p2 : ¬ ia * 5 = ib * 5 + 2 := (by omega); have p3 : ¬ ia * 5 = ib * 5 + 3 := (by omega); have p4 : ¬ ia * 5 = ib * 5 + 4 := (by omega); have q1 : ¬ ia * 5 + 1 = ib * 5 := (by omega); have q2 : ¬ ia * 5 + 2 = ib * 5 := (by omega); have q3 : ¬ ia * 5 + 3 = ib * 5 := (by omega); have q4 : ¬ ia * 5 + 4 = ib * 5 := (by omega)
      clear hw hs' hp' hx' hend hr hs2 hia hib hnk
      obtain ⟨⟨x0, x1, x2, x3, x4⟩, xf0, xf1, xf2, xf3, xf4⟩ := f1
      obtain ⟨⟨y0, y1, y2, y3, y4⟩, yf0, yf1, yf2, yf3, yf4⟩ := f2
      go_wp2_with fail
      go_big_region
      clear x0 x1 x2 x3 x4 xf0 xf1 xf2 xf3 xf4 y0 y1 y2 y3 y4 yf0 yf1 yf2 yf3 yf4 wa wb la lb n0 n1 n2 n3 n4 m1 m2 m3 m4 p0 p1 p2 p3 p4 q1 q2 q3 q4
      go_wp2_with fail
      go_roundw
      case rel =>
        obtain ⟨_, hs', hp', hx'⟩ := HR.out
        refine ⟨i + 1, m' + 1, swp dk' ia ib, by omega, by go_num, Lib.hid ⟨HE.out, by rw [size_swp]; exact hs', permIn_trans _ _ _ _ _ hp' (swp_permIn _ _ _ _ _ (by have := HIA.out; omega) (by have := HIA.out; omega) (by have := HIB.out; omega) (by have := HIB.out; omega) (by omega)), fun x hx => ?_⟩⟩
        rw [swp_at _ (by have := HIA.out; omega) (by have := HIB.out; omega), swr_step _ _ _ _ (by omega), ← HIA.out, ← HIB.out]
        unfold swpF
        dsimp only
        rw [hx' x hx, hx' ia (by have := HIA.out; omega), hx' ib (by have := HIB.out; omega)]
      case measure => simp [intOf]; omega
    · obtain rfl : k = i := by omega
      clear hlt
      go_wp2_with fail
      go_end0
      obtain ⟨hw, hs', hp', hx'⟩ := HR.out
      exact ⟨rfl, m', dk', hw, hs', hp', hx'⟩
theorem rotF_congr {β : Type} {f g : Nat → β} {N s m e : Nat} (h : ∀ y, y < N → f y = g y) (hme : m ≤ e) (he : e ≤ N) (x : Nat) (hx : x < N) : rotF f s m e x = rotF g s m e x := by
  unfold rotF
  by_cases h1 : s ≤ x ∧ x < s + (e - m)
  · rw [if_pos h1, if_pos h1]; exact h _ (by omega)
  · rw [if_neg h1, if_neg h1]
    by_cases h2 : s + (e - m) ≤ x ∧ x < e
    · rw [if_pos h2, if_pos h2]; exact h _ (by omega)
    · rw [if_neg h2, if_neg h2]; exact h x hx
set_option maxRecDepth 100000 in
set_option maxHeartbeats 4000000 in
/-- The parts [s, mm) and [mm, e) in the other order. -/
theorem rotate_any (hC : SortC rc w blk n) (s mm e cap : Nat) (fv : Value) (hs : dk.size = n) (h1 : s < mm) (h2 : mm < e) (h3 : e ≤ n) :
    Calls Tryz.prog 66 #[.slice (some ⟨blk, 0, none⟩) n cap, .int .i64 (s : Int), .int .i64 (mm : Int), .int .i64 (e : Int), fv] (SW rc w blk m dk os) fun en w' =>
      en = .returned (.tuple #[]) ∧ Exch rc w blk n os dk (rotF (fun x => dk[x]!) s mm e) s e w' := by
  have HC := Lib.hid hC; have HS := Lib.hid hs
  have hsz := hC.sz
  clear hC hs
  go_enter Tryz.func66, Tryz.ntmps66
  go_wp2_with fail
  go_loopw [10, 11] (fun iv jv wr => ∃ i j m' dk', 1 ≤ i ∧ 1 ≤ j ∧ s + i ≤ mm ∧ mm + j ≤ e ∧ i + s ≤ mm ∧ iv = .int .i64 (i : Int) ∧ jv = .int .i64 (j : Int) ∧ Hid (wr = SW rc w blk m' dk' os ∧ dk'.size = n ∧ PermIn s e dk dk' ∧ ∀ x, x < n → rotF (fun y => dk'[y]!) (mm - i) mm (mm + j) x = rotF (fun y => dk[y]!) s mm e x)) (fun iv jv _ => (intOf iv).toNat + (intOf jv).toNat)
  case atStart =>
    refine ⟨mm - s, e - mm, m, dk, by omega, by omega, by omega, by omega, by omega, by congr 1; omega, by congr 1; omega, Lib.hid ⟨rfl, HS.out, permIn_refl _ _ _, fun x _ => ?_⟩⟩
    rw [show mm - (mm - s) = s by omega, show mm + (e - mm) = e by omega]
  case round =>
    obtain ⟨i, j, m', dk', hi, hj, hi2, hj2, -, rfl, rfl, HR⟩ := hrel
    obtain ⟨hw, hs', hp', hx'⟩ := HR.out
    clear hp' hx'
    have HS' := Lib.hid hs'
    subst hw
    clear hs'
    rcases Nat.lt_trichotomy i j with hlt | heq | hgt
    · have hA := Lib.hid (swapRange_any (m := m') (os := os) HC.out (mm - i) (mm + j - i) i cap fv HS'.out (by omega) (by omega))
      have ne2 : ((i : Int) != (j : Int)) = true := by rw [bne_iff_ne]; omega
      have ngt : ¬ (j : Int) < (i : Int) := by omega
      have ltz : (i : Int) < (j : Int) := by omega
      go_wp2_with fail
      rw [show ((mm : Int) - (i : Int)) = ((mm - i : Nat) : Int) by omega, show ((mm : Int) + (j : Int) - (i : Int)) = ((mm + j - i : Nat) : Int) by omega]
      refine hA.out.mono ?_
      rintro en w' ⟨rfl, m2, dk2, rfl, hs2, hp2, hx2⟩
      have HX2 := Lib.hid hx2; have HP2 := Lib.hid hp2; have HS2 := Lib.hid hs2
      clear hx2 hp2 hs2 hA
      go_wp2_with fail
      go_roundw
      case rel =>
        obtain ⟨_, _, hp', hx'⟩ := HR.out
        refine ⟨i, j - i, m2, dk2, hi, by omega, hi2, by omega, by omega, rfl, by congr 1; omega, Lib.hid ⟨rfl, HS2.out, permIn_trans _ _ _ _ _ hp' (permIn_mono _ _ _ _ _ _ (by omega) (by omega) (by have := HS'.out; omega) HP2.out), fun x hx => ?_⟩⟩
        rw [← hx' x hx, rot_less _ _ _ _ hlt (by omega)]
        exact rotF_congr (N := n) (fun y hy => HX2.out y hy) (by omega) (by omega) x hx
      case measure => simp [intOf]; omega
    · subst heq
      have hA := Lib.hid (swapRange_any (m := m') (os := os) HC.out (mm - i) mm i cap fv HS'.out (by omega) (by omega))
      have ne2 : ((i : Int) != (i : Int)) = false := by rw [bne_eq_false_iff_eq]
      go_wp2_with fail
      rw [show ((mm : Int) - (i : Int)) = ((mm - i : Nat) : Int) by omega]
      refine hA.out.mono ?_
      rintro en w' ⟨rfl, m2, dk2, rfl, hs2, hp2, hx2⟩
      have HX2 := Lib.hid hx2; have HP2 := Lib.hid hp2; have HS2 := Lib.hid hs2
      clear hx2 hp2 hs2 hA
      go_wp2_with fail
      go_end0
      obtain ⟨_, _, hp', hx'⟩ := HR.out
      refine ⟨rfl, m2, dk2, rfl, HS2.out, permIn_trans _ _ _ _ _ hp' (permIn_mono _ _ _ _ _ _ (by omega) (by omega) (by have := HS'.out; omega) HP2.out), fun x hx => ?_⟩
      rw [← hx' x hx, rot_same _ _ _ (by omega)]
      exact HX2.out x hx
    · have hA := Lib.hid (swapRange_any (m := m') (os := os) HC.out (mm - i) mm j cap fv HS'.out (by omega) (by omega))
      have ne2 : ((i : Int) != (j : Int)) = true := by rw [bne_iff_ne]; omega
      have ltz : (j : Int) < (i : Int) := by omega
      go_wp2_with fail
      rw [show ((mm : Int) - (i : Int)) = ((mm - i : Nat) : Int) by omega]
      refine hA.out.mono ?_
      rintro en w' ⟨rfl, m2, dk2, rfl, hs2, hp2, hx2⟩
      have HX2 := Lib.hid hx2; have HP2 := Lib.hid hp2; have HS2 := Lib.hid hs2
      clear hx2 hp2 hs2 hA
      go_wp2_with fail
      go_roundw
      case rel =>
        obtain ⟨_, _, hp', hx'⟩ := HR.out
        refine ⟨i - j, j, m2, dk2, by omega, hj, by omega, hj2, by omega, by congr 1; omega, rfl, Lib.hid ⟨rfl, HS2.out, permIn_trans _ _ _ _ _ hp' (permIn_mono _ _ _ _ _ _ (by omega) (by omega) (by have := HS'.out; omega) HP2.out), fun x hx => ?_⟩⟩
        rw [← hx' x hx, rot_more _ _ _ _ hgt (by omega), show mm - (i - j) = mm - i + j by omega]
        exact rotF_congr (N := n) (fun y hy => HX2.out y hy) (by omega) (by omega) x hx
      case measure => simp [intOf]; omega
end
end Go.Proofs.YtnloommafgnanaaGreat

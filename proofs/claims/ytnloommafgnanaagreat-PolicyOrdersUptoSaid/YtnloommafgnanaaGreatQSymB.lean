/-
  slices.SortStableFunc of records: the merge in place.
-/
import Derived.Test.YtnloommafgnanaaGreatQSymA
import Derived.Shelf.SlSortCmp.QuietGrown
import Derived.Deep.CutBlock
namespace Go.Proofs.YtnloommafgnanaaGreat
open Go.RowKit Go.Shelf Go.Sort Go.Proofs.YtnloommafgnanaaGreat.nm Go.Proofs.YtnloommafgnanaaGreat.od Go.Proofs.YtnloommafgnanaaGreat.sm

/-- What is asked of the comparison. -/
def CmpC {α : Type} [Inhabited α] (rc : α → Rec) (cf : α → α → Int) (g : Nat) (w : World) (blk n : Nat) : Prop :=
  ∀ (m : Nat) (os : Array Obj) (dk : Array α), dk.size = n → ∀ x y : α, Calls Tryz.prog g #[recV (rc x), recV (rc y)] (SW rc w blk m dk os) fun e w' => e = .returned (.int .i64 (cf x y)) ∧ ∃ q os', w' = grow ((SW rc w blk m dk os).drewN q) os'
/-- What a merge leaves. -/
def Merged {α : Type} [Inhabited α] (rc : α → Rec) (w : World) (blk n : Nat) (lt : α → α → Bool) (a b : Nat) (dk : Array α) (w' : World) : Prop :=
  ∃ m' dk' os', w' = SW rc w blk m' dk' os' ∧ dk'.size = n ∧ Post lt a b dk dk'
section
variable {α : Type} [Inhabited α] {rc : α → Rec} {w : World} {blk n m : Nat} {dk : Array α} {os : Array Obj} {cf : α → α → Int} {g : Nat} {lt : α → α → Bool}
theorem at_grown {x : α} {i : Nat} {wq : World} (hq : wq = SW rc w blk m dk os) (hC : SortC rc w blk n) (hs : dk.size = n) (hi : i < n) (hx : dk[i]! = x) : ∀ k os', RecAt (grow (wq.drewN k) os') blk (i * 5) (rc x) := fun k os' => by
  subst hq hx
  rw [sw_grown]
  exact (sw_at hC hs hi).1
theorem cmp_grown {x y : α} {wq : World} (hq : wq = SW rc w blk m dk os) (hc : CmpC rc cf g w blk n) (hs : dk.size = n) : ∀ k os', Calls Tryz.prog g #[recV (rc x), recV (rc y)] (grow (wq.drewN k) os') fun e w' => e = .returned (.int .i64 (cf x y)) ∧ ∃ q os'', w' = grow ((grow (wq.drewN k) os').drewN q) os'' := fun k os' => by
  subst hq
  rw [sw_grown]
  exact hc _ _ dk hs x y
set_option maxRecDepth 100000 in
set_option maxHeartbeats 8000000 in
/-- One to the left. -/
theorem sym_left (hC : SortC rc w blk n) (hcmp : CmpC rc cf g w blk n) (eg : ∀ args w, (callFunc g args).run Tryz.prog w = .ok (.enter g args) w) (hS : SWO lt) (a b cap : Nat) (hs : dk.size = n) (hP : Pre (ltOf cf) lt a (a + 1) b dk) :
    Calls Tryz.prog 58 #[.slice (some ⟨blk, 0, none⟩) n cap, .int .i64 (a : Int), .int .i64 ((a + 1 : Nat) : Int), .int .i64 (b : Int), .func (.func g) #[] #[]] (SW rc w blk m dk os) fun en w' =>
      en = .returned (.tuple #[]) ∧ Merged rc w blk n lt a b dk w' := by
  have HC := Lib.hid hC; have HS := Lib.hid hs; have HCMP := Lib.hid hcmp; have HSW := Lib.hid hS; have HP := Lib.hid hP
  have hsz := hC.sz; have hmb := hP.mb; have hbs := hP.bs
  have hbn : b ≤ n := by omega
  have mixed : Tryz.prog.follows .mixedOrders = true := by kernel_rfl
  obtain ⟨mm, hmm⟩ : ∃ mm, mm = a + 1 := ⟨_, rfl⟩
  rw [← hmm]
  have e1 : (mm : Int) - (a : Int) = 1 := by omega
  have hmm1 : a < mm := by omega
  have hmb' : mm < b := by omega
  have HMM := Lib.hid hmm
  clear hC hcmp hS hP hs hbs hmm hmb
  go_enter Tryz.func58, Tryz.ntmps58
  go_wp2_with fail
  clear e1
  go_loopw [10, 11] (fun iv jv wr => ∃ i j m' os', mm ≤ i ∧ i ≤ j ∧ j ≤ b ∧ iv = .int .i64 (i : Int) ∧ jv = .int .i64 (j : Int) ∧ Hid (wr = SW rc w blk m' dk os' ∧ Srch (fun x => ltOf cf dk[x]! dk[a]!) mm b i j)) (fun iv jv _ => (intOf jv).toNat - (intOf iv).toNat)
  case atStart => exact ⟨mm, b, m, os, Nat.le_refl _, by omega, Nat.le_refl _, rfl, rfl, Lib.hid ⟨rfl, Srch.begin _ (by omega)⟩⟩
  case round =>
    obtain ⟨i, j, m', os', him, hij, hjb, rfl, rfl, HR⟩ := hrel
    have hw := HR.out.1
    subst hw
    by_cases hlt : i < j
    · obtain ⟨h, hh⟩ : ∃ h, h = (i + j) / 2 := ⟨_, rfl⟩
      have hih : i ≤ h := by omega
      have hhj : h < j := by omega
      have hn' : h < n := by omega
      go_upto_region 5 with fail
      rw [show ((i : Int) + (j : Int)) / 2 = (h : Int) by omega]
      have HH := Lib.hid hh
      clear hh
      obtain ⟨x, hx⟩ : ∃ x, dk[h]! = x := ⟨_, rfl⟩
      obtain ⟨y, hy⟩ : ∃ y, dk[a]! = y := ⟨_, rfl⟩
      obtain ⟨wq, hwq⟩ : ∃ X, X = SW rc w blk m' dk os' := ⟨_, rfl⟩
      have gx := at_grown hwq HC.out HS.out (show h < n by omega) hx
      have gy := at_grown hwq HC.out HS.out (show a < n by omega) hy
      have hcg := cmp_grown (x := x) (y := y) hwq HCMP.out HS.out
      have X0 := fun k os' => (gx k os').1; have X1 := fun k os' => (gx k os').2.1; have X2 := fun k os' => (gx k os').2.2.1; have X3 := fun k os' => (gx k os').2.2.2.1; have X4 := fun k os' => (gx k os').2.2.2.2
      have Y0 := fun k os' => (gy k os').1; have Y1 := fun k os' => (gy k os').2.1; have Y2 := fun k os' => (gy k os').2.2.1; have Y3 := fun k os' => (gy k os').2.2.2.1; have Y4 := fun k os' => (gy k os').2.2.2.2
      have hp1 : (h : Int) < (n : Int) := by omega
      have hq1 : (a : Int) < (n : Int) := by omega
      have HX := Lib.hid hx; have HY := Lib.hid hy; have HWQ := Lib.hid hwq
      rw [← hwq]
      clear gx gy hx hy hwq
      by_cases hlv : cf x y < 0
      · go_quiet_grown (first | (go_at_fn g; refine Calls.grown_of (hcg _ _)))
        clear X0 X1 X2 X3 X4 Y0 Y1 Y2 Y3 Y4 hcg
        have hw2 : grow (wq.drewN nq) osq = SW rc w blk (m' + nq) dk (os' ++ osq) := by rw [HWQ.out]; exact sw_grown _ _
        have HW2 := Lib.hid hw2
        clear hw2
        go_wp2_with fail
        go_roundw
        case rel => exact ⟨h + 1, j, _, _, by omega, by omega, hjb, by go_num, rfl, Lib.hid ⟨HW2.out, HR.out.2.up (anti1 HSW.out (by rw [HMM.out]; exact HP.out)) hih hhj (by rw [HX.out, HY.out]; exact decide_eq_true hlv)⟩⟩
        case measure => simp [intOf]; omega
      · go_quiet_grown (first | (go_at_fn g; refine Calls.grown_of (hcg _ _)))
        clear X0 X1 X2 X3 X4 Y0 Y1 Y2 Y3 Y4 hcg
        have hw2 : grow (wq.drewN nq) osq = SW rc w blk (m' + nq) dk (os' ++ osq) := by rw [HWQ.out]; exact sw_grown _ _
        have HW2 := Lib.hid hw2
        clear hw2
        go_wp2_with fail
        go_roundw
        case rel => exact ⟨i, h, _, _, him, hih, by omega, rfl, rfl, Lib.hid ⟨HW2.out, HR.out.2.down (anti1 HSW.out (by rw [HMM.out]; exact HP.out)) hih hhj (by rw [HX.out, HY.out]; exact decide_eq_false hlv)⟩⟩
        case measure => simp [intOf]; omega
    · obtain rfl : i = j := by omega
      clear hlt hij
      go_wp2_with fail
      go_loopw [13] (fun kv wr => ∃ k m' dk', a ≤ k ∧ k + 1 ≤ i ∧ kv = .int .i64 (k : Int) ∧ Hid (wr = SW rc w blk m' dk' os' ∧ dk'.size = n ∧ PermIn a b dk dk' ∧ ∀ x, x < n → dk'[x]! = rotF (fun y => dk[y]!) a (a + 1) (k + 1) x)) (fun kv _ => i - (intOf kv).toNat)
      case atStart => exact ⟨a, m', dk, Nat.le_refl _, by omega, rfl, Lib.hid ⟨rfl, HS.out, permIn_refl _ _ _, fun x _ => by rw [rot_none_right]⟩⟩
      case round =>
        obtain ⟨k, m', dk', hak, hki, rfl, HR2⟩ := hrel
        have hw := HR2.out.1
        subst hw
        by_cases hlt : k + 1 < i
        · obtain ⟨k1, hk1⟩ : ∃ k1, k1 = k + 1 := ⟨_, rfl⟩
          have hs' := HR2.out.2.1
          have hlt' : (k : Int) < (i : Int) - 1 := by omega
          go_upto_region 11 with fail
          have wk : IntKind.i64.wrap ((k : Int) + 1) = (k1 : Int) := by rw [IntKind.wrap_i64]; omega
          obtain ⟨r, hr⟩ : ∃ r, r = rc dk'[k]! := ⟨_, rfl⟩
          obtain ⟨s, hs2⟩ : ∃ r, r = rc dk'[k1]! := ⟨_, rfl⟩
          obtain ⟨wq, hwq⟩ : ∃ X, X = SW rc w blk m' dk' os' := ⟨_, rfl⟩
          have f1 := sw_at (m := m') (os := os') HC.out hs' (i := k) (by omega)
          have f2 := sw_at (m := m') (os := os') HC.out hs' (i := k1) (by omega)
          have hend := sw_swap (m := m') (os := os') HC.out hs' (i := k) (j := k1) (by omega) (by omega)
          rw [← hwq, ← hr] at f1
          rw [← hwq, ← hs2] at f2
          rw [← hwq, ← hr, ← hs2] at hend
          rw [← hwq]
          have HE := Lib.hid hend
          have HSJ := Lib.hid hs'; have HWQ := Lib.hid hwq
          have hp1 : (k : Int) < (n : Int) := by omega
          have hq1 : (k1 : Int) < (n : Int) := by omega
          have n0 : ¬ k1 * 5 = k * 5 := (by omega); have n1 : ¬ k1 * 5 = k * 5 + 1 := (by omega); have n2 : ¬ k1 * 5 = k * 5 + 2 := (by omega); have n3 : ¬ k1 * 5 = k * 5 + 3 := (by omega); have n4 : ¬ k1 * 5 = k * 5 + 4 := (by omega); have m1 : ¬ k1 * 5 + 1 = k * 5 := (by omega); have m2 : ¬ k1 * 5 + 2 = k * 5 := (by omega); have m3 : ¬ k1 * 5 + 3 = k * 5 := (by omega); have m4 : ¬ k1 * 5 + 4 = k * 5 := (by omega); have p0 : ¬ k * 5 = k1 * 5 := (by omega); have p1 : ¬ k * 5 = k1 * 5 + 1 := (by omega); have p2 : ¬ k * 5 = k1 * 5 + 2 := (by omega); have p3 : ¬ k * 5 = k1 * 5 + 3 := (by omega); have p4 : ¬ k * 5 = k1 * 5 + 4 := (by omega); have q1 : ¬ k * 5 + 1 = k1 * 5 := (by omega); have q2 : ¬ k * 5 + 2 = k1 * 5 := (by omega); have q3 : ¬ k * 5 + 3 = k1 * 5 := (by omega); have q4 : ¬ k * 5 + 4 = k1 * 5 := (by omega)
          clear hend hr hs2 hs' hwq
          obtain ⟨⟨x0, x1, x2, x3, x4⟩, xf0, xf1, xf2, xf3, xf4⟩ := f1
          obtain ⟨⟨y0, y1, y2, y3, y4⟩, yf0, yf1, yf2, yf3, yf4⟩ := f2
          have HK1 := Lib.hid hk1
          clear hk1
          go_big_region
          clear x0 x1 x2 x3 x4 xf0 xf1 xf2 xf3 xf4 y0 y1 y2 y3 y4 yf0 yf1 yf2 yf3 yf4 hp1 hq1 n0 n1 n2 n3 n4 m1 m2 m3 m4 p0 p1 p2 p3 p4 q1 q2 q3 q4
          clear wk
          go_wp2_with fail
          go_roundw
          case rel =>
            obtain ⟨_, hs', hp', hx'⟩ := HR2.out
            have hk1 := HK1.out
            refine ⟨k + 1, m' + 1, swp dk' k k1, by omega, by omega, by go_num, Lib.hid ⟨HE.out, by rw [size_swp]; exact hs', permIn_trans _ _ _ _ _ hp' (swp_permIn _ _ _ _ _ (by omega) (by omega) (by omega) (by omega) (by omega)), fun x hx => ?_⟩⟩
            rw [swp_at _ (by omega) (by omega), rot_right _ _ _ (by omega)]
            rw [show k + 1 - 1 = k by omega, ← hk1]
            unfold swpF
            dsimp only
            rw [hx' x hx, hx' k (by omega), hx' k1 (by omega), ← hk1]
          case measure => simp [intOf]; omega
        · have HIK := Lib.hid (show i = k + 1 by omega)
          have hge : ¬ (k : Int) < (i : Int) - 1 := by omega
          clear hlt hki
          go_wp2_with fail
          refine bodyPost_ret (v := .tuple #[]) (by simp [results, Tryz.results58, go_sem]) rfl ?_
          obtain ⟨_, hs', hp', hx'⟩ := HR2.out
          have hik := HIK.out
          subst hik
          have hmm := HMM.out
          subst hmm
          exact ⟨rfl, m', dk', os', rfl, hs', post1 HSW.out HP.out HR.out.2 hp' (fun x hx => hx' x (by have := HS.out; omega))⟩
set_option maxRecDepth 100000 in
set_option maxHeartbeats 8000000 in
/-- One to the right. -/
theorem sym_right (hC : SortC rc w blk n) (hcmp : CmpC rc cf g w blk n) (eg : ∀ args w, (callFunc g args).run Tryz.prog w = .ok (.enter g args) w) (hS : SWO lt) (a mm cap : Nat) (hs : dk.size = n) (h2 : a + 1 < mm) (hP : Pre (ltOf cf) lt a mm (mm + 1) dk) :
    Calls Tryz.prog 58 #[.slice (some ⟨blk, 0, none⟩) n cap, .int .i64 (a : Int), .int .i64 (mm : Int), .int .i64 ((mm + 1 : Nat) : Int), .func (.func g) #[] #[]] (SW rc w blk m dk os) fun en w' =>
      en = .returned (.tuple #[]) ∧ Merged rc w blk n lt a (mm + 1) dk w' := by
  have HC := Lib.hid hC; have HS := Lib.hid hs; have HCMP := Lib.hid hcmp; have HSW := Lib.hid hS; have HP := Lib.hid hP
  have hsz := hC.sz; have ham := hP.am; have hbs := hP.bs
  have hbn : mm < n := by omega
  have mixed : Tryz.prog.follows .mixedOrders = true := by kernel_rfl
  obtain ⟨b, hmm⟩ : ∃ b, b = mm + 1 := ⟨_, rfl⟩
  rw [← hmm]
  have e1 : ((mm : Int) - (a : Int) == 1) = false := by rw [beq_eq_false_iff_ne]; omega
  have e0 : ¬ (mm : Int) - (a : Int) = 1 := by omega
  have e2 : (b : Int) - (mm : Int) = 1 := by omega
  have HMM := Lib.hid hmm
  have hbn2 : b ≤ n := by omega
  clear hC hcmp hS hP hs hbs hmm
  go_enter Tryz.func58, Tryz.ntmps58
  go_wp2_with fail
  clear e1 e2 e0
  go_loopw [14, 15] (fun iv jv wr => ∃ i j m' os', a ≤ i ∧ i ≤ j ∧ j ≤ mm ∧ iv = .int .i64 (i : Int) ∧ jv = .int .i64 (j : Int) ∧ Hid (wr = SW rc w blk m' dk os' ∧ Srch (fun x => !ltOf cf dk[mm]! dk[x]!) a mm i j)) (fun iv jv _ => (intOf jv).toNat - (intOf iv).toNat)
  case atStart => exact ⟨a, mm, m, os, Nat.le_refl _, by omega, Nat.le_refl _, rfl, rfl, Lib.hid ⟨rfl, Srch.begin _ (by omega)⟩⟩
  case round =>
    obtain ⟨i, j, m', os', him, hij, hjb, rfl, rfl, HR⟩ := hrel
    have hw := HR.out.1
    subst hw
    by_cases hlt : i < j
    · obtain ⟨h, hh⟩ : ∃ h, h = (i + j) / 2 := ⟨_, rfl⟩
      have hih : i ≤ h := by omega
      have hhj : h < j := by omega
      have hn' : h < n := by omega
      go_upto_region 17 with fail
      rw [show ((i : Int) + (j : Int)) / 2 = (h : Int) by omega]
      have HH := Lib.hid hh
      clear hh
      obtain ⟨x, hx⟩ : ∃ x, dk[mm]! = x := ⟨_, rfl⟩
      obtain ⟨y, hy⟩ : ∃ y, dk[h]! = y := ⟨_, rfl⟩
      obtain ⟨wq, hwq⟩ : ∃ X, X = SW rc w blk m' dk os' := ⟨_, rfl⟩
      have gx := at_grown hwq HC.out HS.out (show mm < n by omega) hx
      have gy := at_grown hwq HC.out HS.out (show h < n by omega) hy
      have hcg := cmp_grown (x := x) (y := y) hwq HCMP.out HS.out
      have X0 := fun k os' => (gx k os').1; have X1 := fun k os' => (gx k os').2.1; have X2 := fun k os' => (gx k os').2.2.1; have X3 := fun k os' => (gx k os').2.2.2.1; have X4 := fun k os' => (gx k os').2.2.2.2
      have Y0 := fun k os' => (gy k os').1; have Y1 := fun k os' => (gy k os').2.1; have Y2 := fun k os' => (gy k os').2.2.1; have Y3 := fun k os' => (gy k os').2.2.2.1; have Y4 := fun k os' => (gy k os').2.2.2.2
      have hp1 : (mm : Int) < (n : Int) := by omega
      have hq1 : (h : Int) < (n : Int) := by omega
      have HX := Lib.hid hx; have HY := Lib.hid hy; have HWQ := Lib.hid hwq
      rw [← hwq]
      clear gx gy hx hy hwq
      by_cases hlv : cf x y < 0
      · go_quiet_grown (first | (go_at_fn g; refine Calls.grown_of (hcg _ _)))
        clear X0 X1 X2 X3 X4 Y0 Y1 Y2 Y3 Y4 hcg
        have hw2 : grow (wq.drewN nq) osq = SW rc w blk (m' + nq) dk (os' ++ osq) := by rw [HWQ.out]; exact sw_grown _ _
        have HW2 := Lib.hid hw2
        clear hw2
        go_wp2_with fail
        go_roundw
        case rel => exact ⟨i, h, _, _, him, hih, by omega, rfl, rfl, Lib.hid ⟨HW2.out, HR.out.2.down (anti2 HSW.out HP.out) hih hhj (by have e : ltOf cf dk[mm]! dk[h]! = true := by { rw [HX.out, HY.out]; exact decide_eq_true hlv }; simp only [e, Bool.not_true])⟩⟩
        case measure => simp [intOf]; omega
      · go_quiet_grown (first | (go_at_fn g; refine Calls.grown_of (hcg _ _)))
        clear X0 X1 X2 X3 X4 Y0 Y1 Y2 Y3 Y4 hcg
        have hw2 : grow (wq.drewN nq) osq = SW rc w blk (m' + nq) dk (os' ++ osq) := by rw [HWQ.out]; exact sw_grown _ _
        have HW2 := Lib.hid hw2
        clear hw2
        go_wp2_with fail
        go_roundw
        case rel => exact ⟨h + 1, j, _, _, by omega, by omega, hjb, by go_num, rfl, Lib.hid ⟨HW2.out, HR.out.2.up (anti2 HSW.out HP.out) hih hhj (by have e : ltOf cf dk[mm]! dk[h]! = false := by { rw [HX.out, HY.out]; exact decide_eq_false hlv }; simp only [e, Bool.not_false])⟩⟩
        case measure => simp [intOf]; omega
    · obtain rfl : i = j := by omega
      clear hlt hij
      go_wp2_with fail
      go_loopw [17] (fun kv wr => ∃ k m' dk', i ≤ k ∧ k ≤ mm ∧ kv = .int .i64 (k : Int) ∧ Hid (wr = SW rc w blk m' dk' os' ∧ dk'.size = n ∧ PermIn a b dk dk' ∧ ∀ x, x < n → dk'[x]! = rotF (fun y => dk[y]!) k mm (mm + 1) x)) (fun kv _ => (intOf kv).toNat)
      case atStart => exact ⟨mm, m', dk, by omega, Nat.le_refl _, rfl, Lib.hid ⟨rfl, HS.out, permIn_refl _ _ _, fun x _ => by rw [rot_none_left]⟩⟩
      case round =>
        obtain ⟨k, m', dk', hik, hkm, rfl, HR2⟩ := hrel
        have hw := HR2.out.1
        subst hw
        by_cases hlt : i < k
        · obtain ⟨k1, hk1⟩ : ∃ k1, k = k1 + 1 := ⟨k - 1, by omega⟩
          have hs' := HR2.out.2.1
          have hlt' : (k : Int) > (i : Int) := by omega
          have hlt'' : (i : Int) < (k : Int) := by omega
          go_upto_region 23 with fail
          have wk : IntKind.i64.wrap ((k : Int) - 1) = (k1 : Int) := by rw [IntKind.wrap_i64]; omega
          obtain ⟨r, hr⟩ : ∃ r, r = rc dk'[k]! := ⟨_, rfl⟩
          obtain ⟨s, hs2⟩ : ∃ r, r = rc dk'[k1]! := ⟨_, rfl⟩
          obtain ⟨wq, hwq⟩ : ∃ X, X = SW rc w blk m' dk' os' := ⟨_, rfl⟩
          have f1 := sw_at (m := m') (os := os') HC.out hs' (i := k) (by omega)
          have f2 := sw_at (m := m') (os := os') HC.out hs' (i := k1) (by omega)
          have hend := sw_swap (m := m') (os := os') HC.out hs' (i := k) (j := k1) (by omega) (by omega)
          rw [← hwq, ← hr] at f1
          rw [← hwq, ← hs2] at f2
          rw [← hwq, ← hr, ← hs2] at hend
          rw [← hwq]
          have HE := Lib.hid hend
          have HSJ := Lib.hid hs'; have HWQ := Lib.hid hwq
          have hp1 : (k : Int) < (n : Int) := by omega
          have hq1 : (k1 : Int) < (n : Int) := by omega
          have n0 : ¬ k1 * 5 = k * 5 := (by omega); have n1 : ¬ k1 * 5 = k * 5 + 1 := (by omega); have n2 : ¬ k1 * 5 = k * 5 + 2 := (by omega); have n3 : ¬ k1 * 5 = k * 5 + 3 := (by omega); have n4 : ¬ k1 * 5 = k * 5 + 4 := (by omega); have m1 : ¬ k1 * 5 + 1 = k * 5 := (by omega); have m2 : ¬ k1 * 5 + 2 = k * 5 := (by omega); have m3 : ¬ k1 * 5 + 3 = k * 5 := (by omega); have m4 : ¬ k1 * 5 + 4 = k * 5 := (by omega); have p0 : ¬ k * 5 = k1 * 5 := (by omega); have p1 : ¬ k * 5 = k1 * 5 + 1 := (by omega); have p2 : ¬ k * 5 = k1 * 5 + 2 := (by omega); have p3 : ¬ k * 5 = k1 * 5 + 3 := (by omega); have p4 : ¬ k * 5 = k1 * 5 + 4 := (by omega); have q1 : ¬ k * 5 + 1 = k1 * 5 := (by omega); have q2 : ¬ k * 5 + 2 = k1 * 5 := (by omega); have q3 : ¬ k * 5 + 3 = k1 * 5 := (by omega); have q4 : ¬ k * 5 + 4 = k1 * 5 := (by omega)
          clear hend hr hs2 hs' hwq
          obtain ⟨⟨x0, x1, x2, x3, x4⟩, xf0, xf1, xf2, xf3, xf4⟩ := f1
          obtain ⟨⟨y0, y1, y2, y3, y4⟩, yf0, yf1, yf2, yf3, yf4⟩ := f2
          have HK1 := Lib.hid hk1
          clear hk1
          go_big_region
          clear x0 x1 x2 x3 x4 xf0 xf1 xf2 xf3 xf4 y0 y1 y2 y3 y4 yf0 yf1 yf2 yf3 yf4 hp1 hq1 n0 n1 n2 n3 n4 m1 m2 m3 m4 p0 p1 p2 p3 p4 q1 q2 q3 q4
          clear wk
          go_wp2_with fail
          go_roundw
          case rel =>
            obtain ⟨_, hs', hp', hx'⟩ := HR2.out
            have hk1 := HK1.out
            have hbm := HMM.out
            refine ⟨k1, m' + 1, swp dk' k k1, by omega, by omega, by congr 1; omega, Lib.hid ⟨HE.out, by rw [size_swp]; exact hs', permIn_trans _ _ _ _ _ hp' (swp_permIn _ _ _ _ _ (by omega) (by omega) (by omega) (by omega) (by omega)), fun x hx => ?_⟩⟩
            rw [swp_at _ (by omega) (by omega), rot_left _ _ _ (show k1 < mm by omega)]
            rw [← hk1]
            unfold swpF
            dsimp only
            rw [hx' x hx, hx' k (by omega), hx' k1 (by omega)]
          case measure => simp [intOf]; omega
        · have HIK := Lib.hid (show i = k by omega)
          have hge : ¬ (k : Int) > (i : Int) := by omega
          have hge' : ¬ (i : Int) < (k : Int) := by omega
          clear hlt hik
          go_wp2_with fail
          refine bodyPost_ret (v := .tuple #[]) (by simp [results, Tryz.results58, go_sem]) rfl ?_
          obtain ⟨_, hs', hp', hx'⟩ := HR2.out
          have hik := HIK.out
          subst hik
          have hmm := HMM.out
          subst hmm
          exact ⟨rfl, m', dk', os', rfl, hs', post2 HSW.out HP.out HR.out.2 hp' (fun x hx => hx' x (by have := HS.out; omega))⟩
end
end Go.Proofs.YtnloommafgnanaaGreat

/-
  gazetteerlaw11.alive: the closed fact; gazetteerlaw11.PolicyLimits: the walk.
-/
import Derived.Test.YtnbdlaedbbcnjaaLimR
import Derived.Test.YtnbdlaedbbcnjaaIns
namespace Go.Proofs.Ytnbdlaedbbcnjaa
open Go.RowKit

theorem ad_block (a : Addr) (n : Nat) : (a.add n).block = a.block := by unfold Addr.add; split <;> rfl
theorem ad_add (a : Addr) (i j : Nat) : (a.add i).add j = a.add (i + j) := by
  unfold Addr.add
  by_cases hi : i = 0 <;> by_cases hj : j = 0 <;> simp [hi, hj, Nat.add_assoc]
theorem limT_refT : ∀ o, RefT o → ¬ LimT o := by
  intro o h h'
  cases o with
  | cells c t fz =>
    rcases h with h | h <;> rcases h' with h' | h' | h' <;> rw [h] at h' <;> exact absurd h' (by decide)
  | _ => exact h
theorem refT_limT : ∀ o, LimT o → ¬ RefT o := fun o h h' => limT_refT o h' h

def al (n : Nat) : ByteArray := ⟨#[97, 98, 99, (n : Nat).toUInt8]⟩
theorem fr_false {B : Nat} {T : Obj → Prop} {w w' : World} (h : Fr B (fun _ => False) w w') : Fr B T w w' := h.mono fun _ h => h.elim

theorem fr_of_below {w w' : World} {T : Obj → Prop} (h : Below w.heap.size w w') : Fr w.heap.size T w w' := ⟨h, fun k o hk _ => by rw [h.block k (heap_lt hk)]; exact hk⟩

theorem alive_any (w : World) : Calls Try.prog 7 #[] w fun e w' => e = .returned (.bool true) ∧ Below w.heap.size w w' := by
  have i1 : insideB ⟨#[97, 98, 99, 100]⟩ 31 ⟨#[97, 98, 99, 101]⟩ = true := by decide
  have i2 : insideB ⟨#[97, 98, 99, 100]⟩ 32 ⟨#[97, 98, 99, 101]⟩ = false := by decide
  have a1 : (lim.allow 1 2 5 [] ⟨#[97, 98, 99, 100]⟩).1 = true := by decide
  have a2 : (lim.allow 1 2 5 (lim.allow 1 2 5 [] ⟨#[97, 98, 99, 100]⟩).2 ⟨#[97, 98, 99, 101]⟩).1 = true := by decide
  have a3 : (lim.allow 1 2 5 (lim.allow 1 2 5 (lim.allow 1 2 5 [] ⟨#[97, 98, 99, 100]⟩).2 ⟨#[97, 98, 99, 101]⟩).2 ⟨#[97, 98, 99, 102]⟩).1 = false := by decide
  have a4 : (lim.allow 1 2 6 (lim.allow 1 2 5 (lim.allow 1 2 5 (lim.allow 1 2 5 [] ⟨#[97, 98, 99, 100]⟩).2 ⟨#[97, 98, 99, 101]⟩).2 ⟨#[97, 98, 99, 102]⟩).2 ⟨#[97, 98, 99, 103]⟩).1 = true := by decide
  have g0 := lim.good_nil 2
  have g1 := lim.allow_good (rate := 1) (now := 5) (frm := ⟨#[97, 98, 99, 100]⟩) (by omega) (by omega) (by omega) g0
  have g2 := lim.allow_good (rate := 1) (now := 5) (frm := ⟨#[97, 98, 99, 101]⟩) (by omega) (by omega) (by omega) g1
  have g3 := lim.allow_good (rate := 1) (now := 5) (frm := ⟨#[97, 98, 99, 102]⟩) (by omega) (by omega) (by omega) g2
  have I1 := Lib.hid i1; have I2 := Lib.hid i2
  have A1 := Lib.hid a1; have A2 := Lib.hid a2; have A3 := Lib.hid a3; have A4 := Lib.hid a4
  have G0 := Lib.hid g0; have G1 := Lib.hid g1; have G2 := Lib.hid g2; have G3 := Lib.hid g3
  clear i1 i2 a1 a2 a3 a4 g0 g1 g2 g3
  go_enter Try.func7, Try.ntmps7
  go_wp2_with fail
  refine (newLimiter_good 1 2 w (by omega) (by omega) (by omega) (by omega)).mono ?_
  rintro e w1 ⟨lp, rfl, hi, hf⟩
  go_wp2_with fail
  refine (inside_any _ _ _ _).mono ?_
  rintro e w2 ⟨rfl, hf2⟩
  rw [I1.out]
  go_wp2_with fail
  refine (inside_any _ _ _ _).mono ?_
  rintro e w3 ⟨rfl, hf3⟩
  rw [I2.out]
  have hi := (hi.fr hf2 (fun _ _ h => h)).fr hf3 (fun _ _ h => h)
  have hF := (hf.trans ((fr_false hf2).monoB hf.below.size)).trans ((fr_false hf3).monoB (Nat.le_trans hf.below.size hf2.below.size))
  clear hf hf2 hf3
  go_wp2_with fail
  refine (allow_any _ 5 w.heap.size lp 1 2 [] w3 G0.out (by omega) (by omega) (by omega) (by omega) (by omega) (by omega) hi).mono ?_
  rintro e w4 ⟨rfl, hi, hf⟩
  have hF := hF.trans hf
  clear hf
  rw [A1.out]
  go_wp2_with fail
  refine (allow_any _ 5 w.heap.size lp 1 2 _ w4 G1.out (by omega) (by omega) (by omega) (by omega) (by omega) (by omega) hi).mono ?_
  rintro e w5 ⟨rfl, hi, hf⟩
  have hF := hF.trans hf
  clear hf
  rw [A2.out]
  go_wp2_with fail
  refine (allow_any _ 5 w.heap.size lp 1 2 _ w5 G2.out (by omega) (by omega) (by omega) (by omega) (by omega) (by omega) hi).mono ?_
  rintro e w6 ⟨rfl, hi, hf⟩
  have hF := hF.trans hf
  clear hf
  rw [A3.out]
  go_wp2_with fail
  refine (allow_any _ 6 w.heap.size lp 1 2 _ w6 G3.out (by omega) (by omega) (by omega) (by omega) (by omega) (by omega) hi).mono ?_
  rintro e w7 ⟨rfl, hi, hf⟩
  have hF := hF.trans hf
  clear hf
  rw [A4.out]
  go_wp2
  go_ret
  exact ⟨rfl, hF.below⟩

/-! ### The law -/
set_option maxRecDepth 100000 in
theorem rallow_bad (s : ByteArray) (now : Int) (p : Value) (w : World) (hs : addrB s = false) :
    Calls Try.prog 9 #[p, .string s, .int .i64 now] w fun e w' => e = .returned (.bool false) ∧ w = w' := by
  go_enter Try.func9, Try.ntmps9
  go_wp2_with (first | (go_at_call 15; refine (raddress_any _ _).mono ?_; rintro e w' ⟨rfl, rfl⟩))
  go_ret
  exact ⟨rfl, rfl⟩

/-- (*gazetteerref11.Limiter).Allow. -/
theorem rallow_any (s : ByteArray) (now : Int) (B lp : Nat) (rate burst : Int) (S : List lim.One) (w : World) (hg : lim.Good burst S)
    (hr0 : 0 ≤ rate) (hr1 : rate ≤ 1000) (hb0 : 1 ≤ burst) (hb1 : burst ≤ 1000) (hn0 : -9223372036854775808 ≤ now) (hn1 : now ≤ 9223372036854775807)
    (hinv : RimInv w B lp rate burst S) :
    Calls Try.prog 9 #[.pointer (some ⟨lp, 0, none⟩), .string s, .int .i64 now] w fun e w' =>
      e = .returned (.bool (lim.allow rate burst now S s).1) ∧ RimInv w' B lp rate burst (lim.allow rate burst now S s).2 ∧ Fr B RefT w w' := by
  by_cases hs : addrB s = true
  · have h : s.size = 4 ∨ s.size = 16 := by simpa [addrB] using hs
    have ha : lim.allow rate burst now S s = lim.ask rate burst now S (lim.keyOf s) := by unfold lim.allow; rw [if_pos h]
    rw [ha]
    exact rallow_ask s now B lp rate burst S w hs hg hr0 hr1 hb0 hb1 hn0 hn1 hinv
  · have hs' : addrB s = false := by simpa using hs
    have h : ¬ (s.size = 4 ∨ s.size = 16) := by intro h; exact hs (by simpa [addrB] using h)
    have ha : lim.allow rate burst now S s = (false, S) := by unfold lim.allow; rw [if_neg h]
    rw [ha]
    exact (rallow_bad s now _ w hs').mono fun e w' ⟨he, hw⟩ => ⟨he, by rw [← hw]; exact hinv, by rw [← hw]; exact Fr.refl _ _ _⟩

def callV (c : ByteArray × Int) : List Value := [.string c.1, .int .i64 c.2]

/-- Both limiters after some calls: what the law's loop keeps. -/
def bothAt (rate burst : Int) (cs : List (ByteArray × Int)) : List lim.One := cs.foldl (fun S c => (lim.allow rate burst c.2 S c.1).2) []
theorem bothAt_snoc (rate burst : Int) (cs : List (ByteArray × Int)) (c : ByteArray × Int) : bothAt rate burst (cs ++ [c]) = (lim.allow rate burst c.2 (bothAt rate burst cs) c.1).2 := by
  simp [bothAt]
theorem bothAt_good {rate burst : Int} (hr : 0 ≤ rate) (hb : 1 ≤ burst) (cs : List (ByteArray × Int)) (hc : ∀ c ∈ cs, -9223372036854775808 ≤ c.2 ∧ c.2 ≤ 9223372036854775807) : lim.Good burst (bothAt rate burst cs) := by
  unfold bothAt
  have : ∀ (cs : List (ByteArray × Int)) (S : List lim.One), (∀ c ∈ cs, -9223372036854775808 ≤ c.2 ∧ c.2 ≤ 9223372036854775807) → lim.Good burst S → lim.Good burst (cs.foldl (fun S c => (lim.allow rate burst c.2 S c.1).2) S) := by
    intro cs
    induction cs with
    | nil => intro S _ h; exact h
    | cons c cs ih =>
      intro S hc h
      exact ih _ (fun x hx => hc x (List.mem_cons_of_mem _ hx)) (lim.allow_good hr hb (hc c List.mem_cons_self) h)
  exact this cs [] hc (lim.good_nil burst)

set_option maxHeartbeats 1000000 in
theorem limits_good (rate burst : Int) (A : Option Addr) (n c : Nat) (cs : List (ByteArray × Int)) (w : World) (hr0 : 0 ≤ rate) (hr1 : rate ≤ 1000) (hb0 : 1 ≤ burst) (hb1 : burst ≤ 1000)
    (hlen : cs.length = n) (hm : n ≤ 9223372036854775807) (hcs : ∀ c ∈ cs, -9223372036854775808 ≤ c.2 ∧ c.2 ≤ 9223372036854775807)
    (hcell : ∀ (k : Nat) (x : ByteArray × Int), cs[k]? = some x → ∃ b off, A = some ⟨b, off, none⟩ ∧ b < w.heap.size ∧ w.cell? ⟨b, off + k * 2, none⟩ = some (.string x.1) ∧ w.cell? ⟨b, off + k * 2 + 1, none⟩ = some (.int .i64 x.2)) :
    Calls Try.prog 3 #[.int .i64 rate, .int .i64 burst, .slice A n c] w fun e w' => e = .returned (.bool true) ∧ Below w.heap.size w w' := by
  have HC := Lib.hid hcell; have HCS := Lib.hid hcs; have HL := Lib.hid hlen
  clear hcell hcs hlen
  go_enter Try.func3, Try.ntmps3
  go_wp2_with (first
    | (go_at_call 6; refine (newLimiter_good rate burst w hr0 hr1 hb0 hb1).mono ?_; rintro e w1 ⟨lp, rfl, hi1, hf1⟩)
    | (go_at_call 7; refine (alive_any _).mono ?_; rintro e w2 ⟨rfl, hf2⟩))
  have hi2 := (hi1.fr (fr_of_below (T := fun _ => False) hf2) (fun _ _ h => h)).fr ((Fr.refl w2.heap.size (fun _ => False) w2).alloc (Nat.le_refl _) (.cells #[.int .i64 rate, .int .i64 burst, .slice none 0 0] 31)) (fun _ _ h => h)
  have hw2 : w.heap.size ≤ w2.heap.size := Nat.le_trans hf1.below.size hf2.size
  have hB2 : Below w.heap.size w (w2.alloc (.cells #[.int .i64 rate, .int .i64 burst, .slice none 0 0] 31)) := (hf1.below.trans (hf2.mono hf1.below.size)).alloc hw2 _
  have hr2 : RimInv (w2.alloc (.cells #[.int .i64 rate, .int .i64 burst, .slice none 0 0] 31)) w.heap.size w2.heap.size rate burst [] := ⟨_, heap_new_at rfl, hw2, RowAt.nil_ _ _ _ _⟩
  generalize w2.heap.size = mp at *
  clear hi1 hf1 hf2 hw2
  go_loopw [63, 12] (fun i _ wr => ∃ k : Nat, k ≤ n ∧ i = .int .i64 k ∧ LimInv wr w.heap.size lp rate burst (bothAt rate burst (cs.take k)) ∧ RimInv wr w.heap.size mp rate burst (bothAt rate burst (cs.take k)) ∧ Below w.heap.size w wr) (fun i _ _ => n - (intOf i).toNat)
  case atStart => exact ⟨0, Nat.zero_le _, rfl, hi2, hr2, hB2⟩
  case round =>
    obtain ⟨k, hk, rfl, hi, hr, hB⟩ := hrel
    clear hi2 hr2 hB2
    by_cases hlt : k < n
    · obtain ⟨⟨xf, xn⟩, hx⟩ : ∃ x, cs[k]? = some x := ⟨_, List.getElem?_eq_getElem (by rw [HL.out]; exact hlt)⟩
      obtain ⟨b, off, rfl, hadb, g1, g2⟩ := HC.out k _ hx
      have g1 := (hB.cell (p := ⟨b, off + k * 2, none⟩) hadb).trans g1
      have g2 := (hB.cell (p := ⟨b, off + k * 2 + 1, none⟩) hadb).trans g2
      dsimp only at g1 g2
      have hgood : lim.Good burst (bothAt rate burst (cs.take k)) := bothAt_good hr0 hb0 _ (fun c hc => HCS.out c (List.mem_of_mem_take hc))
      obtain ⟨xn0, xn1⟩ := HCS.out _ (List.mem_of_getElem? hx)
      dsimp only at xn0 xn1
      have hsnoc : bothAt rate burst (cs.take (k + 1)) = (lim.allow rate burst xn (bothAt rate burst (cs.take k)) xf).2 := by
        rw [List.take_add_one, hx]
        exact bothAt_snoc rate burst (cs.take k) (xf, xn)
      have fa := (Fr.refl wr.heap.size (fun _ => False) wr).alloc (Nat.le_refl _) (.cells #[.string xf, .int .i64 xn] 33)
      have hi := hi.fr fa (fun _ _ h => h)
      have hr := hr.fr fa (fun _ _ h => h)
      have hB := hB.alloc hB.size (.cells #[.string xf, .int .i64 xn] 33)
      have hbx : (wr.alloc (.cells #[.string xf, .int .i64 xn] 33)).heap[wr.heap.size]? = some (.cells #[.string xf, .int .i64 xn] 33 (0, 0)) := heap_new_at rfl
      have HI := Lib.hid hi; have HR := Lib.hid hr; have HB := Lib.hid hB; have HG := Lib.hid hgood; have HSN := Lib.hid hsnoc; have HBX := Lib.hid hbx
      clear hi hr hx fa hB hgood hsnoc hbx
      go_wp2
      clear g1 g2
      generalize wr.alloc (.cells #[.string xf, .int .i64 xn] 33) = W1 at *
      generalize wr.heap.size = cb at *
      generalize bothAt rate burst (cs.take k) = S at *
      have g1 : W1.cell? ⟨cb, 0, none⟩ = some (.string xf) := by rw [heap_cell HBX.out]; rfl
      have g2 : W1.cell? ⟨cb, 1, none⟩ = some (.int .i64 xn) := by rw [heap_cell HBX.out]; rfl
      go_region_held3 (fun w' => w'.cell? ⟨cb, 0, none⟩ = some (.string xf) ∧ w'.cell? ⟨cb, 1, none⟩ = some (.int .i64 xn)) (go_keep)
        (first
          | (go_at_call 8; refine (allow_any xf xn w.heap.size lp rate burst S _ HG.out hr0 hr1 hb0 hb1 xn0 xn1 (HI.out.fr ((Fr.refl w.heap.size (fun _ => False) W1).drew) (fun _ _ h => h))).mono ?_; rintro e w5 ⟨rfl, hi5, hf5⟩; have hbx5 := hf5.kept cb _ HBX.out (by simp [LimT]); have g1 : w5.cell? ⟨cb, 0, none⟩ = some (.string xf) := (by rw [heap_cell hbx5]; rfl); have g2 : w5.cell? ⟨cb, 1, none⟩ = some (.int .i64 xn) := (by rw [heap_cell hbx5]; rfl); have HI5 := Lib.hid hi5; have HR5 := Lib.hid ((HR.out.fr ((Fr.refl w.heap.size (fun _ => False) W1).drew) (fun _ _ h => h)).fr hf5 limT_refT); have HB5 := Lib.hid (HB.out.drew.trans hf5.below); have HBX5 := Lib.hid hbx5; clear hi5 hf5 hbx5)
          | (go_at_call 9; refine (rallow_any xf xn w.heap.size mp rate burst S w5 HG.out hr0 hr1 hb0 hb1 xn0 xn1 HR5.out).mono ?_; rintro e w6 ⟨rfl, hr6, hf6⟩; have hbx6 := hf6.kept cb _ HBX5.out (by simp [RefT]); have g1 : w6.cell? ⟨cb, 0, none⟩ = some (.string xf) := (by rw [heap_cell hbx6]; rfl); have g2 : w6.cell? ⟨cb, 1, none⟩ = some (.int .i64 xn) := (by rw [heap_cell hbx6]; rfl); have HR6 := Lib.hid hr6; have HI6 := Lib.hid (HI5.out.fr hf6 refT_limT); have HB6 := Lib.hid (HB5.out.trans hf6.below); clear hr6 hf6 hbx6))
      go_wp2
      go_roundw
      case rel => exact ⟨k + 1, by omega, by go_num, by rw [HSN.out]; exact HI6.out, by rw [HSN.out]; exact HR6.out, HB6.out⟩
      case measure => simp [intOf]; omega
    · have HB := Lib.hid hB
      clear hi hr hB
      go_wp2
      go_ret
      exact ⟨rfl, HB.out⟩
end Go.Proofs.Ytnbdlaedbbcnjaa

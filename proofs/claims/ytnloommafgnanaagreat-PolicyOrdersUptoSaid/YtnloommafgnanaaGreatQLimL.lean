/-
  policy.Inside.
-/
import Derived.Test.YtnloommafgnanaaGreatQLimA
import Derived.Test.YtnloommafgnanaaGreatQLimC
import Derived.Deep.DeepCutAuto
import Derived.Deep.CutBlock
import Derived.Outline
import Derived.BigQuiet
import Derived.BigRegion
import Derived.Deep.QuietTactic
import Derived.Deep.DrawnRows
import Derived.Deep.RegionLaw
namespace Go.Proofs.YtnloommafgnanaaGreat
open Go.RowKit

/-- The k-th bit of some bytes. -/
def bitOf (s : ByteArray) (k : Nat) : Nat := ((s.data.toList[k / 8]?.getD 0).toNat / 2 ^ (7 - k % 8)) % 2
/-- Do two texts agree in their first bits? -/
def agree (a b : ByteArray) : Nat → Bool
  | 0 => true
  | k + 1 => agree a b k && bitOf b k == bitOf a k
/-- Is an address inside a net? -/
def insideB (net : ByteArray) (bits : Int) (a : ByteArray) : Bool :=
  addrB net && a.size == net.size && decide (0 ≤ bits) && decide (bits ≤ 8 * a.size) && agree net a bits.toNat

theorem agree_false {a b : ByteArray} {k n : Nat} (h : k < n) (hf : agree a b (k + 1) = false) : agree a b n = false := by
  induction n with
  | zero => omega
  | succ n ih =>
    rcases Nat.lt_or_ge k n with hk | hk
    · rw [agree, ih hk, Bool.false_and]
    · obtain rfl : k = n := by omega
      exact hf
theorem bits_xor_u8 (a b : Nat) (ha : a < 256) (hb : b < 256) : bits .xor .u8 (a : Int) (b : Int) = ((a ^^^ b : Nat) : Int) := by
  have hx : a ^^^ b < 2 ^ 8 := Nat.xor_lt_two_pow (by omega) (by omega)
  have h1 : (BitVec.ofInt 8 (a : Int)).toNat = a := by
    rw [BitVec.ofInt_natCast, BitVec.toNat_ofNat]; exact Nat.mod_eq_of_lt (by omega)
  have h2 : (BitVec.ofInt 8 (b : Int)).toNat = b := by
    rw [BitVec.ofInt_natCast, BitVec.toNat_ofNat]; exact Nat.mod_eq_of_lt (by omega)
  show IntKind.u8.wrap ((BitVec.ofInt 8 (a : Int) ^^^ BitVec.ofInt 8 (b : Int)).toNat : Int) = _
  rw [BitVec.toNat_xor, h1, h2, IntKind.wrap_u8]
  omega
theorem bits_and1_u8 (a : Nat) (ha : a < 256) : bits .and .u8 (a : Int) 1 = ((a % 2 : Nat) : Int) := by
  have h1 : (BitVec.ofInt 8 (a : Int)).toNat = a := by
    rw [BitVec.ofInt_natCast, BitVec.toNat_ofNat]; exact Nat.mod_eq_of_lt (by omega)
  show IntKind.u8.wrap ((BitVec.ofInt 8 (a : Int) &&& BitVec.ofInt 8 1).toNat : Int) = _
  rw [BitVec.toNat_and, h1, show (BitVec.ofInt 8 1).toNat = 1 from rfl, Nat.and_one_is_mod, IntKind.wrap_u8]
  omega
/-- The program's test of two bits. -/
theorem bit_test (x y n : Nat) (hx : x < 256) (hy : y < 256) : (bits .and .u8 (bits .xor .u8 (x : Int) (y : Int) / 2 ^ n) 1 == 1) = !(x / 2 ^ n % 2 == y / 2 ^ n % 2) := by
  have hz : x ^^^ y < 2 ^ 8 := Nat.xor_lt_two_pow (by omega) (by omega)
  have hd : (x ^^^ y) / 2 ^ n ≤ x ^^^ y := Nat.div_le_self _ _
  rw [bits_xor_u8 x y hx hy]
  have e1 : ((x ^^^ y : Nat) : Int) / 2 ^ n = (((x ^^^ y) / 2 ^ n : Nat) : Int) := by simp
  rw [e1, bits_and1_u8 _ (by omega)]
  have h1 := Nat.testBit_xor x y n
  rw [Nat.testBit_eq_decide_div_mod_eq, Nat.testBit_eq_decide_div_mod_eq, Nat.testBit_eq_decide_div_mod_eq] at h1
  have hx2 : x / 2 ^ n % 2 = 0 ∨ x / 2 ^ n % 2 = 1 := by omega
  have hy2 : y / 2 ^ n % 2 = 0 ∨ y / 2 ^ n % 2 = 1 := by omega
  have hz2 : (x ^^^ y) / 2 ^ n % 2 = 0 ∨ (x ^^^ y) / 2 ^ n % 2 = 1 := by omega
  rcases hx2 with a | a <;> rcases hy2 with b | b <;> rcases hz2 with c | c <;> rw [a, b, c] at h1 <;> rw [a, b, c] <;> simp at h1 ⊢

theorem byte_at {s : ByteArray} {i : Nat} (h : i < s.size) : s[i] = s.data.toList[i]?.getD 0 := by
  rw [List.getElem?_eq_getElem (by simpa using h)]; rfl

/-- One bit more. -/
theorem bit_step {net a : ByteArray} {k : Nat} (hn : k / 8 < net.size) (ha : k / 8 < a.size) :
    (bits .and .u8 (bits .xor .u8 (net[k / 8].toNat : Int) (a[k / 8].toNat : Int) / 2 ^ (7 - k % 8)) 1 == 1) = !(bitOf a k == bitOf net k) := by
  rw [bit_test _ _ _ (UInt8.toNat_lt _) (UInt8.toNat_lt _)]
  unfold bitOf
  rw [byte_at hn, byte_at ha, Bool.beq_comm]

set_option maxHeartbeats 1000000 in
theorem inside_loop (net a : ByteArray) (nb : Int) (w : World) (h1 : addrB net = true) (h2 : a.size = net.size) (h3 : 0 ≤ nb) (h4 : nb ≤ 8 * a.size) :
    Calls Tryz.prog 15 #[.agg #[.string net, .int .i64 nb], .string a] w fun e w' => e = .returned (.bool (insideB net nb a)) ∧ Fr w.heap.size (fun _ => False) w w' := by
  have hsz : net.size = 4 ∨ net.size = 16 := by simpa [addrB] using h1
  have h5 : nb ≤ 128 := by omega
  have hn : (a.size : Int) = net.size := by omega
  have b1 : ((a.size : Int) != net.size) = false := by rw [bne_eq_false_iff_eq]; omega
  have H2 := Lib.hid h2
  have HSZ := Lib.hid hsz
  have h6 : (a.size : Int) ≤ 16 := by omega
  clear hn h2 hsz
  go_enter Tryz.func15, Tryz.ntmps15
  go_wp2_with (first | (go_at_call 37; refine (address_any _ _).mono ?_; rintro e w' ⟨rfl, rfl⟩))
  go_loopw [33, 5] (fun i _ wr => ∃ k : Nat, (k : Int) ≤ nb ∧ i = .int .i64 k ∧ agree net a k = true ∧ wr.heap[w.heap.size]? = some (.cells #[.string net, .int .i64 nb] 39 (0, 0)) ∧ Fr w.heap.size (fun _ => False) w wr) (fun i _ _ => (nb - intOf i).toNat)
  case atStart => exact ⟨0, by omega, rfl, rfl, heap_new_at rfl, (Fr.refl _ _ _).alloc (Nat.le_refl _) _⟩
  case round =>
    obtain ⟨k, hk, rfl, hag, hbx, hfr⟩ := hrel
    have HAG := Lib.hid hag
    clear hag
    by_cases hlt : (k : Int) < nb
    · have hi1 : (k : Int) / 8 < a.size := by omega
      have hi2 : (k : Int) / 8 < net.size := by have := H2.out; omega
      have hcell : wr.cell? ⟨w.heap.size, 0, none⟩ = some (.string net) := by rw [heap_cell hbx]; rfl
      go_wp2
      have hi3 : (0 : Int) ≤ (k : Int) / 8 := by omega
      have hst := bit_step (net := net) (a := a) (k := k) (by omega) (by omega)
      have hag1 : agree net a (k + 1) = (bitOf a k == bitOf net k) := by rw [agree, HAG.out, Bool.true_and]
      have HST := Lib.hid hst
      have HA1 := Lib.hid hag1
      have HFR := Lib.hid hfr; have HBX := Lib.hid hbx
      clear hst hag1 hfr
      go_region
      go_wp2
      · have ht := ‹(bits .and .u8 _ 1 == 1) = true›
        rw [HST.out] at ht
        go_ret
        refine ⟨?_, HFR.out.drew⟩
        have hf : agree net a nb.toNat = false := agree_false (k := k) (by omega) (by rw [HA1.out]; simpa using ht)
        simp [insideB, hf]
      · have ht := ‹(bits .and .u8 _ 1 == 1) = false›
        rw [HST.out] at ht
        go_roundw
        case rel => exact ⟨k + 1, by omega, by go_num, by rw [HA1.out]; simpa using ht, HBX.out, HFR.out.drew⟩
        case measure => simp [intOf]; omega
    · have hke : (k : Int) = nb := by omega
      go_wp2
      go_ret
      refine ⟨?_, hfr⟩
      have e1 : insideB net nb a = true := by
        unfold insideB
        rw [h1, H2.out]
        have : nb.toNat = k := by omega
        rw [this, HAG.out]
        simp
        exact ⟨h3, by have := H2.out; omega⟩
      rw [e1]
      rfl

theorem inside_no (net a : ByteArray) (nb : Int) (w : World) (h : ¬ (addrB net = true ∧ a.size = net.size ∧ 0 ≤ nb ∧ nb ≤ 8 * a.size)) :
    Calls Tryz.prog 15 #[.agg #[.string net, .int .i64 nb], .string a] w fun e w' => e = .returned (.bool false) ∧ Fr w.heap.size (fun _ => False) w w' := by
  have hfr : Fr w.heap.size (fun _ => False) w (w.alloc (.cells #[.string net, .int .i64 nb] 39)) := (Fr.refl _ _ _).alloc (Nat.le_refl _) _
  by_cases h1 : addrB net = true
  · by_cases h2 : a.size = net.size
    · have hs : net.size = 4 ∨ net.size = 16 := by simpa [addrB] using h1
      have b1 : ((a.size : Int) != net.size) = false := by rw [bne_eq_false_iff_eq]; omega
      have h6 : (a.size : Int) ≤ 16 := by omega
      by_cases h3 : nb < 0
      · clear h h2 hs
        go_enter Tryz.func15, Tryz.ntmps15
        go_wp2_with (first | (go_at_call 37; refine (address_any _ _).mono ?_; rintro e w' ⟨rfl, rfl⟩))
        go_ret
        exact ⟨rfl, hfr⟩
      · have h4 : 8 * (a.size : Int) < nb := by
          rcases Int.lt_or_le (8 * (a.size : Int)) nb with h4 | h4
          · exact h4
          · exact absurd ⟨h1, h2, by omega, h4⟩ h
        clear h h2 hs
        go_enter Tryz.func15, Tryz.ntmps15
        go_wp2_with (first | (go_at_call 37; refine (address_any _ _).mono ?_; rintro e w' ⟨rfl, rfl⟩))
        go_ret
        exact ⟨rfl, hfr⟩
    · have b1 : ((a.size : Int) != net.size) = true := by rw [bne_iff_ne]; omega
      clear h h2
      go_enter Tryz.func15, Tryz.ntmps15
      go_wp2_with (first | (go_at_call 37; refine (address_any _ _).mono ?_; rintro e w' ⟨rfl, rfl⟩))
      go_ret
      exact ⟨rfl, hfr⟩
  · have h1' : addrB net = false := by simpa using h1
    clear h h1
    go_enter Tryz.func15, Tryz.ntmps15
    go_wp2_with (first | (go_at_call 37; refine (address_any _ _).mono ?_; rintro e w' ⟨rfl, rfl⟩))
    go_ret
    exact ⟨rfl, hfr⟩

/-- policy.Inside. -/
theorem inside_any (net a : ByteArray) (nb : Int) (w : World) :
    Calls Tryz.prog 15 #[.agg #[.string net, .int .i64 nb], .string a] w fun e w' => e = .returned (.bool (insideB net nb a)) ∧ Fr w.heap.size (fun _ => False) w w' := by
  by_cases h : addrB net = true ∧ a.size = net.size ∧ 0 ≤ nb ∧ nb ≤ 8 * a.size
  · exact inside_loop net a nb w h.1 h.2.1 h.2.2.1 h.2.2.2
  · have e1 : insideB net nb a = false := by
      cases hb : insideB net nb a
      · rfl
      · exfalso
        unfold insideB at hb
        simp only [Bool.and_eq_true, beq_iff_eq, decide_eq_true_eq] at hb
        exact h ⟨hb.1.1.1.1, hb.1.1.1.2, hb.1.1.2, hb.1.2⟩
    rw [e1]
    exact inside_no net a nb w h
end Go.Proofs.YtnloommafgnanaaGreat

/-
  gazetteerlaw11.alive: the closed fact; gazetteerlaw11.PolicyLimits: the walk.
-/
namespace Go.Proofs.YtnloommafgnanaaGreat
open Go.RowKit

theorem fr_false {B : Nat} {T : Obj → Prop} {w w' : World} (h : Fr B (fun _ => False) w w') : Fr B T w w' := h.mono fun _ h => h.elim

theorem alive_any (w : World) : Calls Tryz.prog 4 #[] w fun e w' => e = .returned (.bool true) ∧ Below w.heap.size w w' := by
  have i1 : insideB ⟨#[97, 98, 99, 100]⟩ 31 ⟨#[97, 98, 99, 101]⟩ = true := by decide
  have i2 : insideB ⟨#[97, 98, 99, 100]⟩ 32 ⟨#[97, 98, 99, 101]⟩ = false := by decide
  have a1 : (lim.allow 1 2 5 [] ⟨#[97, 98, 99, 100]⟩).1 = true := by decide
  have a2 : (lim.allow 1 2 5 (lim.allow 1 2 5 [] ⟨#[97, 98, 99, 100]⟩).2 ⟨#[97, 98, 99, 101]⟩).1 = true := by decide
  have a3 : (lim.allow 1 2 5 (lim.allow 1 2 5 (lim.allow 1 2 5 [] ⟨#[97, 98, 99, 100]⟩).2 ⟨#[97, 98, 99, 101]⟩).2 ⟨#[97, 98, 99, 102]⟩).1 = false := by decide
  have a4 : (lim.allow 1 2 6 (lim.allow 1 2 5 (lim.allow 1 2 5 (lim.allow 1 2 5 [] ⟨#[97, 98, 99, 100]⟩).2 ⟨#[97, 98, 99, 101]⟩).2 ⟨#[97, 98, 99, 102]⟩).2 ⟨#[97, 98, 99, 103]⟩).1 = true := by decide
  have g0 := lim.good_nil 2
  have g1 := lim.allow_good (rate := 1) (now := 5) (frm := ⟨#[97, 98, 99, 100]⟩) (by omega) (by omega) (by omega) g0
  have g2 := lim.allow_good (rate := 1) (now := 5) (frm := ⟨#[97, 98, 99, 101]⟩) (by omega) (by omega) (by omega) g1
  have g3 := lim.allow_good (rate := 1) (now := 5) (frm := ⟨#[97, 98, 99, 102]⟩) (by omega) (by omega) (by omega) g2
  have I1 := Lib.hid i1; have I2 := Lib.hid i2
  have A1 := Lib.hid a1; have A2 := Lib.hid a2; have A3 := Lib.hid a3; have A4 := Lib.hid a4
  have G0 := Lib.hid g0; have G1 := Lib.hid g1; have G2 := Lib.hid g2; have G3 := Lib.hid g3
  clear i1 i2 a1 a2 a3 a4 g0 g1 g2 g3
  go_enter Tryz.func4, Tryz.ntmps4
  go_wp2_with fail
  refine (newLimiter_good 1 2 w (by omega) (by omega) (by omega) (by omega)).mono ?_
  rintro e w1 ⟨lp, rfl, hi, hf⟩
  go_wp2_with fail
  refine (inside_any _ _ _ _).mono ?_
  rintro e w2 ⟨rfl, hf2⟩
  rw [I1.out]
  go_wp2_with fail
  refine (inside_any _ _ _ _).mono ?_
  rintro e w3 ⟨rfl, hf3⟩
  rw [I2.out]
  have hi := (hi.fr hf2 (fun _ _ h => h)).fr hf3 (fun _ _ h => h)
  have hF := (hf.trans ((fr_false hf2).monoB hf.below.size)).trans ((fr_false hf3).monoB (Nat.le_trans hf.below.size hf2.below.size))
  clear hf hf2 hf3
  go_wp2_with fail
  refine (allow_any _ 5 w.heap.size lp 1 2 [] w3 G0.out (by omega) (by omega) (by omega) (by omega) (by omega) (by omega) hi).mono ?_
  rintro e w4 ⟨rfl, hi, hf⟩
  have hF := hF.trans hf
  clear hf
  rw [A1.out]
  go_wp2_with fail
  refine (allow_any _ 5 w.heap.size lp 1 2 _ w4 G1.out (by omega) (by omega) (by omega) (by omega) (by omega) (by omega) hi).mono ?_
  rintro e w5 ⟨rfl, hi, hf⟩
  have hF := hF.trans hf
  clear hf
  rw [A2.out]
  go_wp2_with fail
  refine (allow_any _ 5 w.heap.size lp 1 2 _ w5 G2.out (by omega) (by omega) (by omega) (by omega) (by omega) (by omega) hi).mono ?_
  rintro e w6 ⟨rfl, hi, hf⟩
  have hF := hF.trans hf
  clear hf
  rw [A3.out]
  go_wp2_with fail
  refine (allow_any _ 6 w.heap.size lp 1 2 _ w6 G3.out (by omega) (by omega) (by omega) (by omega) (by omega) (by omega) hi).mono ?_
  rintro e w7 ⟨rfl, hi, hf⟩
  have hF := hF.trans hf
  clear hf
  rw [A4.out]
  go_wp2
  go_ret
  exact ⟨rfl, hF.below⟩

/-! ### The law -/
end Go.Proofs.YtnloommafgnanaaGreat

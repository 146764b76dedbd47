/-
  gazetteerlaw11.alive: the closed fact; gazetteerlaw11.PolicyLimits: the walk.
-/
import Derived.Test.YtnloommafgnanaaQLimC
import Derived.Test.YtnloommafgnanaaQIns
import Derived.Deep.CutBlock
import Derived.Deep.DrawnRows
import Derived.Deep.RegionLaw
namespace Go.Proofs.Ytnloommafgnanaa
open Go.RowKit

theorem fr_false {B : Nat} {T : Obj → Prop} {w w' : World} (h : Fr B (fun _ => False) w w') : Fr B T w w' := h.mono fun _ h => h.elim

theorem alive_any (w : World) : Calls Try.prog 5 #[] w fun e w' => e = .returned (.bool true) ∧ Below w.heap.size w w' := by
  have i1 : insideB ⟨#[97, 98, 99, 100]⟩ 31 ⟨#[97, 98, 99, 101]⟩ = true := by decide
  have i2 : insideB ⟨#[97, 98, 99, 100]⟩ 32 ⟨#[97, 98, 99, 101]⟩ = false := by decide
  have a1 : (lim.allow 1 2 5 [] ⟨#[97, 98, 99, 100]⟩).1 = true := by decide
  have a2 : (lim.allow 1 2 5 (lim.allow 1 2 5 [] ⟨#[97, 98, 99, 100]⟩).2 ⟨#[97, 98, 99, 101]⟩).1 = true := by decide
  have a3 : (lim.allow 1 2 5 (lim.allow 1 2 5 (lim.allow 1 2 5 [] ⟨#[97, 98, 99, 100]⟩).2 ⟨#[97, 98, 99, 101]⟩).2 ⟨#[97, 98, 99, 102]⟩).1 = false := by decide
  have a4 : (lim.allow 1 2 6 (lim.allow 1 2 5 (lim.allow 1 2 5 (lim.allow 1 2 5 [] ⟨#[97, 98, 99, 100]⟩).2 ⟨#[97, 98, 99, 101]⟩).2 ⟨#[97, 98, 99, 102]⟩).2 ⟨#[97, 98, 99, 103]⟩).1 = true := by decide
  have g0 := lim.good_nil 2
  have g1 := lim.allow_good (rate := 1) (now := 5) (frm := ⟨#[97, 98, 99, 100]⟩) (by omega) (by omega) (by omega) g0
  have g2 := lim.allow_good (rate := 1) (now := 5) (frm := ⟨#[97, 98, 99, 101]⟩) (by omega) (by omega) (by omega) g1
  have g3 := lim.allow_good (rate := 1) (now := 5) (frm := ⟨#[97, 98, 99, 102]⟩) (by omega) (by omega) (by omega) g2
  have I1 := Lib.hid i1; have I2 := Lib.hid i2
  have A1 := Lib.hid a1; have A2 := Lib.hid a2; have A3 := Lib.hid a3; have A4 := Lib.hid a4
  have G0 := Lib.hid g0; have G1 := Lib.hid g1; have G2 := Lib.hid g2; have G3 := Lib.hid g3
  clear i1 i2 a1 a2 a3 a4 g0 g1 g2 g3
  go_enter Try.func5, Try.ntmps5
  go_wp2_with fail
  refine (newLimiter_good 1 2 w (by omega) (by omega) (by omega) (by omega)).mono ?_
  rintro e w1 ⟨lp, rfl, hi, hf⟩
  go_wp2_with fail
  refine (inside_any _ _ _ _).mono ?_
  rintro e w2 ⟨rfl, hf2⟩
  rw [I1.out]
  go_wp2_with fail
  refine (inside_any _ _ _ _).mono ?_
  rintro e w3 ⟨rfl, hf3⟩
  rw [I2.out]
  have hi := (hi.fr hf2 (fun _ _ h => h)).fr hf3 (fun _ _ h => h)
  have hF := (hf.trans ((fr_false hf2).monoB hf.below.size)).trans ((fr_false hf3).monoB (Nat.le_trans hf.below.size hf2.below.size))
  clear hf hf2 hf3
  go_wp2_with fail
  refine (allow_any _ 5 w.heap.size lp 1 2 [] w3 G0.out (by omega) (by omega) (by omega) (by omega) (by omega) (by omega) hi).mono ?_
  rintro e w4 ⟨rfl, hi, hf⟩
  have hF := hF.trans hf
  clear hf
  rw [A1.out]
  go_wp2_with fail
  refine (allow_any _ 5 w.heap.size lp 1 2 _ w4 G1.out (by omega) (by omega) (by omega) (by omega) (by omega) (by omega) hi).mono ?_
  rintro e w5 ⟨rfl, hi, hf⟩
  have hF := hF.trans hf
  clear hf
  rw [A2.out]
  go_wp2_with fail
  refine (allow_any _ 5 w.heap.size lp 1 2 _ w5 G2.out (by omega) (by omega) (by omega) (by omega) (by omega) (by omega) hi).mono ?_
  rintro e w6 ⟨rfl, hi, hf⟩
  have hF := hF.trans hf
  clear hf
  rw [A3.out]
  go_wp2_with fail
  refine (allow_any _ 6 w.heap.size lp 1 2 _ w6 G3.out (by omega) (by omega) (by omega) (by omega) (by omega) (by omega) hi).mono ?_
  rintro e w7 ⟨rfl, hi, hf⟩
  have hF := hF.trans hf
  clear hf
  rw [A4.out]
  go_wp2
  go_ret
  exact ⟨rfl, hF.below⟩

/-! ### The law -/
end Go.Proofs.Ytnloommafgnanaa

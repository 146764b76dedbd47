import Derived.Test.YtdjjemajfphjaaaGreatQUpdS
import Derived.Deep.CutBlock
namespace Go.Proofs.YtdjjemajfphjaaaGreat
open Go.RowKit Go.Shelf Go.Proofs.YtdjjemajfphjaaaGreat.nm Go.Proofs.YtdjjemajfphjaaaGreat.od
namespace up
def besideT (t : Int) : Bool := decide (t = 46) || decide (t = 47)
end up
def HereAt (w : World) (b4 bn : Nat) (n : ByteArray) : Prop :=
  w.cell? ⟨b4, 0, none⟩ = some (.func (.func 142) #[] #[.pointer (some ⟨bn, 0, none⟩)]) ∧ w.cell? ⟨bn, 0, none⟩ = some (.string n) ∧ b4 < w.heap.size ∧ bn < w.heap.size
theorem HereAt.below {w w' : World} {b4 bn : Nat} {n : ByteArray} (h : HereAt w b4 bn n) (hb : Below w.heap.size w w') : HereAt w' b4 bn n :=
  ⟨(hb.cell (p := ⟨b4, 0, none⟩) h.2.2.1).trans h.1, (hb.cell (p := ⟨bn, 0, none⟩) h.2.2.2).trans h.2.1, Nat.lt_of_lt_of_le h.2.2.1 hb.size, Nat.lt_of_lt_of_le h.2.2.2 hb.size⟩
theorem HereAt.keep {w w' : World} {b4 bn st : Nat} {n : ByteArray} (h : HereAt w b4 bn n) (hg : w.grownBy w' (some st)) (h1 : b4 ≠ st) (h2 : bn ≠ st) : HereAt w' b4 bn n :=
  ⟨(World.cell?_of_block (hg.block b4 h.2.2.1 (by simpa using h1))).trans h.1, (World.cell?_of_block (hg.block bn h.2.2.2 (by simpa using h2))).trans h.2.1, Nat.lt_of_lt_of_le h.2.2.1 hg.size, Nat.lt_of_lt_of_le h.2.2.2 hg.size⟩
theorem beside_any (t : Int) (w : World) : Calls Tryz.prog 88 #[.int .i64 t] w fun e w' => e = .returned (.bool (up.besideT t)) ∧ w = w' := by
  by_cases h1 : t = 46
  · have d1 : (t == 46) = true := by rw [beq_iff_eq]; exact h1
    have HR := Lib.hid (show up.besideT t = true by simp [up.besideT, h1])
    clear h1
    go_enter Tryz.func88, Tryz.ntmps88
    go_wp2_with fail
    go_ret
    exact ⟨ret_b HR.out.symm, rfl⟩
  · have d1 : (t == 46) = false := by rw [beq_eq_false_iff_ne]; exact h1
    by_cases h2 : t = 47
    · have d2 : (t == 47) = true := by rw [beq_iff_eq]; exact h2
      have HR := Lib.hid (show up.besideT t = true by simp [up.besideT, h2])
      clear h1 h2
      go_enter Tryz.func88, Tryz.ntmps88
      go_wp2_with fail
      go_ret
      exact ⟨ret_b HR.out.symm, rfl⟩
    · have d2 : (t == 47) = false := by rw [beq_eq_false_iff_ne]; exact h2
      have HR := Lib.hid (show up.besideT t = false by simp [up.besideT, h1, h2])
      clear h1 h2
      go_enter Tryz.func88, Tryz.ntmps88
      go_wp2_with fail
      go_ret
      exact ⟨ret_b HR.out.symm, rfl⟩
set_option maxRecDepth 100000 in
set_option maxHeartbeats 1000000 in
theorem add3_any (x : Rec) (b4 bn : Nat) (n : ByteArray) (w : World) (hh : HereAt w b4 bn n) :
    Calls Tryz.prog 91 #[recV x, .pointer (some ⟨b4, 0, none⟩)] w fun e w' => e = .returned (.bool (hereB n x && decide (x.typ = 5))) ∧ Below w.heap.size w w' := by
  obtain ⟨wa, hwa⟩ : ∃ W, W = w.alloc (.cells (recC x).toArray 51) := ⟨_, rfl⟩
  obtain ⟨hBa, hsa, hxa⟩ := rec_new w wa x hwa
  obtain ⟨bx, hbx⟩ : ∃ b, b = w.heap.size := ⟨_, rfl⟩
  rw [← hbx] at hxa
  have hbxl : bx < wa.heap.size := by omega
  obtain ⟨x0, x1, x2, x3, x4⟩ := id hxa
  have HWA := Lib.hid hwa; have HBX := Lib.hid hbx; have HBXL := Lib.hid hbxl; have HXA := Lib.hid hxa; have HBA := Lib.hid hBa
  have HH := Lib.hid (hh.below hBa)
  obtain ⟨c4, cn, l4, ln⟩ := id HH.out
  have hcf := callFunc_at1
  have CA := Lib.hid (at1_any_ x bn n wa ln cn)
  clear hwa hBa hsa hbx hbxl hxa hh cn l4 ln
  go_enter Tryz.func91, Tryz.ntmps91
  go_upto_region 1 with fail
  rw [← HWA.out, ← HBX.out]
  go_wp2_with fail
  refine CA.out.mono ?_
  rintro e w2 ⟨rfl, hB2⟩
  obtain ⟨y0, y1, y2, y3, y4⟩ := HXA.out.keep (hB2.block bx HBXL.out)
  have HB2 := Lib.hid (HBA.out.trans (hB2.mono HBA.out.size))
  clear hB2 x0 x1 x2 x3 x4 c4
  obtain ⟨hb, hhb⟩ : ∃ hb, hb = hereB n x := ⟨_, rfl⟩
  rw [← hhb]
  have HHB := Lib.hid hhb
  clear hhb
  cases hb
  · have HR := Lib.hid (show (hereB n x && decide (x.typ = 5)) = false by rw [← HHB.out]; rfl)
    go_wp2_with fail
    go_ret
    exact ⟨ret_b HR.out.symm, HB2.out⟩
  · by_cases h5 : x.typ = 5
    · have d5 : (x.typ == 5) = true := by rw [beq_iff_eq]; exact h5
      have HR := Lib.hid (show (hereB n x && decide (x.typ = 5)) = true by rw [← HHB.out]; simp [h5])
      clear h5
      go_wp2_with fail
      go_ret
      exact ⟨ret_b HR.out.symm, HB2.out⟩
    · have d5 : (x.typ == 5) = false := by rw [beq_eq_false_iff_ne]; exact h5
      have HR := Lib.hid (show (hereB n x && decide (x.typ = 5)) = false by rw [← HHB.out]; simp [h5])
      clear h5
      go_wp2_with fail
      go_ret
      exact ⟨ret_b HR.out.symm, HB2.out⟩
theorem like_if {α : Type} (g0 f0 : ByteArray) (g1 f1 : Int) (g2 f2 : ByteArray) (A B : α) : (if g0.toList = f0.toList then (if g1 = f1 then (if g2.toList = f2.toList then A else B) else B) else B) = if (g0, g1, g2) = (f0, f1, f2) then A else B := by
  have e : ∀ a b : ByteArray, a.toList = b.toList ↔ a = b := fun a b => by rw [← str_eq, beq_iff_eq]
  simp only [e, Prod.mk.injEq]
  by_cases h0 : g0 = f0 <;> by_cases h1 : g1 = f1 <;> by_cases h2 : g2 = f2 <;> simp [h0, h1, h2]
def likeB (f : ByteArray × Int × ByteArray) (x : Rec) : Bool := decide (zn.fullR x = f)
def LikeAt (w : World) (b : Nat) (f : ByteArray × Int × ByteArray) : Prop :=
  w.cell? ⟨b, 0, none⟩ = some (.string f.1) ∧ w.cell? ⟨b, 1, none⟩ = some (.int .i64 f.2.1) ∧ w.cell? ⟨b, 2, none⟩ = some (.string f.2.2) ∧ b < w.heap.size
theorem LikeAt.below {w w' : World} {b : Nat} {f : ByteArray × Int × ByteArray} (h : LikeAt w b f) (hb : Below w.heap.size w w') : LikeAt w' b f :=
  ⟨(hb.cell (p := ⟨b, 0, none⟩) h.2.2.2).trans h.1, (hb.cell (p := ⟨b, 1, none⟩) h.2.2.2).trans h.2.1, (hb.cell (p := ⟨b, 2, none⟩) h.2.2.2).trans h.2.2.1, Nat.lt_of_lt_of_le h.2.2.2 hb.size⟩
set_option maxRecDepth 100000 in
set_option maxHeartbeats 1000000 in
theorem add4_any (x : Rec) (b : Nat) (f : ByteArray × Int × ByteArray) (w : World) (hh : LikeAt w b f) :
    Calls Tryz.prog 92 #[recV x, .pointer (some ⟨b, 0, none⟩)] w fun e w' => e = .returned (.bool (likeB f x)) ∧ Below w.heap.size w w' := by
  obtain ⟨wa, hwa⟩ : ∃ W, W = w.alloc (.cells (recC x).toArray 51) := ⟨_, rfl⟩
  obtain ⟨hBa, hsa, hxa⟩ := rec_new w wa x hwa
  obtain ⟨bx, hbx⟩ : ∃ b, b = w.heap.size := ⟨_, rfl⟩
  rw [← hbx] at hxa
  have hbxl : bx < wa.heap.size := by omega
  obtain ⟨x0, x1, x2, x3, x4⟩ := id hxa
  have HWA := Lib.hid hwa; have HBX := Lib.hid hbx; have HBXL := Lib.hid hbxl; have HXA := Lib.hid hxa; have HBA := Lib.hid hBa
  obtain ⟨f0, f1, f2⟩ := f
  obtain ⟨c0, c1, c2, -⟩ := hh.below hBa
  obtain ⟨⟨g0, g1, g2⟩, hg⟩ : ∃ g, g = zn.fullR x := ⟨_, rfl⟩
  have CK : Hid (∀ p, Calls Tryz.prog 31 #[.agg #[.string x.owner, .int .i64 x.typ, .int .i64 x.cls, .int .i64 x.ttl, .string x.data]] (gw wa p) fun e w'' => e = .returned (.agg #[.string g0, .int .i64 g1, .string g2]) ∧ ∃ p', w'' = gw wa p') := Lib.hid fun p => by have h := key_any x (gw wa p); rw [← hg] at h; exact calls_gw h
  obtain ⟨q, hq⟩ : ∃ q, q = likeB (f0, f1, f2) x := ⟨_, rfl⟩
  rw [← hq]
  have fq : decide ((g0, g1, g2) = (f0, f1, f2)) = q := by rw [hq, hg]; rfl
  have FQ := Lib.hid fq
  clear fq
  have HG := Lib.hid hg
  have k0 := gw_cell x0; have k1 := gw_cell x1; have k2 := gw_cell x2; have k3 := gw_cell x3; have k4 := gw_cell x4
  have k5 := gw_cell c0; have k6 := gw_cell c1; have k7 := gw_cell c2
  clear hg hq hwa hBa hsa hbx hbxl hxa hh x0 x1 x2 x3 x4 c0 c1 c2
  go_enter Tryz.func92, Tryz.ntmps92
  go_upto_region 1 with fail
  rw [← HWA.out, ← HBX.out]
  refine wp_region_gw (by kernel_rfl) (by kernel_rfl) ?_
  repeat (with_reducible refine wpQuiet_step (fun K hK => ?_); go_simp; (try simp only [undef]); first | (with_reducible refine hK _ ?_; clear hK K) | (apply Exists.intro; refine ⟨fun _ => ?_, hK _ ?_⟩; (go_at_call 31; with_reducible exact CK.out _); clear hK K))
  with_reducible refine wpQuiet_step (fun K hK => ?_)
  go_simp
  refine ⟨.bool q, fun _ => ?_, hK _ ?_⟩
  · rw [like_if]
    by_cases h : (g0, g1, g2) = (f0, f1, f2)
    · rw [if_pos h, ← FQ.out, decide_eq_true h]; exact ⟨rfl, rfl⟩
    · rw [if_neg h, ← FQ.out, decide_eq_false h]; exact ⟨rfl, rfl⟩
  clear hK K
  repeat (with_reducible refine wpQuiet_step (fun K hK => ?_); go_simp; (try simp only [undef]); (with_reducible refine hK _ ?_; clear hK K))
  refine wpQuiet_nil ?_
  (try simp only [show Value.tuple #[] = undef from rfl])
  intro W hW
  have hBW : Below wa.heap.size wa W := by obtain ⟨p, rfl⟩ := hW; exact gw_below _ p
  clear hW
  go_wp2_with fail
  go_ret
  exact ⟨rfl, HBA.out.trans (hBW.mono HBA.out.size)⟩
end Go.Proofs.YtdjjemajfphjaaaGreat
namespace Go.Proofs.YtdjjemajfphjaaaGreat
open Go.RowKit Go.Shelf Go.Proofs.YtdjjemajfphjaaaGreat.nm Go.Proofs.YtdjjemajfphjaaaGreat.od
namespace up
end up
def ChangePost (w : World) (base st : Nat) (apex : ByteArray) (l : List Rec) (e : Ending) (w' : World) : Prop := e = .returned (.tuple #[]) ∧ StockAt w' base st apex l ∧ Below base w w'
theorem StockAt.base_ {w : World} {base st : Nat} {apex : ByteArray} {l : List Rec} (h : StockAt w base st apex l) : base ≤ st := by obtain ⟨_, _, h, _⟩ := h; exact h
end Go.Proofs.YtdjjemajfphjaaaGreat

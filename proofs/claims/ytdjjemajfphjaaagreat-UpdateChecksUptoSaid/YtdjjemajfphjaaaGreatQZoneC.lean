import Derived.Test.YtdjjemajfphjaaaGreatQMapF
import Derived.Test.YtdjjemajfphjaaaGreatQZoneA
import Derived.Test.YtdjjemajfphjaaaGreatQNameE
import Derived.Deep.AppendLies
import Derived.Lib.OwnKind
namespace Go.Proofs.YtdjjemajfphjaaaGreat
open Go.RowKit Go.WideMaps Go.WideElems
theorem laidOut : laidOutB Tryz.prog = true := by kernel_rfl
set_option maxRecDepth 100000 in
theorem row_key : (102 : TypeId) < Tryz.prog.types.size := of_decide_eq_true (by kernel_rfl)
set_option maxRecDepth 100000 in
theorem row_full : (141 : TypeId) < Tryz.prog.types.size := of_decide_eq_true (by kernel_rfl)
set_option maxRecDepth 100000 in
theorem wide_key : (match Tryz.prog.underlying 102 with | some (.array _ _) | some (.struct _) => true | _ => false) = true := by kernel_rfl
set_option maxRecDepth 100000 in
theorem wide_full : (match Tryz.prog.underlying 141 with | some (.array _ _) | some (.struct _) => true | _ => false) = true := by kernel_rfl
set_option maxRecDepth 100000 in
theorem law_key : KeyLaw Tryz.prog 102 := deep_law_laid laidOut (m := 2) (by omega) row_key (by kernel_rfl) wide_key
set_option maxRecDepth 100000 in
theorem law_full : KeyLaw Tryz.prog 141 := deep_law_laid laidOut (m := 3) (by omega) row_full (by kernel_rfl) wide_full
@[reducible] def keyV (a : ByteArray × Int) : Value := .agg #[.string a.1, .int .i64 a.2]
@[reducible] def fullV (a : ByteArray × Int × ByteArray) : Value := .agg #[.string a.1, .int .i64 a.2.1, .string a.2.2]
def KeyOk (a : ByteArray × Int) : Prop := a.1.size ≤ maxLen ∧ (Lit.int .i64 a.2).wf = true
def FullOk (a : ByteArray × Int × ByteArray) : Prop := a.1.size ≤ maxLen ∧ (Lit.int .i64 a.2.1).wf = true ∧ a.2.2.size ≤ maxLen
theorem kt_key : Tryz.prog.keyType 102 = true := by kernel_rfl
theorem kt_full : Tryz.prog.keyType 141 = true := by kernel_rfl
theorem co_key : Tryz.prog.cellsOf 102 = 2 := by kernel_rfl
theorem co_full : Tryz.prog.cellsOf 141 = 3 := by kernel_rfl
theorem co_str : Tryz.prog.cellsOf 9 = 1 := by kernel_rfl
theorem co_int : Tryz.prog.cellsOf 3 = 1 := by kernel_rfl
theorem lits_key (n : Nat) (a : ByteArray × Int) (ha : KeyOk a) : ∃ l, Tryz.prog.keyLits (n + 2) 102 [.string a.1, .int .i64 a.2] = some l := by
  obtain ⟨k1, k2⟩ := ha
  simp [Program.keyLits, Tryz.underlying102, Tryz.underlying9, Tryz.underlying3, co_key, co_str, co_int, k1, k2]
theorem keyE : KeyE Tryz.prog 102 keyV KeyOk where
  law := law_key
  key := fun a ha => by
    obtain ⟨l, hl⟩ := lits_key 238 a ha
    have hf : Value.formed Tryz.prog 102 (keyV a) = true := by kernel_rfl
    have hs : Tryz.prog.types.size = 239 := by kernel_rfl
    refine ⟨.string (keyBytes l), ?_⟩
    unfold keyOf
    rw [Tryz.underlying102]
    simp only [kt_key, hf, Bool.and_true, if_true, hs]
    rw [show (keyV a).cells.toList = [.string a.1, .int .i64 a.2] from rfl, hl]
    rfl
  inj := fun a b h => by
    obtain ⟨a1, a2⟩ := a
    obtain ⟨b1, b2⟩ := b
    simp at h
    rw [h.1, h.2]
theorem lits_full (n : Nat) (a : ByteArray × Int × ByteArray) (ha : FullOk a) : ∃ l, Tryz.prog.keyLits (n + 3) 141 [.string a.1, .int .i64 a.2.1, .string a.2.2] = some l := by
  obtain ⟨k1, k2, k3⟩ := ha
  simp [Program.keyLits, Tryz.underlying141, Tryz.underlying102, Tryz.underlying9, Tryz.underlying3, co_full, co_key, co_str, co_int, k1, k2, k3]
  rw [if_pos]
  · exact ⟨_, rfl⟩
  · intro i hi
    match i, hi with
    | 0, _ => simp
    | 1, _ => simp
theorem fullE : KeyE Tryz.prog 141 fullV FullOk where
  law := law_full
  key := fun a ha => by
    obtain ⟨l, hl⟩ := lits_full 237 a ha
    have hf : Value.formed Tryz.prog 141 (fullV a) = true := by kernel_rfl
    have hs : Tryz.prog.types.size = 239 := by kernel_rfl
    refine ⟨.string (keyBytes l), ?_⟩
    unfold keyOf
    rw [Tryz.underlying141]
    simp only [kt_full, hf, Bool.and_true, if_true, hs]
    rw [show (fullV a).cells.toList = [.string a.1, .int .i64 a.2.1, .string a.2.2] from rfl, hl]
    rfl
  inj := fun a b h => by
    obtain ⟨a1, a2, a3⟩ := a
    obtain ⟨b1, b2, b3⟩ := b
    simp at h
    rw [h.1, h.2.1, h.2.2]
def StrOk (a : ByteArray) : Prop := a.size ≤ maxLen
theorem strE : KeyE Tryz.prog 9 Value.string StrOk where
  law := string_law Tryz.underlying9
  key := fun _ ha => ⟨_, keyOf_string_mk Tryz.underlying9 ha⟩
  inj := fun a b h => by simpa using h
end Go.Proofs.YtdjjemajfphjaaaGreat
namespace Go.Proofs.YtdjjemajfphjaaaGreat
open Go.RowKit Go.Shelf Go.Proofs.YtdjjemajfphjaaaGreat.nm
theorem wp_region_gw {P : Program} {id : Nat} {Q : Exit → Act → World → Prop} {a : Act} {w : World} {l : List Oper} (hm : P.follows .mixedOrders = true) (hB : Region.lexB .any l.toArray = true)
    (h : wpQuiet P l.toArray (fun W => ∃ p, W = gw w p) (fun a' => ∀ W, (∃ p, W = gw w p) → Q .normal a' W) l a) : (Code.region id l.toArray true).wp P Q a w :=
  wp_region_quiet (C := fun W => ∃ p, W = gw w p) hm hB (gw_draw w) (by simpa using h)
def ZoneAt (w : World) (z : Nat) (apex : ByteArray) (rv sv tv : Value) : Prop := w.heap[z]? = some (.cells #[.string apex, rv, sv, tv] 94 (0, 0))
namespace zn
def firstB (bad : Nat → Bool) (n : Nat) : Option Nat := (List.range n).find? bad
theorem firstB_some {bad : Nat → Bool} {n k : Nat} (hk : k < n) (h : bad k = true) (hb : ∀ j, j < k → bad j = false) : firstB bad n = some k := by
  unfold firstB
  rw [List.find?_eq_some_iff_getElem]
  exact ⟨h, k, by simpa using hk, by simp, fun j hj => by simp [hb j hj]⟩
theorem firstB_none {bad : Nat → Bool} {n : Nat} (h : ∀ j, j < n → bad j = false) : firstB bad n = none := by
  unfold firstB
  rw [List.find?_eq_none]
  intro x hx
  rw [h x (List.mem_range.1 hx)]
  simp
def bad1 (r : Rec) : Bool := !(checkB r.owner && decide (r.cls = 1) && decide (0 ≤ r.ttl) && decide (r.ttl ≤ 2147483647) && decide (dt.chkI r.typ r.data = 0))
def atB (l : List Rec) (f : Rec → Bool) (k : Nat) : Bool := match l[k]? with
  | some r => f r
  | none => false
theorem atB_get {l : List Rec} {f : Rec → Bool} {k : Nat} (h : k < l.length) : atB l f k = f l[k] := by
  unfold atB
  rw [List.getElem?_eq_getElem h]
def plainR (apex : ByteArray) (l : List Rec) : Option (Int × Int) :=
  match firstB (atB l bad1) l.length with
  | some k => some (k, 8)
  | none => match firstB (atB l fun r => !withinB r.owner apex) l.length with
    | some k => some (k, 5)
    | none => none
end zn
def Thrown (o : Option (Int × Int)) (e : Ending) : Prop := match o with
  | some (k, c) => e = .panicked [{ v := brokenV k c, recovered := false }]
  | none => e = .returned (.tuple #[])
theorem each_first {n : Nat} {code : Int} {bad : Nat → Bool} {Inv : Nat → World → Prop} {e : Ending} {w' : World} (h : EachPost n code bad Inv e w') :
    (∃ k : Nat, zn.firstB bad n = some k ∧ k < n ∧ e = .panicked [{ v := brokenV k code, recovered := false }] ∧ Inv (k + 1) w') ∨ (zn.firstB bad n = none ∧ (∀ j, j < n → bad j = false) ∧ e = .returned (.tuple #[]) ∧ Inv n w') := by
  rcases h with ⟨k, h1, h2, h3, h4, h5⟩ | ⟨h1, h2, h3⟩
  · exact .inl ⟨k, zn.firstB_some h1 h2 h3, h1, h4, h5⟩
  · exact .inr ⟨zn.firstB_none h1, h1, h2, h3⟩
set_option maxRecDepth 100000 in
set_option maxHeartbeats 1000000 in
theorem plain1_any (k : Int) (r : Rec) (w : World) : Calls Tryz.prog 105 #[.int .i64 k, recV r] w fun e w' => e = .returned (.bool (zn.bad1 r)) ∧ Below w.heap.size w w' := by
  have hB := Lib.hid ((Below.refl _ w).alloc (Nat.le_refl _) (.cells (recC r).toArray 51))
  cases hc : checkB r.owner
  · have hr : zn.bad1 r = true := by unfold zn.bad1; rw [hc]; rfl
    have HR := Lib.hid hr; have HC := Lib.hid hc
    clear hr hc
    go_enter Tryz.func105, Tryz.ntmps105
    go_wp2_with fail
    refine (check_any _ _).mono ?_
    rintro e w1 ⟨rfl, hB1⟩
    rw [HC.out, okV_f]
    go_wp2_with fail
    go_ret
    exact ⟨ret_b HR.out.symm, hB.out.trans (hB1.mono hB.out.size)⟩
  · by_cases h1 : r.cls = 1
    · have b1 : (r.cls != 1) = false := by rw [h1]; rfl
      by_cases h2 : 0 ≤ r.ttl
      · by_cases h3 : r.ttl ≤ 2147483647
        · have hr : zn.bad1 r = !decide (dt.chkI r.typ r.data = 0) := by unfold zn.bad1; rw [hc, decide_eq_true h1, decide_eq_true h2, decide_eq_true h3]; rfl
          by_cases h4 : dt.chkI r.typ r.data = 0
          · rw [decide_eq_true h4] at hr
            have HR := Lib.hid hr; have HC := Lib.hid hc; have H1 := Lib.hid h1; have H4 := Lib.hid h4
            clear hr hc h1 h4
            go_enter Tryz.func105, Tryz.ntmps105
            go_wp2_with fail
            refine (check_any _ _).mono ?_
            rintro e w1 ⟨rfl, hB1⟩
            rw [HC.out, okV_t]
            have hb2 := hB.out.trans (hB1.mono hB.out.size)
            have c1 := (hB1.cell (p := ⟨w.heap.size, 1, none⟩) (by simp)).trans (rec_cell w r 51 1 _ rfl)
            have c2 := (hB1.cell (p := ⟨w.heap.size, 2, none⟩) (by simp)).trans (rec_cell w r 51 2 _ rfl)
            have c3 := (hB1.cell (p := ⟨w.heap.size, 3, none⟩) (by simp)).trans (rec_cell w r 51 3 _ rfl)
            have c4 := (hB1.cell (p := ⟨w.heap.size, 4, none⟩) (by simp)).trans (rec_cell w r 51 4 _ rfl)
            go_wp2_with fail
            refine (dcheck_any _ _ _).mono ?_
            rintro e w2 ⟨rfl, hB2⟩
            rw [H4.out]
            go_wp2_with fail
            go_ret
            exact ⟨ret_b (by rw [HR.out]; simp; omega), hb2.trans (hB2.mono hb2.size)⟩
          · rw [decide_eq_false h4] at hr
            have b4 : (dt.chkI r.typ r.data == 0) = false := by rw [beq_eq_false_iff_ne]; exact h4
            have b5 : (dt.chkI r.typ r.data != 0) = true := by rw [bne_iff_ne]; exact h4
            have HR := Lib.hid hr; have HC := Lib.hid hc; have H1 := Lib.hid h1
            clear hr hc h1 h4
            go_enter Tryz.func105, Tryz.ntmps105
            go_wp2_with fail
            refine (check_any _ _).mono ?_
            rintro e w1 ⟨rfl, hB1⟩
            rw [HC.out, okV_t]
            have hb2 := hB.out.trans (hB1.mono hB.out.size)
            have c1 := (hB1.cell (p := ⟨w.heap.size, 1, none⟩) (by simp)).trans (rec_cell w r 51 1 _ rfl)
            have c2 := (hB1.cell (p := ⟨w.heap.size, 2, none⟩) (by simp)).trans (rec_cell w r 51 2 _ rfl)
            have c3 := (hB1.cell (p := ⟨w.heap.size, 3, none⟩) (by simp)).trans (rec_cell w r 51 3 _ rfl)
            have c4 := (hB1.cell (p := ⟨w.heap.size, 4, none⟩) (by simp)).trans (rec_cell w r 51 4 _ rfl)
            go_wp2_with fail
            refine (dcheck_any _ _ _).mono ?_
            rintro e w2 ⟨rfl, hB2⟩
            go_wp2_with fail
            go_ret
            exact ⟨ret_b (by rw [HR.out]; rfl), hb2.trans (hB2.mono hb2.size)⟩
        · have hr : zn.bad1 r = true := by unfold zn.bad1; rw [decide_eq_false h3]; simp
          have HR := Lib.hid hr; have HC := Lib.hid hc; have H1 := Lib.hid h1
          clear hr hc h1
          go_enter Tryz.func105, Tryz.ntmps105
          go_wp2_with fail
          refine (check_any _ _).mono ?_
          rintro e w1 ⟨rfl, hB1⟩
          rw [HC.out, okV_t]
          have c2 := (hB1.cell (p := ⟨w.heap.size, 2, none⟩) (by simp)).trans (rec_cell w r 51 2 _ rfl)
          have c3 := (hB1.cell (p := ⟨w.heap.size, 3, none⟩) (by simp)).trans (rec_cell w r 51 3 _ rfl)
          go_wp2_with fail
          go_ret
          exact ⟨ret_b HR.out.symm, hB.out.trans (hB1.mono hB.out.size)⟩
      · have hr : zn.bad1 r = true := by unfold zn.bad1; rw [decide_eq_false h2]; simp
        have HR := Lib.hid hr; have HC := Lib.hid hc; have H1 := Lib.hid h1
        clear hr hc h1
        go_enter Tryz.func105, Tryz.ntmps105
        go_wp2_with fail
        refine (check_any _ _).mono ?_
        rintro e w1 ⟨rfl, hB1⟩
        rw [HC.out, okV_t]
        have c2 := (hB1.cell (p := ⟨w.heap.size, 2, none⟩) (by simp)).trans (rec_cell w r 51 2 _ rfl)
        have c3 := (hB1.cell (p := ⟨w.heap.size, 3, none⟩) (by simp)).trans (rec_cell w r 51 3 _ rfl)
        go_wp2_with fail
        go_ret
        exact ⟨ret_b HR.out.symm, hB.out.trans (hB1.mono hB.out.size)⟩
    · have b1 : (r.cls != 1) = true := by rw [bne_iff_ne]; exact h1
      have hr : zn.bad1 r = true := by unfold zn.bad1; rw [decide_eq_false h1]; simp
      have HR := Lib.hid hr; have HC := Lib.hid hc
      clear hr hc h1
      go_enter Tryz.func105, Tryz.ntmps105
      go_wp2_with fail
      refine (check_any _ _).mono ?_
      rintro e w1 ⟨rfl, hB1⟩
      rw [HC.out, okV_t]
      have c2 := (hB1.cell (p := ⟨w.heap.size, 2, none⟩) (by simp)).trans (rec_cell w r 51 2 _ rfl)
      go_wp2_with fail
      go_ret
      exact ⟨ret_b HR.out.symm, hB.out.trans (hB1.mono hB.out.size)⟩
set_option maxRecDepth 100000 in
set_option maxHeartbeats 1000000 in
theorem plain2_any (k : Int) (r : Rec) (bx z : Nat) (apex : ByteArray) (rv sv tv : Value) (w : World) (hbx : w.cell? ⟨bx, 0, none⟩ = some (.pointer (some ⟨z, 0, none⟩))) (hz : ZoneAt w z apex rv sv tv) :
    Calls Tryz.prog 106 #[.int .i64 k, recV r, .pointer (some ⟨bx, 0, none⟩)] w fun e w' => e = .returned (.bool (!withinB r.owner apex)) ∧ Below w.heap.size w w' := by
  have hB := Lib.hid ((Below.refl _ w).alloc (Nat.le_refl _) (.cells (recC r).toArray 51))
  have e1 := gw_cell (rec_cell w r 51 0 _ rfl)
  have e2 := gw_cell (cell_alloc_l (.cells (recC r).toArray 51) hbx)
  have hz0 : w.cell? ⟨z, 0, none⟩ = some (.string apex) := by rw [heap_cell hz]; rfl
  have e3 := gw_cell (cell_alloc_l (.cells (recC r).toArray 51) hz0)
  have HZ := Lib.hid hz
  clear hbx hz hz0
  go_enter Tryz.func106, Tryz.ntmps106
  go_wp2_with fail
  refine wp_region_gw (by kernel_rfl) (by kernel_rfl) ?_
  repeat (refine wpQuiet_step (fun K hK => ?_); go_simp; first | (refine hK _ ?_; clear hK K) | (apply Exists.intro; refine ⟨fun _ => ?_, hK _ ?_⟩; (first | (go_at_call 71; exact calls_gw (within_any _ _ _))); clear hK K))
  refine wpQuiet_nil ?_
  intro W hW
  have hBW : Below (w.heap.size + 1) (w.alloc (.cells (recC r).toArray 51)) W := by obtain ⟨p, rfl⟩ := hW; simpa using gw_below (w.alloc (.cells (recC r).toArray 51)) p
  clear hW
  go_wp2_with fail
  go_ret
  exact ⟨rfl, hB.out.trans (hBW.mono (by omega))⟩
theorem callFunc_plain1 (args : Array Value) (w : World) : (callFunc 105 args).run Tryz.prog w = .ok (.enter 105 args) w := by kernel_rfl
theorem callFunc_plain2 (args : Array Value) (w : World) : (callFunc 106 args).run Tryz.prog w = .ok (.enter 106 args) w := by kernel_rfl
set_option maxRecDepth 100000 in
set_option maxHeartbeats 1000000 in
theorem plain_any (apex : ByteArray) (l : List Rec) (hl : l.length ≤ 2000) (z : Nat) (rv sv tv : Value) (w : World) (hz : ZoneAt w z apex rv sv tv) (hrv : RecsAt w rv l) :
    Calls Tryz.prog 56 #[.pointer (some ⟨z, 0, none⟩)] w fun e w' => Thrown (zn.plainR apex l) e ∧ Below w.heap.size w w' := by
  obtain ⟨w1, hw1⟩ : ∃ W, W = w.alloc (.cells #[.pointer (some ⟨z, 0, none⟩)] 26) := ⟨_, rfl⟩
  have hB1 : Below w.heap.size w w1 := by rw [hw1]; exact (Below.refl _ w).alloc (Nat.le_refl _) _
  have hbx : w1.cell? ⟨w.heap.size, 0, none⟩ = some (.pointer (some ⟨z, 0, none⟩)) := by rw [hw1, heap_cell (heap_new_at rfl)]; rfl
  have hs1 : w1.heap.size = w.heap.size + 1 := by rw [hw1]; simp
  have hz1 : ZoneAt w1 z apex rv sv tv := (hB1.block z (heap_lt hz)).trans hz
  have hr1 : RecsAt w1 rv l := hrv.below hB1
  have hzc : w1.cell? ⟨z, 1, none⟩ = some rv := by rw [heap_cell hz1]; rfl
  have hzl := heap_lt hz1
  have first := each_any 105 #[] callFunc_plain1 8 l hl rv (zn.atB l zn.bad1) (fun _ W => Below w1.heap.size w1 W)
    (fun _ W h => hr1.below h) (fun _ W W' h h' => h.trans (h'.mono h.size)) (fun k hk W h => by
      refine (plain1_any k l[k] W).mono ?_
      rintro e W' ⟨rfl, hb⟩
      exact ⟨by rw [zn.atB_get hk], h.trans (hb.mono h.size)⟩)
  have second := fun W0 (h0 : Below w1.heap.size w1 W0) => each_any 106 #[.pointer (some ⟨w.heap.size, 0, none⟩)] callFunc_plain2 5 l hl rv (zn.atB l fun r => !withinB r.owner apex) (fun _ W => Below w1.heap.size w1 W)
    (fun _ W h => hr1.below h) (fun _ W W' h h' => h.trans (h'.mono h.size)) (fun k hk W h => by
      refine (plain2_any k l[k] w.heap.size z apex rv sv tv W ((h.cell (p := ⟨w.heap.size, 0, none⟩) (by show w.heap.size < w1.heap.size; omega)).trans hbx) ((h.block z hzl).trans hz1)).mono ?_
      rintro e W' ⟨rfl, hb⟩
      exact ⟨by rw [zn.atB_get hk], h.trans (hb.mono h.size)⟩) W0 h0
  have HF := Lib.hid first; have HS := Lib.hid second; have HW := Lib.hid hw1
  have HZ := Lib.hid hz; have HZ1 := Lib.hid hz1; have HR := Lib.hid hrv; have HR1 := Lib.hid hr1
  have hzw : w.cell? ⟨z, 1, none⟩ = some rv := by rw [heap_cell hz]; rfl
  have hza := fun o => cell_alloc_l (W := w) o hzw
  clear first second hz hz1 hrv hr1 hw1
  go_enter Tryz.func56, Tryz.ntmps56
  go_wp2_with fail
  rw [← HW.out]
  clear hza hzw
  refine (HF.out w1 (Below.refl _ _)).mono ?_
  intro e w2 hp
  rcases each_first hp with ⟨k, hfb, hk, rfl, hB2⟩ | ⟨hfb, _, rfl, hB2⟩
  · have hres : zn.plainR apex l = some ((k : Int), 8) := by unfold zn.plainR; rw [hfb]
    have HRES := Lib.hid hres
    clear hp hfb hres
    go_wp2_with fail
    exact ⟨rfl, (by rw [HRES.out]; rfl), hB1.trans (hB2.mono (by omega))⟩
  · have c1 := (hB2.cell (p := ⟨w.heap.size, 0, none⟩) (by show w.heap.size < w1.heap.size; omega)).trans hbx
    have c2 := (hB2.cell (p := ⟨z, 1, none⟩) hzl).trans hzc
    have HFB := Lib.hid hfb
    clear hp hfb
    go_wp2_with fail
    refine (HS.out w2 hB2).mono ?_
    intro e w3 hp
    rcases each_first hp with ⟨k, hfb, hk, rfl, hB3⟩ | ⟨hfb, _, rfl, hB3⟩
    · have hres : zn.plainR apex l = some ((k : Int), 5) := by unfold zn.plainR; rw [HFB.out]; simp only [hfb]
      have HRES := Lib.hid hres
      clear hp hfb hres
      go_wp2_with fail
      exact ⟨rfl, (by rw [HRES.out]; rfl), hB1.trans (hB3.mono (by omega))⟩
    · have hres : zn.plainR apex l = none := by unfold zn.plainR; rw [HFB.out]; simp only [hfb]
      have HRES := Lib.hid hres
      clear hp hfb hres
      go_wp2_with fail
      go_end0
      exact ⟨(by rw [HRES.out]; rfl), hB1.trans (hB3.mono (by omega))⟩
end Go.Proofs.YtdjjemajfphjaaaGreat
namespace Go.Proofs.YtdjjemajfphjaaaGreat
open Go.RowKit Go.WideMaps Go.Proofs.YtdjjemajfphjaaaGreat.nm
abbrev Key := ByteArray × Int
instance decMem {α : Type} [DecidableEq α] (a : α) (d : List α) : Decidable (a ∈ d) := inferInstance
def recsC (l : List Rec) : List Value := l.flatMap recC
theorem recsC_len (l : List Rec) : (recsC l).length = l.length * 5 := by
  unfold recsC
  induction l with
  | nil => rfl
  | cons r l ih => rw [List.flatMap_cons, List.length_append, ih, List.length_cons]; simp; omega
theorem recsC_app (l : List Rec) (r : Rec) : recsC (l ++ [r]) = recsC l ++ recC r := by unfold recsC; rw [List.flatMap_append]; simp
theorem recsC_get : ∀ (l : List Rec) (k : Nat) (hk : k < l.length) (j : Nat) (v : Value), (recC l[k])[j]? = some v → (recsC l)[k * 5 + j]? = some v
  | r :: l, 0, hk, j, v, h => by
    have hj : j < (recC r).length := (List.getElem?_eq_some_iff.1 h).1
    show (recC r ++ recsC l)[0 * 5 + j]? = some v
    rw [Nat.zero_mul, Nat.zero_add, List.getElem?_append_left hj]
    exact h
  | r :: l, k + 1, hk, j, v, h => by
    show (recC r ++ recsC l)[(k + 1) * 5 + j]? = some v
    rw [List.getElem?_append_right (by simp; omega)]
    have := recsC_get l k (by simpa using hk) j v h
    rw [← this]
    congr 1
    simp
    omega
def SetsV (w : World) (base sb : Nat) (dom : List Key) (F : Key → List Rec) : Prop :=
  ∃ val : Key → Value, MapF keyV KeyOk w sb dom val ∧ (∀ κ ∈ dom, w.ownsRow base 51 5 (val κ) (F κ).length (recsC (F κ))) ∧ (∀ κ ∈ dom, ∀ κ' ∈ dom, κ ≠ κ' → (val κ).ownBlock ≠ (val κ').ownBlock)
section
variable {w w' : World} {base sb : Nat} {dom : List Key} {F F' : Key → List Rec}
theorem ownsRow_not_map {w : World} {base : Nat} {e : TypeId} {size : Nat} {v : Value} {n : Nat} {xs : List Value} (h : w.ownsRow base e size v n xs) {b : Nat} {es : Array MapEntry} {c : Nat} (hb : w.heap[b]? = some (.map es c)) : v.ownBlock ≠ some b := fun e => by
  obtain ⟨c', fz, hc⟩ := Lib.ownsRow_kind h b e
  rw [hb] at hc
  cases hc
theorem ownsRow_keepOne {w w' : World} {base : Nat} {e : TypeId} {size : Nat} {v : Value} {n : Nat} {xs : List Value} (h : w.ownsRow base e size v n xs) (hk : ∀ b, v.ownBlock = some b → w'.heap[b]? = w.heap[b]?) : w'.ownsRow base e size v n xs := by
  refine ⟨h.1, ?_⟩
  rcases h.2 with hn | ⟨g, cap, cur, rfl, hb, hg, rest⟩
  · exact .inl hn
  · exact .inr ⟨g, cap, cur, rfl, hb, (hk g rfl).trans hg, rest⟩
theorem MapF.mapObj {α : Type} {encK : α → Value} {Kok : α → Prop} {w : World} {b : Nat} {dom : List α} {val : α → Value} (h : MapF encK Kok w b dom val) : ∃ es c, w.heap[b]? = some (.map es c) := by
  obtain ⟨_, _, es, c, h1, _⟩ := h
  exact ⟨es, c, h1⟩
theorem MapF.not_row {α : Type} {encK : α → Value} {Kok : α → Prop} {w : World} {b : Nat} {dom : List α} {val : α → Value} (h : MapF encK Kok w b dom val) {base : Nat} {e : TypeId} {size : Nat} {v : Value} {n : Nat} {xs : List Value} (hr : w.ownsRow base e size v n xs) : v.ownBlock ≠ some b := by
  obtain ⟨es, c, hb⟩ := h.mapObj
  exact ownsRow_not_map hr hb
theorem SetsV.keep (h : SetsV w base sb dom F) (hk : ∀ b, base ≤ b ∨ b = sb → b < w.heap.size → w'.heap[b]? = w.heap[b]?) : SetsV w' base sb dom F := by
  obtain ⟨val, h1, h2, h3⟩ := h
  refine ⟨val, h1.keep fun o ho => (hk sb (.inr rfl) (heap_lt ho)).trans ho, fun κ hκ => ?_, h3⟩
  exact ownsRow_keepOne (h2 κ hκ) fun b hb => hk b (.inl ((h2 κ hκ).lt b hb).1) ((h2 κ hκ).lt b hb).2
theorem SetsV.alloc (h : SetsV w base sb dom F) (o : Obj) : SetsV (w.alloc o) base sb dom F := h.keep fun b _ hb => Below.heap_alloc w o b hb
theorem SetsV.below (h : SetsV w base sb dom F) (hb : Below w.heap.size w w') : SetsV w' base sb dom F := h.keep fun b _ hlt => hb.block b hlt
theorem SetsV.lt (h : SetsV w base sb dom F) : sb < w.heap.size := by obtain ⟨_, h1, _⟩ := h; exact h1.lt
theorem SetsV.congr (h : SetsV w base sb dom F) (hF : ∀ κ ∈ dom, F κ = F' κ) : SetsV w base sb dom F' := by
  obtain ⟨val, h1, h2, h3⟩ := h
  exact ⟨val, h1, fun κ hκ => by rw [← hF κ hκ]; exact h2 κ hκ, h3⟩
theorem SetsV.made (w : World) (base : Nat) (F : Key → List Rec) : SetsV (w.alloc (.map #[] 0)) base w.heap.size [] F :=
  ⟨fun _ => .slice none 0 0, MapF.made w keyV KeyOk _, fun κ h => by simp at h, fun κ h => by simp at h⟩
theorem SetsV.setCell (h : SetsV w base sb dom F) {a : Addr} (hb : a.block < base) (hs : a.block ≠ sb) (u : Value) : SetsV (w.setCell a u) base sb dom F :=
  h.keep fun b hb' _ => Below.heap_setCell _ _ _ _ (fun e => by rcases hb' with h1 | h1 <;> omega)
theorem zero_recs (w : World) : (zeroValue 22).run Tryz.prog w = .ok (.slice none 0 0) w := by kernel_rfl
theorem zero_int (w : World) : (zeroValue 3).run Tryz.prog w = .ok (.int .i64 0) w := by kernel_rfl
theorem sets_entry {wh : World} (h : SetsV wh base sb dom F) (hk : ∀ b, b < wh.heap.size → w.heap[b]? = wh.heap[b]?) {κ : Key} (hκ : KeyOk κ) (r : Rec) :
    ∃ (v : Value) (n : Nat) (old : List Rec) (st : Nat) (w1 : World), (Instr.mapEntry 91 (.map (some sb)) (keyV κ)).run Tryz.prog w = .ok (.tuple #[v, goInt st]) w1 ∧ w.grownBy w1 (some sb) ∧
      w1.ownsRow base 51 5 v n (recsC old) ∧ old = (if κ ∈ dom then F κ else []) ∧ n = old.length ∧ (∀ b, v.ownBlock = some b → base ≤ b ∧ b < wh.heap.size ∧ b ≠ sb) ∧ sb < wh.heap.size ∧ n ≤ ((F κ).length) ∧
      ∀ g cap w2, w2.ownsRow base 51 5 (.slice (some ⟨g, 0, none⟩) (n + 1) cap) (n + 1) (recsC old ++ recC r) → w1.grownBy w2 v.ownBlock → (v.ownBlock = some g ∨ g = w1.heap.size) →
        ∃ w3, (Instr.entryStore 91 (.map (some sb)) (.int .i64 (st : Int)) (.slice (some ⟨g, 0, none⟩) (n + 1) cap)).run Tryz.prog w2 = .ok () w3 ∧ w2.grownBy w3 (some sb) ∧
          SetsV w3 base sb (insK dom κ) (fun κ' => if κ' = κ then old ++ [r] else F κ') := by
  obtain ⟨val, hM0, hR0, hD⟩ := h
  have hM : MapF keyV KeyOk w sb dom val := hM0.keep fun o ho => (hk sb (heap_lt ho)).trans ho
  have hR : ∀ κ ∈ dom, w.ownsRow base 51 5 (val κ) (F κ).length (recsC (F κ)) := fun κ hκ => ownsRow_keepOne (hR0 κ hκ) fun b hb => hk b ((hR0 κ hκ).lt b hb).2
  obtain ⟨st, w1, hrun, hg1, _, hM1, hst⟩ := mapF_entry keyE Tryz.underlying91 zero_recs hM hκ
  obtain ⟨es, c, hsb⟩ := hM.mapObj
  have hkeep1 : ∀ κ' ∈ dom, w1.ownsRow base 51 5 (val κ') (F κ').length (recsC (F κ')) := fun κ' hκ' => (hR κ' hκ').kept hg1 (.inr (ownsRow_not_map (hR κ' hκ') hsb))
  have hown1 : w1.ownsRow base 51 5 (if κ ∈ dom then val κ else .slice none 0 0) (if κ ∈ dom then F κ else []).length (recsC (if κ ∈ dom then F κ else [])) := by
    by_cases hd : κ ∈ dom
    · rw [if_pos hd, if_pos hd]; exact hkeep1 κ hd
    · rw [if_neg hd, if_neg hd]; exact World.ownsRow_nil w1 base _ 5
  have hvs : (if κ ∈ dom then val κ else .slice none 0 0 : Value).ownBlock ≠ some sb := hM1.not_row hown1
  have hvb : ∀ b, (if κ ∈ dom then val κ else .slice none 0 0 : Value).ownBlock = some b → base ≤ b ∧ b < wh.heap.size ∧ b ≠ sb := fun b hb => by
    refine ⟨(hown1.lt b hb).1, ?_, fun e => hvs (e ▸ hb)⟩
    by_cases hd : κ ∈ dom
    · rw [if_pos hd] at hb; exact ((hR0 κ hd).lt b hb).2
    · rw [if_neg hd] at hb; cases hb
  have hnF : (if κ ∈ dom then F κ else []).length ≤ (F κ).length := by split <;> simp
  refine ⟨_, _, _, st, w1, hrun, hg1, hown1, rfl, rfl, hvb, hM0.lt, hnF, fun g cap w2 hown2 hgrow hat => ?_⟩
  have hs2 : w2.heap[sb]? = w1.heap[sb]? := hgrow.block sb hM1.lt (Ne.symm hvs)
  obtain ⟨w3, hrun3, hg3, _, hM3⟩ := hst w2 (.slice (some ⟨g, 0, none⟩) ((if κ ∈ dom then F κ else []).length + 1) cap) hs2
  obtain ⟨es1, c1, hsb1⟩ := hM1.mapObj
  have hgs : g ≠ sb := fun e => by
    subst e
    exact ownsRow_not_map hown2 (hs2.trans hsb1) rfl
  have hfar : ∀ κ' ∈ dom, κ' ≠ κ → (val κ').ownBlock ≠ some g ∧ ((val κ').ownBlock = none ∨ (val κ').ownBlock ≠ (if κ ∈ dom then val κ else .slice none 0 0 : Value).ownBlock) := fun κ' hκ' hne => by
    by_cases hd : κ ∈ dom
    · rw [if_pos hd] at hat ⊢
      have h1 := hD κ' hκ' κ hd hne
      refine ⟨?_, .inr h1⟩
      rcases hat with hat | hat
      · rw [← hat]; exact h1
      · intro e
        have := ((hkeep1 κ' hκ').lt g e).2
        omega
    · rw [if_neg hd] at hat ⊢
      rcases hat with hat | hat
      · cases hat
      · refine ⟨fun e => ?_, ?_⟩
        · have := ((hkeep1 κ' hκ').lt g e).2
          omega
        · cases hv : (val κ').ownBlock with
          | none => exact .inl rfl
          | some b => exact .inr (by simp [Value.ownBlock])
  have hmem : ∀ κ' ∈ insK dom κ, κ' ≠ κ → κ' ∈ dom := fun κ' h hne => by
    unfold insK at h
    split at h
    · exact h
    · rcases List.mem_append.1 h with h | h
      · exact h
      · exact absurd (List.mem_singleton.1 h) hne
  refine ⟨w3, hrun3, hg3, _, hM3, fun κ' hκ' => ?_, fun κ1 h1 κ2 h2 hne => ?_⟩
  · by_cases he : κ' = κ
    · subst he
      simp only [if_pos, updK]
      rw [List.length_append, recsC_app]
      exact hown2.kept hg3 (.inr (by simpa [Value.ownBlock] using hgs))
    · simp only [if_neg he, updK]
      have hd := hmem κ' hκ' he
      have h2 := (hkeep1 κ' hd).kept hgrow ((hfar κ' hd he).2)
      exact h2.kept hg3 (.inr (hM1.not_row (hkeep1 κ' hd)))
  · unfold updK
    by_cases e1 : κ1 = κ
    · rw [if_pos e1]
      have e2 : κ2 ≠ κ := fun e => hne (e1.trans e.symm)
      rw [if_neg e2]
      exact fun e => (hfar κ2 (hmem κ2 h2 e2) e2).1 e.symm
    · rw [if_neg e1]
      by_cases e2 : κ2 = κ
      · rw [if_pos e2]
        exact (hfar κ1 (hmem κ1 h1 e1) e1).1
      · rw [if_neg e2]
        exact hD κ1 (hmem κ1 h1 e1) κ2 (hmem κ2 h2 e2) hne
end
theorem SetsV.drew {w : World} {base sb : Nat} {dom : List Key} {F : Key → List Rec} (h : SetsV w base sb dom F) : SetsV w.drew base sb dom F := h.keep fun _ _ _ => rfl
theorem SetsV.grownMap {w w' : World} {base sb tb : Nat} {dom : List Key} {F : Key → List Rec} (h : SetsV w base sb dom F) (hg : w.grownBy w' (some tb)) (ht : ∃ es c, w.heap[tb]? = some (.map es c)) (hne : sb ≠ tb) : SetsV w' base sb dom F := by
  obtain ⟨es, c, hm⟩ := ht
  obtain ⟨val, h1, h2, h3⟩ := h
  refine ⟨val, h1.keep fun o ho => (hg.block sb (heap_lt ho) (by simpa using hne)).trans ho, fun κ hκ => ?_, h3⟩
  exact (h2 κ hκ).kept hg (.inr (ownsRow_not_map (h2 κ hκ) hm))
namespace zn
def partU (low : ByteArray) (m q : Nat) : List ByteArray := (List.range (m - q + 1)).map fun i : Nat => tailS low ((m : Int) - i)
def keyR (r : Rec) : Key := (foldS r.owner, r.typ)
def domS (l : List Rec) : List Key := l.foldl (fun d r => insK d (keyR r)) []
def rowsS (l : List Rec) (κ : Key) : List Rec := l.filter fun r => decide (keyR r = κ)
def ups (c : Nat) (low : ByteArray) : List ByteArray := (List.range ((countI low).toNat - c + 1)).map fun i : Nat => tailS low (countI low - i)
def insAll (d : List ByteArray) (l : List ByteArray) : List ByteArray := l.foldl insK d
def domT (c : Nat) (l : List Rec) : List ByteArray := l.foldl (fun d r => if signsB r then d else insAll d (ups c (foldS r.owner))) []
theorem ups_part {low : ByteArray} {m : Nat} (h : countI low = m) (c : Nat) : ups c low = partU low m c := by
  unfold ups partU
  rw [h, Int.toNat_natCast]
theorem partU_top {low : ByteArray} {m : Nat} (h : tailS low m = low) : partU low m m = [low] := by
  unfold partU
  simp [h]
theorem partU_next {low : ByteArray} {m q : Nat} (h0 : 0 < q) (h1 : q ≤ m) : partU low m (q - 1) = partU low m q ++ [tailS low ((q - 1 : Nat) : Int)] := by
  unfold partU
  rw [show m - (q - 1) + 1 = (m - q + 1) + 1 from by omega, List.range_succ, List.map_append]
  congr 1
  simp only [List.map_cons, List.map_nil, List.cons.injEq, and_true]
  congr 1
  omega
theorem partU_end {low : ByteArray} {m q c : Nat} (h1 : q ≤ m) (h2 : q ≤ c) (h3 : c ≤ q ∨ q = m) : partU low m q = partU low m c := by
  unfold partU
  rw [show m - q = m - c from by omega]
theorem insAll_app (d a : List ByteArray) (n : ByteArray) : insAll d (a ++ [n]) = insK (insAll d a) n := by unfold insAll; rw [List.foldl_append]; rfl
theorem domS_app (l : List Rec) (r : Rec) : domS (l ++ [r]) = insK (domS l) (keyR r) := by unfold domS; rw [List.foldl_append]; rfl
theorem domT_app (c : Nat) (l : List Rec) (r : Rec) : domT c (l ++ [r]) = if signsB r then domT c l else insAll (domT c l) (ups c (foldS r.owner)) := by unfold domT; rw [List.foldl_append]; rfl
theorem mem_insK {α : Type} [DecidableEq α] {d : List α} {a b : α} : b ∈ insK d a ↔ b ∈ d ∨ b = a := by
  unfold insK
  split
  · rename_i h
    exact ⟨.inl, fun h' => h'.elim id (fun e => e ▸ h)⟩
  · rw [List.mem_append, List.mem_singleton]
theorem mem_insAll : ∀ {l d : List ByteArray} {b : ByteArray}, b ∈ insAll d l ↔ b ∈ d ∨ b ∈ l
  | [], d, b => by simp [insAll]
  | a :: l, d, b => by
    show b ∈ insAll (insK d a) l ↔ _
    rw [mem_insAll (l := l), mem_insK, List.mem_cons]
    exact ⟨fun h => by rcases h with (h | h) | h <;> simp [h], fun h => by rcases h with h | h | h <;> simp [h]⟩
theorem mem_foldS : ∀ {l : List Rec} {d : List Key} {κ : Key}, κ ∈ l.foldl (fun d r => insK d (keyR r)) d ↔ κ ∈ d ∨ ∃ r ∈ l, keyR r = κ
  | [], d, κ => by simp
  | r :: l, d, κ => by
    rw [List.foldl_cons, mem_foldS (l := l), mem_insK]
    constructor
    · rintro ((h | h) | ⟨x, hx, e⟩)
      · exact .inl h
      · exact .inr ⟨r, by simp, h.symm⟩
      · exact .inr ⟨x, by simp [hx], e⟩
    · rintro (h | ⟨x, hx, e⟩)
      · exact .inl (.inl h)
      · rcases List.mem_cons.1 hx with rfl | hx
        · exact .inl (.inr e.symm)
        · exact .inr ⟨x, hx, e⟩
theorem mem_domS {l : List Rec} {κ : Key} : κ ∈ domS l ↔ ∃ r ∈ l, keyR r = κ := by
  unfold domS
  rw [mem_foldS]
  simp
theorem mem_foldT {c : Nat} : ∀ {l : List Rec} {d : List ByteArray} {n : ByteArray}, n ∈ l.foldl (fun d r => if signsB r then d else insAll d (ups c (foldS r.owner))) d ↔ n ∈ d ∨ ∃ r ∈ l, signsB r = false ∧ n ∈ ups c (foldS r.owner)
  | [], d, κ => by simp
  | r :: l, d, κ => by
    rw [List.foldl_cons, mem_foldT (l := l)]
    cases hs : signsB r
    · simp only [Bool.false_eq_true, if_false]
      rw [mem_insAll]
      constructor
      · rintro ((h | h) | ⟨x, hx, e⟩)
        · exact .inl h
        · exact .inr ⟨r, by simp, hs, h⟩
        · exact .inr ⟨x, by simp [hx], e⟩
      · rintro (h | ⟨x, hx, e1, e2⟩)
        · exact .inl (.inl h)
        · rcases List.mem_cons.1 hx with rfl | hx
          · exact .inl (.inr e2)
          · exact .inr ⟨x, hx, e1, e2⟩
    · simp only [if_true]
      constructor
      · rintro (h | ⟨x, hx, e⟩)
        · exact .inl h
        · exact .inr ⟨x, by simp [hx], e⟩
      · rintro (h | ⟨x, hx, e1, e2⟩)
        · exact .inl h
        · rcases List.mem_cons.1 hx with rfl | hx
          · rw [hs] at e1; cases e1
          · exact .inr ⟨x, hx, e1, e2⟩
theorem mem_domT {c : Nat} {l : List Rec} {n : ByteArray} : n ∈ domT c l ↔ ∃ r ∈ l, signsB r = false ∧ n ∈ ups c (foldS r.owner) := by
  unfold domT
  rw [mem_foldT]
  simp
theorem rowsS_app (l : List Rec) (r : Rec) (κ : Key) : rowsS (l ++ [r]) κ = if κ = keyR r then rowsS l κ ++ [r] else rowsS l κ := by
  unfold rowsS
  rw [List.filter_append]
  by_cases h : keyR r = κ
  · rw [if_pos h.symm]; simp [h]
  · rw [if_neg (fun e => h e.symm)]; simp [h]
theorem rowsS_none {l : List Rec} {κ : Key} (h : κ ∉ domS l) : rowsS l κ = [] := by
  unfold rowsS
  rw [List.filter_eq_nil_iff]
  intro r hr e
  exact h (mem_domS.2 ⟨r, hr, by simpa using e⟩)
theorem rowsS_some {l : List Rec} {κ : Key} (h : κ ∈ domS l) : rowsS l κ ≠ [] := by
  obtain ⟨r, hr, e⟩ := mem_domS.1 h
  intro he
  unfold rowsS at he
  rw [List.filter_eq_nil_iff] at he
  exact he r hr (by simpa using e)
end zn
theorem SetsV.next {w : World} {base sb : Nat} {l : List Rec} {r : Rec} (h : SetsV w base sb (insK (zn.domS l) (zn.keyR r)) (fun κ' => if κ' = zn.keyR r then (if zn.keyR r ∈ zn.domS l then zn.rowsS l (zn.keyR r) else []) ++ [r] else zn.rowsS l κ')) :
    SetsV w base sb (zn.domS (l ++ [r])) (zn.rowsS (l ++ [r])) := by
  rw [zn.domS_app]
  refine h.congr fun κ _ => ?_
  rw [zn.rowsS_app]
  by_cases e : κ = zn.keyR r
  · rw [if_pos e, if_pos e]
    subst e
    by_cases hd : zn.keyR r ∈ zn.domS l
    · rw [if_pos hd]
    · rw [if_neg hd, zn.rowsS_none hd]
  · rw [if_neg e, if_neg e]
def TheresV (w : World) (tb : Nat) (dom : List ByteArray) : Prop := ∃ f : ByteArray → Int, MapF Value.string StrOk w tb dom (fun a => .int .i64 (f a))
section
variable {w w' : World} {tb : Nat} {dom : List ByteArray}
theorem TheresV.keep (h : TheresV w tb dom) (hk : tb < w.heap.size → w'.heap[tb]? = w.heap[tb]?) : TheresV w' tb dom := by
  obtain ⟨f, h⟩ := h
  exact ⟨f, h.keep fun o ho => (hk (heap_lt ho)).trans ho⟩
theorem TheresV.alloc (h : TheresV w tb dom) (o : Obj) : TheresV (w.alloc o) tb dom := h.keep fun hb => Below.heap_alloc w o tb hb
theorem TheresV.below (h : TheresV w tb dom) (hb : Below w.heap.size w w') : TheresV w' tb dom := h.keep fun hlt => hb.block tb hlt
theorem TheresV.lt (h : TheresV w tb dom) : tb < w.heap.size := by obtain ⟨_, h1⟩ := h; exact h1.lt
theorem TheresV.grown (h : TheresV w tb dom) {row : Option Nat} (hg : w.grownBy w' row) (hne : row ≠ some tb) : TheresV w' tb dom := h.keep fun hlt => hg.block tb hlt (Ne.symm hne)
theorem TheresV.drew (h : TheresV w tb dom) : TheresV w.drew tb dom := h
theorem TheresV.mapObj (h : TheresV w tb dom) : ∃ es c, w.heap[tb]? = some (.map es c) := by
  obtain ⟨_, h⟩ := h
  exact h.mapObj
theorem TheresV.made (w : World) : TheresV (w.alloc (.map #[] 0)) w.heap.size [] := ⟨fun _ => 0, MapF.made w _ _ _⟩
theorem theres_step (h : TheresV w tb dom) {n : ByteArray} (hn : n.size ≤ maxLen) : ∃ x : Int, (Instr.lookup 92 (.map (some tb)) (.string n) false).run Tryz.prog w = .ok (.int .i64 x) w ∧
    ∀ y : Int, ∃ w1, (Instr.mapUpdate 92 (.map (some tb)) (.string n) (.int .i64 y)).run Tryz.prog w = .ok () w1 ∧ w.grownBy w1 (some tb) ∧ TheresV w1 tb (insK dom n) := by
  obtain ⟨f, h⟩ := h
  refine ⟨if n ∈ dom then f n else 0, ?_, fun y => ?_⟩
  · rw [mapF_look strE Tryz.underlying92 zero_int h hn]
    split <;> rfl
  · obtain ⟨w1, h1, h2, _, h3⟩ := mapF_update strE Tryz.underlying92 h hn (.int .i64 y)
    refine ⟨w1, h1, h2, fun a => if a = n then y else f a, h3.congr fun a _ => ?_⟩
    unfold updK
    by_cases e : a = n
    · simp [e]
    · simp [e]
end
end Go.Proofs.YtdjjemajfphjaaaGreat

import Derived.Test.YtdjjemajfphjaaaGreatQWirB
import Derived.Test.YtdjjemajfphjaaaGreatQRefU
import Derived.Deep.RegionWith
import Derived.Deep.DeepMust
namespace Go.Proofs.YtdjjemajfphjaaaGreat
open Go.RowKit Go.Shelf Go.Proofs.YtdjjemajfphjaaaGreat.nm Go.Proofs.YtdjjemajfphjaaaGreat.od
def qnsC (l : List Qn) : List Value := l.flatMap qnC
theorem qnsC_len (l : List Qn) : (qnsC l).length = l.length * 3 := by
  induction l with
  | nil => rfl
  | cons a t ih =>
    have e : qnsC (a :: t) = qnC a ++ qnsC t := rfl
    rw [e, List.length_append, ih, List.length_cons]
    show 3 + t.length * 3 = (t.length + 1) * 3
    omega
theorem qns_one (l : List Qn) : ∀ u ∈ qnsC l, u.oneCell' = true := fun u hu => by
  unfold qnsC at hu
  obtain ⟨r, _, hr⟩ := List.mem_flatMap.1 hu
  simp only [List.mem_cons, List.not_mem_nil, or_false] at hr
  rcases hr with rfl | rfl | rfl <;> rfl
theorem qnsC_at : ∀ (l : List Qn) (t : Nat) (ht : t < l.length * 3), (qnsC l)[t]? = (qnC (l[t / 3]'(by omega)))[t % 3]?
  | [], t, ht => absurd ht (by simp)
  | a :: r, t, ht => by
    have e : qnsC (a :: r) = .string a.name :: .int .i64 a.typ :: .int .i64 a.cls :: qnsC r := rfl
    rw [e]
    match t, ht with
    | 0, _ => rfl
    | 1, _ => rfl
    | 2, _ => rfl
    | t + 3, ht =>
      have ih := qnsC_at r t (by simp at ht; omega)
      simp only [List.getElem?_cons_succ]
      rw [ih]
      have h1 : (t + 3) / 3 = t / 3 + 1 := by omega
      have h2 : (t + 3) % 3 = t % 3 := by omega
      simp only [h1, h2, List.getElem_cons_succ]
theorem qns_cells {w : World} {b off n cap : Nat} {l : List Qn} (h : QnsAt w (.slice (some ⟨b, off, none⟩) n cap) l) : n = l.length ∧ ∀ j u, (qnsC l)[j]? = some u → w.cell? ⟨b, off + j, none⟩ = some u := by
  obtain ⟨a', cap', hv, _, hr⟩ := h
  simp only [Value.slice.injEq] at hv
  refine ⟨hv.2.1, fun j u hu => ?_⟩
  have hj : j < l.length * 3 := by
    have := (List.getElem?_eq_some_iff.1 hu).1
    rwa [qnsC_len] at this
  rw [qnsC_at l j hj] at hu
  obtain ⟨b', off', ha, _, c0, c1, c2⟩ := hr (j / 3) (by omega)
  rw [← hv.1] at ha
  simp only [Option.some.injEq, Addr.mk.injEq, and_true] at ha
  obtain ⟨rfl, rfl⟩ := ha
  have hd : j = j / 3 * 3 + j % 3 := by omega
  have hm : j % 3 < 3 := Nat.mod_lt _ (by omega)
  rw [show off + j = off + j / 3 * 3 + j % 3 by omega]
  have key : ∀ i, i < 3 → (qnC (l[j / 3]'(by omega)))[i]? = some u → w.cell? ⟨b, off + j / 3 * 3 + i, none⟩ = some u := fun i hi h => by
    match i, hi with
    | 0, _ => simp only [List.getElem?_cons_zero, Option.some.injEq] at h; rw [← h]; exact c0
    | 1, _ => simp only [List.getElem?_cons_succ, List.getElem?_cons_zero, Option.some.injEq] at h; rw [← h]; exact c1
    | 2, _ => simp only [List.getElem?_cons_succ, List.getElem?_cons_zero, Option.some.injEq] at h; rw [← h]; exact c2
  exact key _ hm hu
theorem owns_qns {w : World} {base : Nat} {v : Value} {l : List Qn} (h : w.ownsRow base 63 3 v l.length (qnsC l)) : QnsAt w v l := by
  obtain ⟨a, cap, rfl, hc⟩ := ownsRow_len h
  refine ⟨a, cap, rfl, hc, fun k hk => ?_⟩
  obtain ⟨g, cap', hv, _, _⟩ := h.form (by omega)
  simp only [Value.slice.injEq, true_and] at hv
  obtain ⟨rfl, rfl⟩ := hv
  refine ⟨g, 0, rfl, (h.lt g rfl).2, ?_⟩
  have e : ∀ i, i < 3 → w.cell? ⟨g, 0 + k * 3 + i, none⟩ = (qnC l[k])[i]? := fun i hi => by
    rw [h.cellAt _ (by omega), qnsC_at l _ (by omega)]
    have h1 : (0 + k * 3 + i) / 3 = k := by omega
    have h2 : (0 + k * 3 + i) % 3 = i := by omega
    simp only [h1, h2]
  exact ⟨e 0 (by omega), e 1 (by omega), e 2 (by omega)⟩
theorem info_qn : (Tryz.prog.info? 63).map (fun i => (i.zero, i.size, i.bytes)) = some (some (.agg #[.string ⟨#[]⟩, .int .i64 0, .int .i64 0]), 3, 32) := by kernel_rfl
def TwinAt (w : World) (base g cap : Nat) (l : List Rec) : Prop := w.ownsRow base 51 5 (.slice (some ⟨g, 0, none⟩) (l.length + 2) cap) (l.length + 2) (recsC (l ++ [spareR, spareR])) ∧ l.length + 2 ≤ cap
theorem TwinAt.below {w w' : World} {base g cap : Nat} {l : List Rec} (h : TwinAt w base g cap l) (hB : Below w.heap.size w w') : TwinAt w' base g cap l := ⟨ownsRow_below h.1 hB, h.2⟩
theorem TwinAt.base_ {w : World} {base base' g cap : Nat} {l : List Rec} (h : TwinAt w base g cap l) (hb : base' ≤ base) : TwinAt w base' g cap l := ⟨ownsRow_base h.1 hb, h.2⟩
theorem TwinAt.lt {w : World} {base g cap : Nat} {l : List Rec} (h : TwinAt w base g cap l) : base ≤ g ∧ g < w.heap.size := h.1.lt g rfl
theorem TwinAt.recs {w : World} {base g cap : Nat} {l : List Rec} (h : TwinAt w base g cap l) : RecsAt w (.slice (some ⟨g, 0, none⟩) l.length cap) l := by
  have hfull : RecsAt w (.slice (some ⟨g, 0, none⟩) (l.length + 2) cap) (l ++ [spareR, spareR]) := owns_recs (base := base) (by rw [List.length_append]; exact h.1)
  have := recsAt_take (k := l.length) hfull (by rw [List.length_append]; omega)
  rw [List.take_left] at this
  exact this
section
variable {w : World} {b : Nat} {h : Hd} {q a u d : Value}
theorem MsgB.set0 (hb : MsgB w b h q a u d) (v : Int) : MsgB (w.setCell ⟨b, 0, none⟩ (.int .i64 v)) b { h with id := v } q a u d := (heap_set_at hb 0 (.int .i64 v)).trans rfl
theorem MsgB.set1 (hb : MsgB w b h q a u d) (v : Bool) : MsgB (w.setCell ⟨b, 1, none⟩ (.bool v)) b { h with resp := v } q a u d := (heap_set_at hb 1 (.bool v)).trans rfl
theorem MsgB.set2 (hb : MsgB w b h q a u d) (v : Int) : MsgB (w.setCell ⟨b, 2, none⟩ (.int .i64 v)) b { h with op := v } q a u d := (heap_set_at hb 2 (.int .i64 v)).trans rfl
theorem MsgB.set3 (hb : MsgB w b h q a u d) (v : Bool) : MsgB (w.setCell ⟨b, 3, none⟩ (.bool v)) b { h with aa := v } q a u d := (heap_set_at hb 3 (.bool v)).trans rfl
theorem MsgB.set4 (hb : MsgB w b h q a u d) (v : Bool) : MsgB (w.setCell ⟨b, 4, none⟩ (.bool v)) b { h with tc := v } q a u d := (heap_set_at hb 4 (.bool v)).trans rfl
theorem MsgB.set5 (hb : MsgB w b h q a u d) (v : Bool) : MsgB (w.setCell ⟨b, 5, none⟩ (.bool v)) b { h with rd := v } q a u d := (heap_set_at hb 5 (.bool v)).trans rfl
theorem MsgB.set6 (hb : MsgB w b h q a u d) (v : Bool) : MsgB (w.setCell ⟨b, 6, none⟩ (.bool v)) b { h with ra := v } q a u d := (heap_set_at hb 6 (.bool v)).trans rfl
theorem MsgB.set7 (hb : MsgB w b h q a u d) (v : Bool) : MsgB (w.setCell ⟨b, 7, none⟩ (.bool v)) b { h with ad := v } q a u d := (heap_set_at hb 7 (.bool v)).trans rfl
theorem MsgB.set8 (hb : MsgB w b h q a u d) (v : Bool) : MsgB (w.setCell ⟨b, 8, none⟩ (.bool v)) b { h with cd := v } q a u d := (heap_set_at hb 8 (.bool v)).trans rfl
theorem MsgB.set9 (hb : MsgB w b h q a u d) (v : Int) : MsgB (w.setCell ⟨b, 9, none⟩ (.int .i64 v)) b { h with rcode := v } q a u d := (heap_set_at hb 9 (.int .i64 v)).trans rfl
theorem MsgB.set10 (hb : MsgB w b h q a u d) (v : Value) : MsgB (w.setCell ⟨b, 10, none⟩ v) b h v a u d := (heap_set_at hb 10 v).trans rfl
theorem MsgB.set11 (hb : MsgB w b h q a u d) (v : Value) : MsgB (w.setCell ⟨b, 11, none⟩ v) b h q v u d := (heap_set_at hb 11 v).trans rfl
theorem MsgB.set12 (hb : MsgB w b h q a u d) (v : Value) : MsgB (w.setCell ⟨b, 12, none⟩ v) b h q a v d := (heap_set_at hb 12 v).trans rfl
theorem MsgB.set13 (hb : MsgB w b h q a u d) (v : Value) : MsgB (w.setCell ⟨b, 13, none⟩ v) b h q a u v := (heap_set_at hb 13 v).trans rfl
end
theorem msg_stored {w : World} {b : Nat} {h0 : Hd} {q0 a0 u0 d0 : Value} (hb : MsgB w b h0 q0 a0 u0 d0) (h : Hd) (q a u d : Value) :
    MsgB ((((((((((((((w.setCell ⟨b, 0, none⟩ (.int .i64 h.id)).setCell ⟨b, 1, none⟩ (.bool h.resp)).setCell ⟨b, 2, none⟩ (.int .i64 h.op)).setCell ⟨b, 3, none⟩ (.bool h.aa)).setCell ⟨b, 4, none⟩ (.bool h.tc)).setCell ⟨b, 5, none⟩ (.bool h.rd)).setCell ⟨b, 6, none⟩ (.bool h.ra)).setCell ⟨b, 7, none⟩ (.bool h.ad)).setCell ⟨b, 8, none⟩ (.bool h.cd)).setCell ⟨b, 9, none⟩ (.int .i64 h.rcode)).setCell ⟨b, 10, none⟩ q).setCell ⟨b, 11, none⟩ a).setCell ⟨b, 12, none⟩ u).setCell ⟨b, 13, none⟩ d) b h q a u d ∧
    w.grownBy ((((((((((((((w.setCell ⟨b, 0, none⟩ (.int .i64 h.id)).setCell ⟨b, 1, none⟩ (.bool h.resp)).setCell ⟨b, 2, none⟩ (.int .i64 h.op)).setCell ⟨b, 3, none⟩ (.bool h.aa)).setCell ⟨b, 4, none⟩ (.bool h.tc)).setCell ⟨b, 5, none⟩ (.bool h.rd)).setCell ⟨b, 6, none⟩ (.bool h.ra)).setCell ⟨b, 7, none⟩ (.bool h.ad)).setCell ⟨b, 8, none⟩ (.bool h.cd)).setCell ⟨b, 9, none⟩ (.int .i64 h.rcode)).setCell ⟨b, 10, none⟩ q).setCell ⟨b, 11, none⟩ a).setCell ⟨b, 12, none⟩ u).setCell ⟨b, 13, none⟩ d) (some b) := by
  have e := (((((((((((((hb.set0 h.id).set1 h.resp).set2 h.op).set3 h.aa).set4 h.tc).set5 h.rd).set6 h.ra).set7 h.ad).set8 h.cd).set9 h.rcode).set10 q).set11 a).set12 u).set13 d
  refine ⟨e, ?_⟩
  have g : ∀ (W : World) (i : Nat) (v : Value), W.grownBy (W.setCell ⟨b, i, none⟩ v) (some b) := fun W i v => grownBy_setCell W ⟨b, i, none⟩ v
  exact (((((((((((((g _ _ _).trans (g _ _ _)).trans (g _ _ _)).trans (g _ _ _)).trans (g _ _ _)).trans (g _ _ _)).trans (g _ _ _)).trans (g _ _ _)).trans (g _ _ _)).trans (g _ _ _)).trans (g _ _ _)).trans (g _ _ _)).trans (g _ _ _)).trans (g _ _ _)
theorem msg_size : (Tryz.prog.info? 25).map (·.size) = some 14 := by kernel_rfl
theorem msg_ret {fn : Func} {p : Tmp} (hf : fn.results = #[.cell p 25]) {R : Ending → World → Prop} {a : Act} {w : World} {g : Nat} {h : Hd} {q x u d : Value} (hp : a.tmps.getD p undef = .pointer (some ⟨g, 0, none⟩))
    (hd : a.defers = []) (hg : MsgB w g h q x u d) (hR : R (.returned (msgV h q x u d)) w) : bodyPost Tryz.prog fn R .ret a w :=
  bodyPost_ret_by (results_cell_row hf _ w g _ _ _ _ hp hg Tryz.underlying25 rfl msg_size) hd hR
abbrev hd0 : Hd := ⟨0, false, 0, false, false, false, false, false, false, 0⟩
def SlotV (X : World) (mb : Nat) (v : Value) (l : List Rec) : Prop := RecsAt X v l ∧ SliceForm v ∧ (l = [] ∨ v.ownBlock ≠ some mb)
theorem SlotV.below {X Y : World} {mb : Nat} {v : Value} {l : List Rec} (h : SlotV X mb v l) (hB : Below X.heap.size X Y) : SlotV Y mb v l := ⟨h.1.below hB, h.2⟩
theorem recs_keepOne {X Y : World} {v : Value} {l : List Rec} (h : RecsAt X v l) (hs : X.heap.size ≤ Y.heap.size) (hk : l ≠ [] → ∀ b, v.ownBlock = some b → Y.heap[b]? = X.heap[b]?) : RecsAt Y v l := by
  obtain ⟨a, cap, rfl, hc, hr⟩ := h
  refine ⟨a, cap, rfl, hc, fun k hk2 => ?_⟩
  obtain ⟨b, off, rfl, hbl, hra⟩ := hr k hk2
  exact ⟨b, off, rfl, Nat.lt_of_lt_of_le hbl hs, hra.keep (hk (List.length_pos_iff.1 (by omega)) b rfl)⟩
theorem SlotV.set {X : World} {mb i : Nat} {v x : Value} {l : List Rec} (h : SlotV X mb v l) : SlotV (X.setCell ⟨mb, i, none⟩ x) mb v l :=
  ⟨recs_keepOne h.1 (by simp [World.setCell]) fun hl b hb => Below.heap_setCell _ _ _ _ (fun e => h.2.2.elim hl (fun h2 => h2 (by rw [hb, e]))), h.2⟩
theorem TwinAt.slot {w : World} {base g cap mb : Nat} {l : List Rec} (h : TwinAt w base g cap l) (hne : g ≠ mb) : SlotV w mb (.slice (some ⟨g, 0, none⟩) l.length cap) l :=
  ⟨h.recs, .inr ⟨g, 0, _, _, rfl⟩, .inr fun e => hne (by simpa [Value.ownBlock] using e)⟩
theorem TwinAt.keepOne {w w' : World} {base g cap : Nat} {l : List Rec} (h : TwinAt w base g cap l) (hk : w'.heap[g]? = w.heap[g]?) : TwinAt w' base g cap l :=
  ⟨ownsRow_keepOne h.1 fun b hb => by simp only [Value.ownBlock, Option.some.injEq] at hb; subst hb; exact hk, h.2⟩
theorem TwinAt.sets {w : World} {base g cap mb : Nat} {l : List Rec} (h : TwinAt w base g cap l) (hne : g ≠ mb) (v1 v2 v3 : Value) : TwinAt (((w.setCell ⟨mb, 11, none⟩ v1).setCell ⟨mb, 12, none⟩ v2).setCell ⟨mb, 13, none⟩ v3) base g cap l :=
  ((h.keepOne (Below.heap_setCell _ _ _ _ hne)).keepOne (Below.heap_setCell _ _ _ _ hne)).keepOne (Below.heap_setCell _ _ _ _ hne)
theorem twins_done {w3 wA wU wD : World} {mb ga ca gu cu gd cd : Nat} {h : Hd} {q a u d : Value} {an au ad : List Rec} (hmb : mb < w3.heap.size)
    (hbA : Below w3.drew.heap.size w3.drew wA) (hbU : Below wA.heap.size wA wU) (hbD : Below wU.heap.size wU wD) (hm : MsgB wD mb h q a u d) (hD : Below w3.heap.size w3 wD)
    (ta : TwinAt wA w3.drew.heap.size ga ca an) (tu : TwinAt wU wA.heap.size gu cu au) (td : TwinAt wD wU.heap.size gd cd ad) :
    ∃ ga' ca' gu' cu' gd' cd', w3.grownBy (((wD.setCell ⟨mb, 11, none⟩ (.slice (some ⟨ga, 0, none⟩) an.length ca)).setCell ⟨mb, 12, none⟩ (.slice (some ⟨gu, 0, none⟩) au.length cu)).setCell ⟨mb, 13, none⟩ (.slice (some ⟨gd, 0, none⟩) ad.length cd)) (some mb) ∧
      MsgB (((wD.setCell ⟨mb, 11, none⟩ (.slice (some ⟨ga, 0, none⟩) an.length ca)).setCell ⟨mb, 12, none⟩ (.slice (some ⟨gu, 0, none⟩) au.length cu)).setCell ⟨mb, 13, none⟩ (.slice (some ⟨gd, 0, none⟩) ad.length cd)) mb h q (.slice (some ⟨ga', 0, none⟩) an.length ca') (.slice (some ⟨gu', 0, none⟩) au.length cu') (.slice (some ⟨gd', 0, none⟩) ad.length cd') ∧
      TwinAt (((wD.setCell ⟨mb, 11, none⟩ (.slice (some ⟨ga, 0, none⟩) an.length ca)).setCell ⟨mb, 12, none⟩ (.slice (some ⟨gu, 0, none⟩) au.length cu)).setCell ⟨mb, 13, none⟩ (.slice (some ⟨gd, 0, none⟩) ad.length cd)) w3.heap.size ga' ca' an ∧
      TwinAt (((wD.setCell ⟨mb, 11, none⟩ (.slice (some ⟨ga, 0, none⟩) an.length ca)).setCell ⟨mb, 12, none⟩ (.slice (some ⟨gu, 0, none⟩) au.length cu)).setCell ⟨mb, 13, none⟩ (.slice (some ⟨gd, 0, none⟩) ad.length cd)) w3.heap.size gu' cu' au ∧
      TwinAt (((wD.setCell ⟨mb, 11, none⟩ (.slice (some ⟨ga, 0, none⟩) an.length ca)).setCell ⟨mb, 12, none⟩ (.slice (some ⟨gu, 0, none⟩) au.length cu)).setCell ⟨mb, 13, none⟩ (.slice (some ⟨gd, 0, none⟩) ad.length cd)) w3.heap.size gd' cd' ad := by
  have hz : w3.drew.heap.size = w3.heap.size := rfl
  have s1 := hbA.size
  have s2 := hbU.size
  have e1 := ta.lt.1
  have e2 := tu.lt.1
  have e3 := td.lt.1
  have g : ∀ (W : World) (i : Nat) (v : Value), W.grownBy (W.setCell ⟨mb, i, none⟩ v) (some mb) := fun W i v => grownBy_setCell W ⟨mb, i, none⟩ v
  have g0 : w3.grownBy wD (some mb) := ⟨hD.os, hD.tape, hD.output, hD.size, fun k hk _ => hD.block k hk⟩
  have ta' : TwinAt wD w3.heap.size ga ca an := (ta.below (hbU.trans (hbD.mono hbU.size))).base_ (Nat.le_of_eq hz.symm)
  have tu' : TwinAt wD w3.heap.size gu cu au := (tu.below hbD).base_ (by omega)
  exact ⟨ga, ca, gu, cu, gd, cd, ((g0.trans (g _ _ _)).trans (g _ _ _)).trans (g _ _ _), ((hm.set11 _).set12 _).set13 _, ta'.sets (by omega) _ _ _, tu'.sets (by omega) _ _ _, (td.base_ (by omega)).sets (by omega) _ _ _⟩
def RTwinM (h : Hd) (qs : List Qn) (an au ad : List Rec) (w : World) (e : Ending) (w' : World) : Prop :=
  ∃ q ga ca gu cu gd cd, e = .returned (msgV h q (.slice (some ⟨ga, 0, none⟩) an.length ca) (.slice (some ⟨gu, 0, none⟩) au.length cu) (.slice (some ⟨gd, 0, none⟩) ad.length cd)) ∧ Below w.heap.size w w' ∧
    w'.ownsRow w.heap.size 63 3 q qs.length (qnsC qs) ∧ TwinAt w' w.heap.size ga ca an ∧ TwinAt w' w.heap.size gu cu au ∧ TwinAt w' w.heap.size gd cd ad
set_option maxRecDepth 100000 in
set_option maxHeartbeats 8000000 in
theorem twinMessage_any (h : Hd) (qs : List Qn) (an au ad : List Rec) (hq : qs.length * 32 ≤ 1099511627776) (ha : an.length * 56 ≤ 1099511627776) (hu : au.length * 56 ≤ 1099511627776) (hd : ad.length * 56 ≤ 1099511627776) (q a u d : Value)
    (fq : SliceForm q) (fa : SliceForm a) (fu : SliceForm u) (fd : SliceForm d) (w : World) (rq : QnsAt w q qs) (ra : RecsAt w a an) (ru : RecsAt w u au) (rd : RecsAt w d ad) :
    Calls Tryz.prog 8 #[msgV h q a u d] w fun e w' => RTwinM h qs an au ad w e w' := by
  obtain ⟨i0_q, hi_q, hz_q, hz1_q, hz2_q⟩ := info_parts info_qn
  have HI_Q := Lib.hid hi_q; have HZ_Q := Lib.hid hz_q; have HZ1_Q := Lib.hid hz1_q; have HZ2_Q := Lib.hid hz2_q
  clear hi_q hz_q hz1_q hz2_q
  obtain ⟨w1, hw1⟩ : ∃ X, X = w.alloc (.cells (msgC h q a u d).toArray 25) := ⟨_, rfl⟩
  obtain ⟨w2, hw2⟩ : ∃ X, X = w1.alloc (.cells (msgC hd0 (.slice none 0 0) (.slice none 0 0) (.slice none 0 0) (.slice none 0 0)).toArray 25) := ⟨_, rfl⟩
  obtain ⟨hB1, hs1, hm1⟩ := msg_new hw1
  obtain ⟨hB2, hs2, hm2⟩ := msg_new hw2
  have hma := hm1.below hB2
  have hB := hB1.trans (hB2.mono hB1.size)
  rw [hs1] at hm2 hs2
  have hws : w2.heap.size = w.heap.size + 2 := by omega
  clear hm1 hs1 hs2 hB1 hB2
  obtain ⟨x0, x1, x2, x3, x4, x5, x6, x7, x8, x9, x10, x11, x12, x13⟩ := hma.facts
  have y10 := hma.free 10
  have hq2 := rq.below hB
  have HW1 := Lib.hid hw1; have HW2 := Lib.hid hw2; have HB := Lib.hid hB; have HMA := Lib.hid hma; have HM2 := Lib.hid hm2; have RQ := Lib.hid rq; have RA := Lib.hid ra; have RU := Lib.hid ru; have RD := Lib.hid rd; have HQ2 := Lib.hid hq2; have HWS := Lib.hid hws
  clear hw1 hw2 hB hma hm2 rq ra ru rd hq2 hws
  go_enter Tryz.func8, Tryz.ntmps8
  go_upto_region 1 with fail
  rw [← HW1.out, ← HW2.out]
  go_cut [5] (fun _ wx => ∃ q', wx.ownsRow w.heap.size 63 3 q' qs.length (qnsC qs) ∧ MsgB wx w.heap.size h q' a u d ∧ MsgB wx (w.heap.size + 1) hd0 (.slice none 0 0) (.slice none 0 0) (.slice none 0 0) (.slice none 0 0) ∧ q'.ownBlock ≠ some w.heap.size ∧ q'.ownBlock ≠ some (w.heap.size + 1) ∧ Below w.heap.size w wx)
  case first =>
    rcases fq with rfl | ⟨b, off, n, cap, rfl⟩
    · have h0 : qs = [] := by
        obtain ⟨_, _, hv, _⟩ := RQ.out
        simp only [Value.slice.injEq] at hv
        exact List.eq_nil_of_length_eq_zero hv.2.1.symm
      subst h0
      go_wp2_with fail
      go_meet
      exact ⟨_, World.ownsRow_nil _ _ _ _, HMA.out.set10 _, (Below.heap_setCell _ _ _ _ (by simp)).trans HM2.out, by simp [Value.ownBlock], by simp [Value.ownBlock], HB.out.setCell (Nat.le_refl _) _⟩
    · obtain ⟨hn, hcell⟩ := qns_cells HQ2.out
      subst hn
      have HONE := Lib.hid (qns_one qs)
      have HLN := Lib.hid (qnsC_len qs)
      have HNL := Lib.hid (World.ownsRow_nil w2 w2.heap.size 63 3)
      have HNEWS := Lib.hid (fun (j : Nat) (u : Value) (hu : (qnsC qs)[j]? = some u) => (by rw [Addr.add_lit]; exact hcell j u hu : w2.cell? ((⟨b, off, none⟩ : Addr).add j) = some u))
      have P1 := Lib.hid (show 0 + qs.length ≤ maxLen from by unfold maxLen; omega)
      have P2 := Lib.hid (show (0 + qs.length) * 32 ≤ 140737488355328 from by omega)
      clear hcell
      go_wp2_with (at_builtin; refine wpList_append_new _ rfl _ _ 23 rfl w2.heap.size 63 i0_q (.agg #[.string ⟨#[]⟩, .int .i64 0, .int .i64 0]) 3 32 Tryz.underlying23 HI_Q.out HZ_Q.out HZ1_Q.out HZ2_Q.out rfl (by decide) _ _ _ rfl HNL.out ⟨b, off, none⟩ qs.length cap (qnsC qs) rfl HLN.out HNEWS.out HONE.out P1.out P2.out (Nat.le_refl _) ?_)
      intro v0 w3 hown3 hg3 hnn3
      have hB3 : Below w2.heap.size w2 w3 := (Below.refl _ w2).grown hg3 (Nat.le_refl _) (fun j hj => by cases hj)
      have hm3 := HMA.out.below hB3
      have hr3 := HM2.out.below hB3
      have hown3' : w3.ownsRow w2.heap.size 63 3 v0 qs.length (qnsC qs) := by simpa using hown3
      have hv1 : v0.ownBlock ≠ some w.heap.size := fun e => by have := (hown3'.lt _ e).1; have := HWS.out; omega
      have hv2 : v0.ownBlock ≠ some (w.heap.size + 1) := fun e => by have := (hown3'.lt _ e).1; have := HWS.out; omega
      have hBe := HB.out.trans (hB3.mono HB.out.size)
      obtain ⟨a3, c3, rfl, _⟩ := ownsRow_len hown3'
      clear x0 x1 x2 x3 x4 x5 x6 x7 x8 x9 x10 x11 x12 x13 y10
      obtain ⟨_, _, _, _, _, _, _, _, _, _, x10, _, _, _⟩ := hm3.facts
      have y10 := hm3.free 10
      have HOWN3 := Lib.hid hown3; have HG3 := Lib.hid hg3; have HNN3 := Lib.hid hnn3; have HB3 := Lib.hid hB3; have HM3 := Lib.hid hm3; have HR3 := Lib.hid hr3; have HOWN3' := Lib.hid hown3'; have HV1 := Lib.hid hv1; have HV2 := Lib.hid hv2; have HBE := Lib.hid hBe
      clear hown3 hg3 hnn3 hB3 hm3 hr3 hown3' hv1 hv2 hBe
      go_wp2_with fail
      go_meet
      exact ⟨_, ownsRow_keepOne (ownsRow_base HOWN3'.out (by have := HWS.out; omega)) (fun b hb => Below.heap_setCell _ _ _ _ (fun e => HV1.out (by rw [hb, e]))), HM3.out.set10 _, (Below.heap_setCell _ _ _ _ (by simp)).trans HR3.out, HV1.out, HV2.out, HBE.out.setCell (Nat.le_refl _) _⟩
  case rest =>
  obtain ⟨q', hqr, hmc, hmr, hq1, hq2, hBc⟩ := hcut
  clear x0 x1 x2 x3 x4 x5 x6 x7 x8 x9 x10 x11 x12 x13 y10
  obtain ⟨w3, hw3⟩ : ∃ W : World, W = wc := ⟨_, rfl⟩
  subst hw3
  obtain ⟨_, _, _, _, _, _, _, _, _, _, _, x11, x12, x13⟩ := hmc.facts
  have hra := RA.out.below hBc; have hru := RU.out.below hBc; have hrd := RD.out.below hBc
  have HTA := Lib.hid (fun (X : World) (hX : Below w3.heap.size w3 X) => twin_any an ha a fa X (hra.below hX))
  have HTU := Lib.hid (fun (X : World) (hX : Below w3.heap.size w3 X) => twin_any au hu u fu X (hru.below hX))
  have HTD := Lib.hid (fun (X : World) (hX : Below w3.heap.size w3 X) => twin_any ad hd d fd X (hrd.below hX))
  have HMK := Lib.hid (fun (X : World) (hX : Below w3.heap.size w3 X) => hmc.below hX)
  have hb1 : Below w3.heap.size w3 w3.drew := (Below.refl _ _).drew
  have hb2 := Below.size hb1
  obtain ⟨mb, hmb⟩ : ∃ n, n = w.heap.size := ⟨_, rfl⟩
  have hml : mb < w3.heap.size := by rw [hmb]; exact hmc.lt
  have hmr2 : MsgB w3 (mb + 1) hd0 (.slice none 0 0) (.slice none 0 0) (.slice none 0 0) (.slice none 0 0) := by rw [hmb]; exact hmr
  have hml2 : mb + 1 < w3.heap.size := hmr2.lt
  rw [← hmb] at x11 x12 x13 HMK
  have HRT := Lib.hid (fun X (hX : Below w3.heap.size w3 X) => hX)
  clear hra hru hrd hmr
  have HQR := Lib.hid hqr; have HMC := Lib.hid hmc; have HMR2 := Lib.hid hmr2; have HQ1 := Lib.hid hq1; have HQ2 := Lib.hid hq2; have HBC := Lib.hid hBc; have HMB := Lib.hid hmb
  clear hqr hmc hmr2 hq1 hq2 hBc hmb
  go_upto_region 2 with fail
  rw [← HMB.out]
  go_cut [9] (fun _ wx => ∃ ga ca gu cu gd cd, w3.grownBy wx (some mb) ∧ MsgB wx mb h q' (.slice (some ⟨ga, 0, none⟩) an.length ca) (.slice (some ⟨gu, 0, none⟩) au.length cu) (.slice (some ⟨gd, 0, none⟩) ad.length cd) ∧
    TwinAt wx w3.heap.size ga ca an ∧ TwinAt wx w3.heap.size gu cu au ∧ TwinAt wx w3.heap.size gd cd ad)
  case first =>
    go_region_with (first
      | (go_at_call 23; (with_reducible refine (HTA.out _ hb1).mono ?_); rintro e wA ⟨ga, ca, rfl, hbA, hoA, hcA⟩; have hbA2 : Below w3.heap.size w3 wA := hb1.trans (hbA.mono hb2); obtain ⟨_, _, _, _, _, _, _, _, _, _, _, a11, a12, a13⟩ := (HMK.out _ hbA2).facts)
      | (go_at_call 23; (with_reducible refine (HTU.out _ hbA2).mono ?_); rintro e wU ⟨gu, cu, rfl, hbU, hoU, hcU⟩; have hbU2 : Below w3.heap.size w3 wU := hbA2.trans (hbU.mono hbA2.size); obtain ⟨_, _, _, _, _, _, _, _, _, _, _, b11, b12, b13⟩ := (HMK.out _ hbU2).facts)
      | (go_at_call 23; (with_reducible refine (HTD.out _ hbU2).mono ?_); rintro e wD ⟨gd, cd, rfl, hbD, hoD, hcD⟩; have hbD2 : Below w3.heap.size w3 wD := hbU2.trans (hbD.mono hbU2.size); obtain ⟨_, _, _, _, _, _, _, _, _, _, _, c11, c12, c13⟩ := (HMK.out _ hbD2).facts; have f11 := (HMK.out _ hbD2).free 11; have f12 := (HMK.out _ hbD2).free 12; have f13 := (HMK.out _ hbD2).free 13))
    all_goals (go_wp2_with fail; go_meet; exact twins_done hml hbA hbU hbD (HMK.out _ hbD2) hbD2 ⟨hoA, hcA⟩ ⟨hoU, hcU⟩ ⟨hoD, hcD⟩)
  case rest =>
  obtain ⟨ga, ca, gu, cu, gd, cd, hg, hm, ta, tu, td⟩ := hcut
  clear x11 x12 x13 hb1 hb2
  have hmr : MsgB wc (mb + 1) hd0 (.slice none 0 0) (.slice none 0 0) (.slice none 0 0) (.slice none 0 0) := (hg.block _ hml2 (by simp)).trans HMR2.out
  obtain ⟨x0, x1, x2, x3, x4, x5, x6, x7, x8, x9, x10, x11, x12, x13⟩ := hm.facts
  obtain ⟨y0, y1, y2, y3, y4, y5, y6, y7, y8, y9, y10, y11, y12, y13⟩ := hmr.facts
  have f0 := hmr.free 0; have f1 := hmr.free 1; have f2 := hmr.free 2; have f3 := hmr.free 3; have f4 := hmr.free 4; have f5 := hmr.free 5; have f6 := hmr.free 6; have f7 := hmr.free 7; have f8 := hmr.free 8; have f9 := hmr.free 9; have f10 := hmr.free 10; have f11 := hmr.free 11; have f12 := hmr.free 12; have f13 := hmr.free 13
  obtain ⟨qa, qc, rfl, -⟩ := ownsRow_len HQR.out
  obtain ⟨hst, hgst⟩ := msg_stored hmr h (.slice qa qs.length qc) (.slice (some ⟨ga, 0, none⟩) an.length ca) (.slice (some ⟨gu, 0, none⟩) au.length cu) (.slice (some ⟨gd, 0, none⟩) ad.length cd)
  have hfar : ∀ b, b < wc.heap.size → b ≠ mb + 1 → _ := fun b hb hne => hgst.block b hb (by simpa using hne)
  have e1 := ta.lt.1
  have e2 := tu.lt.1
  have e3 := td.lt.1
  have hBe : Below w.heap.size w _ := (HBC.out.grown hg (HBC.out.size) (fun j hj => by simp only [Option.some.injEq] at hj; have := HMB.out; omega)).grown hgst (by have := HBC.out.size; have := hg.size; omega) (fun j hj => by simp only [Option.some.injEq] at hj; have := HMB.out; omega)
  have hqe := ownsRow_keepOne HQR.out (fun b hb => (hfar b (Nat.lt_of_lt_of_le (HQR.out.lt b hb).2 hg.size) (fun e => HQ2.out (by rw [hb, e, HMB.out]))).trans (hg.block b (HQR.out.lt b hb).2 (fun e => HQ1.out (by rw [hb, ← HMB.out]; exact e))))
  have hpost : RTwinM h qs an au ad w (.returned (msgV h (.slice qa qs.length qc) (.slice (some ⟨ga, 0, none⟩) an.length ca) (.slice (some ⟨gu, 0, none⟩) au.length cu) (.slice (some ⟨gd, 0, none⟩) ad.length cd))) _ :=
    ⟨_, ga, ca, gu, cu, gd, cd, rfl, hBe, hqe, (ta.keepOne (hfar _ ta.lt.2 (by omega))).base_ HBC.out.size, (tu.keepOne (hfar _ tu.lt.2 (by omega))).base_ HBC.out.size, (td.keepOne (hfar _ td.lt.2 (by omega))).base_ HBC.out.size⟩
  clear hfar hBe hqe hgst
  have HST := Lib.hid hst
  have HG := Lib.hid hg; have HM := Lib.hid hm; have TA := Lib.hid ta; have TU := Lib.hid tu; have TD := Lib.hid td; have HMR := Lib.hid hmr; have HPOST := Lib.hid hpost
  clear hg hm ta tu td hmr hpost
  clear hst
  go_wp2_with fail
  exact msg_ret rfl rfl rfl HST.out HPOST.out
end Go.Proofs.YtdjjemajfphjaaaGreat

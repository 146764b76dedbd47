/-
  gazetteerlaw11.PolicyFilters: the region that makes the twins of two messages, in whatever order.
-/
import Derived.Test.YtnloommafgnanaaQFilA
import Derived.Test.YtnloommafgnanaaQGhost
import Derived.Deep.MidRow
namespace Go.Proofs.Ytnloommafgnanaa
open Go.RowKit Go.Shelf Go.Proofs.Ytnloommafgnanaa.nm Go.Proofs.Ytnloommafgnanaa.od

/-- The twin of a message, as a value. -/
def TwV (M : Msg) (v : Value) (w : World) (base : Nat) : Prop :=
  ∃ q ga ca gu cu gd cd, v = msgV M.h q (.slice (some ⟨ga, 0, none⟩) M.an.length ca) (.slice (some ⟨gu, 0, none⟩) M.au.length cu) (.slice (some ⟨gd, 0, none⟩) M.ad.length cd) ∧
    w.ownsRow base 57 3 q M.qs.length (qnsC M.qs) ∧ TwinAt w base ga ca M.an ∧ TwinAt w base gu cu M.au ∧ TwinAt w base gd cd M.ad
/-- The twin of a message, in a block. -/
def TM (w : World) (base b : Nat) (M : Msg) : Prop :=
  ∃ q ga ca gu cu gd cd, MsgB w b M.h q (.slice (some ⟨ga, 0, none⟩) M.an.length ca) (.slice (some ⟨gu, 0, none⟩) M.au.length cu) (.slice (some ⟨gd, 0, none⟩) M.ad.length cd) ∧
    w.ownsRow base 57 3 q M.qs.length (qnsC M.qs) ∧ TwinAt w base ga ca M.an ∧ TwinAt w base gu cu M.au ∧ TwinAt w base gd cd M.ad
abbrev nilS : Value := .slice none 0 0
def ptrB (b : Nat) : Value := .pointer (some ⟨b, 0, none⟩)
/-- A store of a message into its block. -/
@[reducible] def sets14 (w : World) (b : Nat) (h : Hd) (q a u d : Value) : World :=
  (((((((((((((w.setCell ⟨b, 0, none⟩ (.int .i64 h.id)).setCell ⟨b, 1, none⟩ (.bool h.resp)).setCell ⟨b, 2, none⟩ (.int .i64 h.op)).setCell ⟨b, 3, none⟩ (.bool h.aa)).setCell ⟨b, 4, none⟩ (.bool h.tc)).setCell ⟨b, 5, none⟩ (.bool h.rd)).setCell ⟨b, 6, none⟩ (.bool h.ra)).setCell ⟨b, 7, none⟩ (.bool h.ad)).setCell ⟨b, 8, none⟩ (.bool h.cd)).setCell ⟨b, 9, none⟩ (.int .i64 h.rcode)).setCell ⟨b, 10, none⟩ q).setCell ⟨b, 11, none⟩ a).setCell ⟨b, 12, none⟩ u).setCell ⟨b, 13, none⟩ d
section
variable {w w' : World} {b c g cap base B : Nat} {h h' : Hd} {q a u d q' a' u' d' v : Value} {l : List Rec} {o : Obj} {M : Msg}
theorem sets14_far (hne : b ≠ c) : (sets14 w c h q a u d).heap[b]? = w.heap[b]? := by
  unfold sets14
  simp only [Below.heap_setCell _ _ _ _ (show b ≠ (⟨c, _, none⟩ : Addr).block from hne)]
theorem below_s14 {x : World} (hc : B ≤ c) (hx : Below B x w) : Below B x (sets14 w c h q a u d) := by
  unfold sets14
  exact (((((((((((((hx.setCell hc _).setCell hc _).setCell hc _).setCell hc _).setCell hc _).setCell hc _).setCell hc _).setCell hc _).setCell hc _).setCell hc _).setCell hc _).setCell hc _).setCell hc _).setCell hc _
theorem msgB_s14 (hm : MsgB w b h' q' a' u' d') : MsgB (sets14 w b h q a u d) b h q a u d := (msg_stored hm h q a u d).1
theorem msgB_far (hm : MsgB w b h' q' a' u' d') (hne : b ≠ c) : MsgB (sets14 w c h q a u d) b h' q' a' u' d' := (sets14_far hne).trans hm
theorem twinAt_far (ht : TwinAt w base g cap l) (hne : g ≠ c) : TwinAt (sets14 w c h q a u d) base g cap l := ht.keepOne (sets14_far hne)
theorem row_far {e : TypeId} {sz n : Nat} {xs : List Value} (hr : w.ownsRow base e sz v n xs) (hne : v.ownBlock ≠ some c) : (sets14 w c h q a u d).ownsRow base e sz v n xs := ownsRow_keepOne hr fun k hk => sets14_far (fun e => hne (by rw [hk, e]))
/-- A row of another element is not a message's block. -/
theorem row_not_msg {e : TypeId} {sz n : Nat} {xs : List Value} (hr : w.ownsRow base e sz v n xs) (hm : MsgB w b h q a u d) (he : e ≠ 27) : v.ownBlock ≠ some b := by
  intro hb
  rcases hr.2 with ⟨rfl, _⟩ | ⟨g, cap, cur, rfl, _, hg, _⟩
  · simp [Value.ownBlock] at hb
  · obtain rfl : g = b := by simpa [Value.ownBlock] using hb
    have := hg.symm.trans hm
    simp only [Option.some.injEq, Obj.cells.injEq] at this
    exact he this.2.1
theorem twin_not_msg (ht : TwinAt w base g cap l) (hm : MsgB w b h q a u d) : g ≠ b := fun e => row_not_msg ht.1 hm (by decide) (by rw [e]; rfl)
theorem TwV.below (ht : TwV M v w base) (hB : Below w.heap.size w w') : TwV M v w' base := by
  obtain ⟨q, ga, ca, gu, cu, gd, cd, e, r, t1, t2, t3⟩ := ht
  exact ⟨q, ga, ca, gu, cu, gd, cd, e, ownsRow_below r hB, t1.below hB, t2.below hB, t3.below hB⟩
theorem TM.below (ht : TM w base b M) (hB : Below w.heap.size w w') : TM w' base b M := by
  obtain ⟨q, ga, ca, gu, cu, gd, cd, e, r, t1, t2, t3⟩ := ht
  exact ⟨q, ga, ca, gu, cu, gd, cd, e.below hB, ownsRow_below r hB, t1.below hB, t2.below hB, t3.below hB⟩
theorem twV_far (ht : TwV M v w base) (hm : MsgB w c h' q' a' u' d') : TwV M v (sets14 w c h q a u d) base := by
  obtain ⟨q, ga, ca, gu, cu, gd, cd, e, r, t1, t2, t3⟩ := ht
  exact ⟨q, ga, ca, gu, cu, gd, cd, e, row_far r (row_not_msg r hm (by decide)), twinAt_far t1 (twin_not_msg t1 hm), twinAt_far t2 (twin_not_msg t2 hm), twinAt_far t3 (twin_not_msg t3 hm)⟩
theorem TM.far (ht : TM w base b M) (hm : MsgB w c h' q' a' u' d') (hne : b ≠ c) : TM (sets14 w c h q a u d) base b M := by
  obtain ⟨q, ga, ca, gu, cu, gd, cd, e, r, t1, t2, t3⟩ := ht
  exact ⟨q, ga, ca, gu, cu, gd, cd, msgB_far e hne, row_far r (row_not_msg r hm (by decide)), twinAt_far t1 (twin_not_msg t1 hm), twinAt_far t2 (twin_not_msg t2 hm), twinAt_far t3 (twin_not_msg t3 hm)⟩
/-- A twin that is stored stands in its block. -/
theorem TwV.store {q a u d : Value} (ht : TwV M (msgV M.h q a u d) w base) (hm : MsgB w c h' q' a' u' d') : TM (sets14 w c M.h q a u d) base c M := by
  obtain ⟨q2, ga, ca, gu, cu, gd, cd, e, r, t1, t2, t3⟩ := twV_far (h := M.h) (q := q) (a := a) (u := u) (d := d) ht hm
  simp only [Value.agg.injEq, Array.mk.injEq, List.cons.injEq, true_and, and_true] at e
  obtain ⟨rfl, rfl, rfl, rfl⟩ := e
  exact ⟨_, ga, ca, gu, cu, gd, cd, msgB_s14 hm, r, t1, t2, t3⟩
end

/-! ### The operations' runs -/
theorem run_load_msg {ρ : Operand → Value} {x : Operand} {dst : Option Tmp} {ty : TypeId} {pos : String} {af : Array Edge} {gd : Option (Nat × Bool)} {w : World} {b : Nat} {h : Hd} {q a u d : Value} (hx : ρ x = ptrB b) (hm : MsgB w b h q a u d) :
    (execOp ρ ⟨dst, .load 27 x, ty, pos, af, gd⟩).run Try.prog w = .ok (.value (msgV h q a u d)) w := by
  unfold execOp
  simp only [hx, ptrB, Instr.loadAt, Instr.sureAddr, Sem.run_bind, Sem.run_pure, Result.andThen_ok, run_loadVar_row w b _ _ _ _ _ hm Try.underlying27 rfl msg_size]
theorem run_alloc_msg {ρ : Operand → Value} {dst : Option Tmp} {ty : TypeId} {pos : String} {af : Array Edge} {gd : Option (Nat × Bool)} (w : World) :
    (execOp ρ ⟨dst, .alloc 27, ty, pos, af, gd⟩).run Try.prog w = .ok (.value (ptrB w.heap.size)) (w.alloc (.cells (msgC hd0 nilS nilS nilS nilS).toArray 27)) := by
  unfold execOp ptrB
  go_simp
theorem run_store_msg {ρ : Operand → Value} {x y : Operand} {dst : Option Tmp} {ty : TypeId} {pos : String} {af : Array Edge} {gd : Option (Nat × Bool)} {w : World} {b : Nat} {h' : Hd} {q' a' u' d' : Value} (h : Hd) (q a u d : Value) (hx : ρ x = ptrB b) (hy : ρ y = msgV h q a u d) (hm : MsgB w b h' q' a' u' d') (hq : q.oneCell' = true) (ha : a.oneCell' = true) (hu : u.oneCell' = true) (hd : d.oneCell' = true) :
    (execOp ρ ⟨dst, .store 27 x y, ty, pos, af, gd⟩).run Try.prog w = .ok .skip (sets14 w b h q a u d) := by
  have hth : w.there b 0 14 := by
    intro j hj
    have hlt : j < (msgC h' q' a' u' d').toArray.size := hj
    refine ⟨?_, hm.free _⟩
    rw [Nat.zero_add, heap_cell hm, Array.getElem?_eq_getElem hlt]
    rfl
  have hrun := run_storeAt_mid (P := Try.prog) w b 0 27 (msgC h q a u d).toArray hth msg_size (all_oneCell_toArray (by
    intro v hv
    simp only [List.mem_cons, List.not_mem_nil, or_false] at hv
    rcases hv with rfl | rfl | rfl | rfl | rfl | rfl | rfl | rfl | rfl | rfl | rfl | rfl | rfl | rfl <;> first | rfl | assumption))
  unfold execOp
  simp only [hx, hy, ptrB]
  simp only [Sem.run_bind, hrun, Result.andThen_ok, Sem.run_pure]
  rfl
theorem run_call_twin {ρ : Operand → Value} {x : Operand} {dst : Option Tmp} {ty : TypeId} {tys : Array TypeId} {pos : String} {af : Array Edge} {gd : Option (Nat × Bool)} (hf : ρ (.func 8) = .func (.func 8) #[] #[]) (w : World) :
    (execOp ρ ⟨dst, .call { callee := .value (.func 8), args := #[x], argTypes := tys }, ty, pos, af, gd⟩).run Try.prog w = .ok (.enter 8 #[ρ x]) w := by
  unfold execOp resolve
  simp only [hf]
  go_simp

/-! ### The region -/
namespace tt
@[reducible] def op0 : Oper := { dst := some 33, op := .load 27 (.tmp 6), type := 27, pos := "law.go:50", after := #[], guard := none }
@[reducible] def op1 : Oper := { dst := some 34, op := .call { callee := .value (.func 8), args := #[.tmp 33], argTypes := #[27] }, type := 27, pos := "law.go:50", after := #[{ on := 0, ground := .data }], guard := none }
@[reducible] def op2 : Oper := { dst := some 35, op := .load 27 (.tmp 7), type := 27, pos := "law.go:50", after := #[], guard := none }
@[reducible] def op3 : Oper := { dst := some 36, op := .call { callee := .value (.func 8), args := #[.tmp 35], argTypes := #[27] }, type := 27, pos := "law.go:50", after := #[{ on := 2, ground := .data }, { on := 1, ground := .chain }], guard := none }
@[reducible] def op4 : Oper := { dst := some 11, op := .alloc 27, type := 0, pos := "law.go:50", after := #[], guard := none }
@[reducible] def op5 : Oper := { dst := some 12, op := .alloc 27, type := 0, pos := "law.go:50", after := #[], guard := none }
@[reducible] def op6 : Oper := { dst := none, op := .store 27 (.tmp 11) (.tmp 34), type := 0, pos := "law.go:50", after := #[{ on := 4, ground := .data }, { on := 1, ground := .data }, { on := 3, ground := .chain }, { on := 0, ground := .phase }, { on := 1, ground := .phase }, { on := 2, ground := .textOnly .lateStores }, { on := 3, ground := .textOnly .lateStoresUnsure }, { on := 4, ground := .phase }, { on := 5, ground := .phase }], guard := none }
@[reducible] def op7 : Oper := { dst := none, op := .store 27 (.tmp 12) (.tmp 36), type := 0, pos := "law.go:50", after := #[{ on := 5, ground := .data }, { on := 3, ground := .data }, { on := 6, ground := .chain }, { on := 0, ground := .phase }, { on := 1, ground := .phase }, { on := 2, ground := .phase }, { on := 3, ground := .phase }, { on := 4, ground := .phase }, { on := 5, ground := .phase }, { on := 6, ground := .phase }], guard := none }
@[reducible] def ops : Array Oper := #[op0, op1, op2, op3, op4, op5, op6, op7]
def gOf (r0 r1 r2 r3 r4 r5 : Option Value) (t : Nat) : Option Value := if t = 33 then r0 else if t = 34 then r1 else if t = 35 then r2 else if t = 36 then r3 else if t = 11 then r4 else if t = 12 then r5 else none
def dOf (r0 r1 r2 r3 r4 r5 : Option Value) (s6 s7 : Bool) (i : Nat) : Bool := if i = 0 then r0.isSome else if i = 1 then r1.isSome else if i = 2 then r2.isSome else if i = 3 then r3.isSome else if i = 4 then r4.isSome else if i = 5 then r5.isSome else if i = 6 then s6 else if i = 7 then s7 else false
section
variable {r0 r1 r2 r3 r4 r5 : Option Value} {s6 s7 : Bool} (v : Value)
theorem g0 : updG (gOf r0 r1 r2 r3 r4 r5) 33 v = gOf (some v) r1 r2 r3 r4 r5 := by
  funext t
  by_cases h : t = 33
  · subst h; simp [updG, gOf]
  · rw [updG_other _ _ h]; unfold gOf; simp only [if_neg h]
theorem d0 : updD (dOf r0 r1 r2 r3 r4 r5 s6 s7) 0 = dOf (some v) r1 r2 r3 r4 r5 s6 s7 := by
  funext t
  by_cases h : t = 0
  · subst h; simp [updD, dOf]
  · rw [updD_other _ h]; unfold dOf; simp only [if_neg h]
theorem g1 : updG (gOf r0 r1 r2 r3 r4 r5) 34 v = gOf r0 (some v) r2 r3 r4 r5 := by
  funext t
  by_cases h : t = 34
  · subst h; simp [updG, gOf]
  · rw [updG_other _ _ h]; unfold gOf; simp only [if_neg h]
theorem d1 : updD (dOf r0 r1 r2 r3 r4 r5 s6 s7) 1 = dOf r0 (some v) r2 r3 r4 r5 s6 s7 := by
  funext t
  by_cases h : t = 1
  · subst h; simp [updD, dOf]
  · rw [updD_other _ h]; unfold dOf; simp only [if_neg h]
theorem g2 : updG (gOf r0 r1 r2 r3 r4 r5) 35 v = gOf r0 r1 (some v) r3 r4 r5 := by
  funext t
  by_cases h : t = 35
  · subst h; simp [updG, gOf]
  · rw [updG_other _ _ h]; unfold gOf; simp only [if_neg h]
theorem d2 : updD (dOf r0 r1 r2 r3 r4 r5 s6 s7) 2 = dOf r0 r1 (some v) r3 r4 r5 s6 s7 := by
  funext t
  by_cases h : t = 2
  · subst h; simp [updD, dOf]
  · rw [updD_other _ h]; unfold dOf; simp only [if_neg h]
theorem g3 : updG (gOf r0 r1 r2 r3 r4 r5) 36 v = gOf r0 r1 r2 (some v) r4 r5 := by
  funext t
  by_cases h : t = 36
  · subst h; simp [updG, gOf]
  · rw [updG_other _ _ h]; unfold gOf; simp only [if_neg h]
theorem d3 : updD (dOf r0 r1 r2 r3 r4 r5 s6 s7) 3 = dOf r0 r1 r2 (some v) r4 r5 s6 s7 := by
  funext t
  by_cases h : t = 3
  · subst h; simp [updD, dOf]
  · rw [updD_other _ h]; unfold dOf; simp only [if_neg h]
theorem g4 : updG (gOf r0 r1 r2 r3 r4 r5) 11 v = gOf r0 r1 r2 r3 (some v) r5 := by
  funext t
  by_cases h : t = 11
  · subst h; simp [updG, gOf]
  · rw [updG_other _ _ h]; unfold gOf; simp only [if_neg h]
theorem d4 : updD (dOf r0 r1 r2 r3 r4 r5 s6 s7) 4 = dOf r0 r1 r2 r3 (some v) r5 s6 s7 := by
  funext t
  by_cases h : t = 4
  · subst h; simp [updD, dOf]
  · rw [updD_other _ h]; unfold dOf; simp only [if_neg h]
theorem g5 : updG (gOf r0 r1 r2 r3 r4 r5) 12 v = gOf r0 r1 r2 r3 r4 (some v) := by
  funext t
  by_cases h : t = 12
  · subst h; simp [updG, gOf]
  · rw [updG_other _ _ h]; unfold gOf; simp only [if_neg h]
theorem d5 : updD (dOf r0 r1 r2 r3 r4 r5 s6 s7) 5 = dOf r0 r1 r2 r3 r4 (some v) s6 s7 := by
  funext t
  by_cases h : t = 5
  · subst h; simp [updD, dOf]
  · rw [updD_other _ h]; unfold dOf; simp only [if_neg h]
theorem d6 : updD (dOf r0 r1 r2 r3 r4 r5 s6 s7) 6 = dOf r0 r1 r2 r3 r4 r5 true s7 := by
  funext t
  by_cases h : t = 6
  · subst h; simp [updD, dOf]
  · rw [updD_other _ h]; unfold dOf; simp only [if_neg h]
theorem d7 : updD (dOf r0 r1 r2 r3 r4 r5 s6 s7) 7 = dOf r0 r1 r2 r3 r4 r5 s6 true := by
  funext t
  by_cases h : t = 7
  · subst h; simp [updD, dOf]
  · rw [updD_other _ h]; unfold dOf; simp only [if_neg h]
end
/-- What is known while nothing is stored. -/
structure J (w0 : World) (base : Nat) (M A : Msg) (mv av : Value) (r0 r1 r2 r3 r4 r5 : Option Value) (w : World) : Prop where
  below : Below base w0 w
  size : base ≤ w.heap.size
  p0 : ∀ v, r0 = some v → v = mv
  p2 : ∀ v, r2 = some v → v = av
  o3 : r3.isSome = true → r2.isSome = true
  p1 : ∀ v, r1 = some v → TwV M v w base
  p3 : ∀ v, r3 = some v → TwV A v w base
  p4 : ∀ v, r4 = some v → ∃ b, v = ptrB b ∧ base ≤ b ∧ MsgB w b hd0 nilS nilS nilS nilS
  p5 : ∀ v, r5 = some v → ∃ b, v = ptrB b ∧ base ≤ b ∧ MsgB w b hd0 nilS nilS nilS nilS
  ne : ∀ v, r4 = some v → r5 ≠ some v
theorem J.keep {w0 : World} {base : Nat} {M A : Msg} {mv av : Value} {r0 r1 r2 r3 r4 r5 : Option Value} {w w' : World} (h : J w0 base M A mv av r0 r1 r2 r3 r4 r5 w) (hB : Below w.heap.size w w') : J w0 base M A mv av r0 r1 r2 r3 r4 r5 w' :=
  ⟨h.below.trans (hB.mono h.size), Nat.le_trans h.size hB.size, h.p0, h.p2, h.o3, fun v e => (h.p1 v e).below hB, fun v e => (h.p3 v e).below hB,
    fun v e => by obtain ⟨b, e1, e2, e3⟩ := h.p4 v e; exact ⟨b, e1, e2, e3.below hB⟩, fun v e => by obtain ⟨b, e1, e2, e3⟩ := h.p5 v e; exact ⟨b, e1, e2, e3.below hB⟩, h.ne⟩
/-- What is known in the region. -/
inductive I (w0 : World) (base : Nat) (M A : Msg) (mv av : Value) : (Nat → Bool) → (Nat → Option Value) → World → Prop
  | a (r0 r1 r2 r3 r4 r5 : Option Value) (w : World) (h : J w0 base M A mv av r0 r1 r2 r3 r4 r5 w) : I w0 base M A mv av (dOf r0 r1 r2 r3 r4 r5 false false) (gOf r0 r1 r2 r3 r4 r5) w
  | b (v0 v1 v2 v3 : Value) (b4 b5 : Nat) (w : World) (hb : Below base w0 w) (h4 : base ≤ b4) (h5 : base ≤ b5) (hne : b4 ≠ b5) (tm : TM w base b4 M) (tv : TwV A v3 w base) (m5 : MsgB w b5 hd0 nilS nilS nilS nilS) :
    I w0 base M A mv av (dOf (some v0) (some v1) (some v2) (some v3) (some (ptrB b4)) (some (ptrB b5)) true false) (gOf (some v0) (some v1) (some v2) (some v3) (some (ptrB b4)) (some (ptrB b5))) w
  | c (v0 v1 v2 v3 : Value) (b4 b5 : Nat) (w : World) (hb : Below base w0 w) (tm : TM w base b4 M) (ta : TM w base b5 A) :
    I w0 base M A mv av (dOf (some v0) (some v1) (some v2) (some v3) (some (ptrB b4)) (some (ptrB b5)) true true) (gOf (some v0) (some v1) (some v2) (some v3) (some (ptrB b4)) (some (ptrB b5))) w
theorem none_of {r : Option Value} (h : r.isSome = false) : r = none := by cases r <;> simp_all
theorem some_of {r : Option Value} (h : r.isSome = true) : ∃ v, r = some v := by cases r <;> simp_all
theorem row_cell {w : World} {base n sz : Nat} {e : TypeId} {v : Value} {xs : List Value} (h : w.ownsRow base e sz v n xs) : v.oneCell' = true := by
  obtain ⟨a, c, rfl, _⟩ := ownsRow_len h
  rfl
theorem twV_cells {M : Msg} {v : Value} {w : World} {base : Nat} (h : TwV M v w base) : ∃ q a u d, v = msgV M.h q a u d ∧ q.oneCell' = true ∧ a.oneCell' = true ∧ u.oneCell' = true ∧ d.oneCell' = true := by
  obtain ⟨q, ga, ca, gu, cu, gd, cd, e, r, _⟩ := h
  exact ⟨q, _, _, _, e, row_cell r, rfl, rfl, rfl⟩
theorem call_twin {w0 : World} {base : Nat} {M A M' : Msg} {mv av v : Value} {r0 r1 r2 r3 r4 r5 : Option Value} {w : World} (hJ : J w0 base M A mv av r0 r1 r2 r3 r4 r5 w)
    (hc : Calls Try.prog 8 #[v] w fun e w' => RTwinM M'.h M'.qs M'.an M'.au M'.ad w e w') :
    Calls Try.prog 8 #[v] w fun e w' => ∃ v, e = .returned v ∧ J w0 base M A mv av r0 r1 r2 r3 r4 r5 w' ∧ TwV M' v w' base := by
  refine hc.mono ?_
  rintro e w' ⟨q, ga, ca, gu, cu, gd, cd, rfl, hB, ho, t1, t2, t3⟩
  have hs := hJ.size
  exact ⟨_, rfl, hJ.keep hB, q, ga, ca, gu, cu, gd, cd, rfl, ownsRow_base ho hs, t1.base_ hs, t2.base_ hs, t3.base_ hs⟩
theorem J.alloc {w0 : World} {base : Nat} {M A : Msg} {mv av : Value} {r0 r1 r2 r3 r4 r5 : Option Value} {w : World} (h : J w0 base M A mv av r0 r1 r2 r3 r4 r5 w) (o : Obj) : J w0 base M A mv av r0 r1 r2 r3 r4 r5 (w.alloc o) := h.keep ((Below.refl _ w).alloc (Nat.le_refl _) o)
set_option maxHeartbeats 4000000 in
/-- The region: both twins, each in a block of its own. -/
theorem twins_region {id : Nat} {a : Act} {w0 : World} {Q : Exit → Act → World → Prop} {M A : Msg} {bm ba : Nat} {mq ma mu md q x u d : Value} (h6 : a.eval (.tmp 6) = ptrB bm) (h7 : a.eval (.tmp 7) = ptrB ba) (hsz : 37 ≤ a.tmps.size)
    (hM : MsgB w0 bm M.h mq ma mu md) (hA : MsgB w0 ba A.h q x u d)
    (hTM : ∀ X, Below w0.heap.size w0 X → Calls Try.prog 8 #[msgV M.h mq ma mu md] X fun e w' => RTwinM M.h M.qs M.an M.au M.ad X e w')
    (hTA : ∀ X, Below w0.heap.size w0 X → Calls Try.prog 8 #[msgV A.h q x u d] X fun e w' => RTwinM A.h A.qs A.an A.au A.ad X e w')
    (fin : ∀ v0 v1 v2 v3 b4 b5 X, TM X w0.heap.size b4 M → TM X w0.heap.size b5 A → Below w0.heap.size w0 X → Q .normal ((((((a.put (some 33) v0).put (some 34) v1).put (some 35) v2).put (some 36) v3).put (some 11) (ptrB b4)).put (some 12) (ptrB b5)) X) :
    (Code.region id ops true).wp Try.prog Q a w0 := by
  refine wp_region_ghost (I w0 w0.heap.size M A (msgV M.h mq ma mu md) (msgV A.h q x u d)) (by kernel_rfl) (by kernel_rfl) ?_ ?_ ?_
  · have e1 : (fun _ : Nat => false) = dOf none none none none none none false false := by funext t; simp [dOf]
    have e2 : (fun _ : Nat => (none : Option Value)) = gOf none none none none none none := by funext t; simp [gOf]
    rw [e1, e2]
    exact .a _ _ _ _ _ _ _ ⟨(Below.refl _ _).drew, Nat.le_refl _, nofun, nofun, nofun, nofun, nofun, nofun, nofun, nofun⟩
  · intro dd g w hI i o ho hd hall
    cases hI with
    | c v0 v1 v2 v3 b4 b5 _ hb tm ta =>
      exfalso
      match i, ho, hd with
      | 0, _, hd => cases hd
      | 1, _, hd => cases hd
      | 2, _, hd => cases hd
      | 3, _, hd => cases hd
      | 4, _, hd => cases hd
      | 5, _, hd => cases hd
      | 6, _, hd => cases hd
      | 7, _, hd => cases hd
      | n + 8, ho, _ => cases ho
    | b v0 v1 v2 v3 b4 b5 _ hb h4 h5 hne tm tv m5 =>
      match i, ho, hd with
      | 0, _, hd => cases hd
      | 1, _, hd => cases hd
      | 2, _, hd => cases hd
      | 3, _, hd => cases hd
      | 4, _, hd => cases hd
      | 5, _, hd => cases hd
      | 6, _, hd => cases hd
      | 7, ho, _ =>
        obtain rfl : op7 = o := Option.some.inj ho
        obtain ⟨q', a', u', d', rfl, c1, c2, c3, c4⟩ := twV_cells tv
        refine ghost_skip rfl rfl rfl (run_store_msg A.h q' a' u' d' (b := b5) (fillA_some (g := gOf _ _ _ _ _ _) rfl (by omega)) (fillA_some (g := gOf _ _ _ _ _ _) rfl (by omega)) m5 c1 c2 c3 c4) ?_
        rw [d7]
        exact .c _ _ _ _ _ _ _ (below_s14 h5 hb) (tm.far m5 hne) (tv.store m5)
      | n + 8, ho, _ => cases ho
    | a r0 r1 r2 r3 r4 r5 _ hJ =>
      match i, ho, hd, hall with
      | 0, ho, hd, _ =>
        obtain rfl : op0 = o := Option.some.inj ho
        obtain rfl := none_of hd
        refine ghost_value rfl rfl rfl (run_load_msg (b := bm) ((fillA_keep rfl).trans h6) (hM.below (hJ.below))) ?_
        rw [d0, g0]
        exact .a _ _ _ _ _ _ _ { hJ with p0 := fun v e => (Option.some.inj e).symm }
      | 2, ho, hd, _ =>
        obtain rfl : op2 = o := Option.some.inj ho
        obtain rfl := none_of hd
        refine ghost_value rfl rfl rfl (run_load_msg (b := ba) ((fillA_keep rfl).trans h7) (hA.below (hJ.below))) ?_
        rw [d2, g2]
        exact .a _ _ _ _ _ _ _ { hJ with p2 := fun v e => (Option.some.inj e).symm, o3 := fun _ => rfl }
      | 1, ho, hd, hall =>
        obtain rfl : op1 = o := Option.some.inj ho
        obtain rfl := none_of hd
        obtain ⟨v0, rfl⟩ := some_of (hall ⟨0, .data⟩ (by simp) rfl)
        have e0 := hJ.p0 v0 rfl
        subst e0
        refine ghost_call rfl rfl rfl (run_call_twin rfl w) ?_
        rw [fillA_some (g := gOf _ _ _ _ _ _) (v := msgV M.h mq ma mu md) rfl (by omega)]
        refine (call_twin hJ (hTM w hJ.below)).mono ?_
        rintro e w' ⟨v, rfl, hJ', hT⟩
        refine ⟨v, rfl, ?_⟩
        rw [d1, g1]
        exact .a _ _ _ _ _ _ _ { hJ' with p1 := fun v' e => (Option.some.inj e) ▸ hT }
      | 3, ho, hd, hall =>
        obtain rfl : op3 = o := Option.some.inj ho
        obtain rfl := none_of hd
        obtain ⟨v2, rfl⟩ := some_of (hall ⟨2, .data⟩ (by simp) rfl)
        have e0 := hJ.p2 v2 rfl
        subst e0
        refine ghost_call rfl rfl rfl (run_call_twin rfl w) ?_
        rw [fillA_some (g := gOf _ _ _ _ _ _) (v := msgV A.h q x u d) rfl (by omega)]
        refine (call_twin hJ (hTA w hJ.below)).mono ?_
        rintro e w' ⟨v, rfl, hJ', hT⟩
        refine ⟨v, rfl, ?_⟩
        rw [d3, g3]
        exact .a _ _ _ _ _ _ _ { hJ' with p3 := fun v' e => (Option.some.inj e) ▸ hT, o3 := fun _ => rfl }
      | 4, ho, hd, _ =>
        obtain rfl : op4 = o := Option.some.inj ho
        obtain rfl := none_of hd
        refine ghost_value rfl rfl rfl (run_alloc_msg w) ?_
        rw [d4, g4]
        exact .a _ _ _ _ _ _ _ { hJ.alloc (.cells (msgC hd0 nilS nilS nilS nilS).toArray 27) with
          p4 := fun v e => ⟨_, (Option.some.inj e).symm, hJ.size, heap_new_at rfl⟩
          ne := fun v e e5 => by
            obtain ⟨b, e1, _, e3⟩ := hJ.p5 v e5
            have h1 := (Option.some.inj e).trans e1
            simp only [ptrB, Value.pointer.injEq, Option.some.injEq, Addr.mk.injEq] at h1
            have := e3.lt
            omega }
      | 5, ho, hd, _ =>
        obtain rfl : op5 = o := Option.some.inj ho
        obtain rfl := none_of hd
        refine ghost_value rfl rfl rfl (run_alloc_msg w) ?_
        rw [d5, g5]
        exact .a _ _ _ _ _ _ _ { hJ.alloc (.cells (msgC hd0 nilS nilS nilS nilS).toArray 27) with
          p5 := fun v e => ⟨_, (Option.some.inj e).symm, hJ.size, heap_new_at rfl⟩
          ne := fun v e e5 => by
            obtain ⟨b, e1, _, e3⟩ := hJ.p4 v e
            have h1 := (Option.some.inj e5).trans e1
            simp only [ptrB, Value.pointer.injEq, Option.some.injEq, Addr.mk.injEq] at h1
            have := e3.lt
            omega }
      | 6, ho, hd, hall =>
        obtain rfl : op6 = o := Option.some.inj ho
        obtain ⟨v0, rfl⟩ := some_of (hall ⟨0, .phase⟩ (by simp) rfl)
        obtain ⟨v1, rfl⟩ := some_of (hall ⟨1, .phase⟩ (by simp) rfl)
        obtain ⟨v3, rfl⟩ := some_of (hall ⟨3, .chain⟩ (by simp) rfl)
        obtain ⟨v4, rfl⟩ := some_of (hall ⟨4, .phase⟩ (by simp) rfl)
        obtain ⟨v5, rfl⟩ := some_of (hall ⟨5, .phase⟩ (by simp) rfl)
        obtain ⟨v2, rfl⟩ := some_of (hJ.o3 rfl)
        have t1 := hJ.p1 v1 rfl
        have t3 := hJ.p3 v3 rfl
        have hne := hJ.ne v4 rfl
        obtain ⟨b4, rfl, i4, m4⟩ := hJ.p4 v4 rfl
        obtain ⟨b5, rfl, i5, m5⟩ := hJ.p5 v5 rfl
        have hne' : b5 ≠ b4 := fun e => hne (by rw [e])
        obtain ⟨q', a', u', d', rfl, c1, c2, c3, c4⟩ := twV_cells t1
        refine ghost_skip rfl rfl rfl (run_store_msg M.h q' a' u' d' (b := b4) (fillA_some (g := gOf _ _ _ _ _ _) rfl (by omega)) (fillA_some (g := gOf _ _ _ _ _ _) rfl (by omega)) m4 c1 c2 c3 c4) ?_
        rw [d6]
        exact .b _ _ _ _ _ _ _ (below_s14 i4 hJ.below) i4 i5 (Ne.symm hne') (t1.store m4) (twV_far t3 m4) (msgB_far m5 hne')
      | 7, ho, hd, hall =>
        obtain rfl : op7 = o := Option.some.inj ho
        cases (hall ⟨6, .phase⟩ (by simp) rfl)
      | n + 8, ho, _, _ => cases ho
  · intro dd g w hI hall
    cases hI with
    | a r0 r1 r2 r3 r4 r5 _ hJ => cases (hall 7 (by decide))
    | b v0 v1 v2 v3 b4 b5 _ hb h4 h5 hne tm tv m5 => cases (hall 7 (by decide))
    | c v0 v1 v2 v3 b4 b5 _ hb tm ta =>
      have e : fillA a (gOf (some v0) (some v1) (some v2) (some v3) (some (ptrB b4)) (some (ptrB b5))) = ((((((a.put (some 33) v0).put (some 34) v1).put (some 35) v2).put (some 36) v3).put (some 11) (ptrB b4)).put (some 12) (ptrB b5)) := by
        have h0 := fillA_none a
        rw [← g5 (r5 := none), ← fillA_put, ← g4 (r4 := none), ← fillA_put, ← g3 (r3 := none), ← fillA_put, ← g2 (r2 := none), ← fillA_put, ← g1 (r1 := none), ← fillA_put, ← g0 (r0 := none), ← fillA_put]
        have e2 : (fun _ : Nat => (none : Option Value)) = gOf none none none none none none := by funext t; simp [gOf]
        rw [← e2, h0]
      rw [e]
      exact fin v0 v1 v2 v3 b4 b5 w tm ta hb
end tt
end Go.Proofs.Ytnloommafgnanaa

/-
  policy.Filter: what it comes to; clones of questions; lists of a message that nobody else has.
-/
import Derived.Test.YtnloommafgnanaaQMsgC
import Derived.Test.YtnloommafgnanaaQMsgB
import Derived.Test.YtnloommafgnanaaQDelG
import Derived.Test.YtnloommafgnanaaQPolB
namespace Go.Proofs.Ytnloommafgnanaa
open Go.RowKit Go.Shelf Go.Proofs.Ytnloommafgnanaa.nm Go.Proofs.Ytnloommafgnanaa.od

/-- A message, whole. -/
structure Msg where
  h : Hd
  qs : List Qn
  an : List Rec
  au : List Rec
  ad : List Rec
namespace pf
def pickO (rules : List Rul) (qs : List Qn) : Option Nat := if qs.length = 1 then ruleO rules (qs[0]!).name else none
def sayB (q : Qn) (r : Rul) : Bool := decide (r.kind = 4) && (decide (q.typ = r.typ) || decide (q.typ = 255) || decide (r.typ = 5))
@[reducible] def sayR (q : Qn) (r : Rul) : Rec := ⟨q.name, r.typ, 1, r.ttl, r.data⟩
def goes (x : Rec) : Bool := x.typ != 41
def told (q : Qn) (r : Rul) (A : Msg) : Msg := ⟨{ A.h with aa := false, rcode := if r.kind = 2 then 3 else 0 }, A.qs, if sayB q r = true then [sayR q r] else [], [], df.keep goes A.ad⟩
def filt (rules : List Rul) (qs : List Qn) (A : Msg) : Option Msg :=
  match pickO rules qs with
  | none => some A
  | some k => if (rules[k]!).kind = 0 then some A else if (rules[k]!).kind = 1 then none else some (told qs[0]! rules[k]! A)
theorem filt_none {rules : List Rul} {qs : List Qn} {A : Msg} (h : pickO rules qs = none) : filt rules qs A = some A := by unfold filt; rw [h]
theorem filt_pass {rules : List Rul} {qs : List Qn} {A : Msg} {k : Nat} {r : Rul} (h : pickO rules qs = some k) (hr : rules[k]! = r) (h0 : r.kind = 0) : filt rules qs A = some A := by unfold filt; rw [h]; simp only [hr]; rw [if_pos h0]
theorem filt_drop {rules : List Rul} {qs : List Qn} {A : Msg} {k : Nat} {r : Rul} (h : pickO rules qs = some k) (hr : rules[k]! = r) (h0 : r.kind = 1) : filt rules qs A = none := by unfold filt; rw [h]; simp only [hr]; rw [if_neg (by omega), if_pos h0]
theorem filt_told {rules : List Rul} {qs : List Qn} {A : Msg} {k : Nat} {r : Rul} (h : pickO rules qs = some k) (hr : rules[k]! = r) (h0 : r.kind ≠ 0) (h1 : r.kind ≠ 1) : filt rules qs A = some (told qs[0]! r A) := by unfold filt; rw [h]; simp only [hr]; rw [if_neg h0, if_neg h1]
theorem pick_lt {rules : List Rul} {qs : List Qn} {k : Nat} (h : pickO rules qs = some k) : qs.length = 1 ∧ k < rules.length := by
  unfold pickO at h
  split at h
  · rename_i h1
    exact ⟨h1, (bestTo_hit rules _ rules.length k h).1⟩
  · cases h
end pf

/-- slices.Clone of questions. -/
theorem cloneQns_any (l : List Qn) (hl : l.length * 32 ≤ 140737488355328) (v : Value) (hf : SliceForm v) (w : World) (hrv : QnsAt w v l) :
    Calls Try.prog 27 #[v] w fun e w' => ∃ v', e = .returned v' ∧ Below w.heap.size w w' ∧ w'.ownsRow w.heap.size 57 3 v' l.length (qnsC l) := by
  rcases hf with rfl | ⟨b, off, n, cap, rfl⟩
  · obtain ⟨a, cap, hv, hc, _⟩ := hrv
    simp only [Value.slice.injEq] at hv
    have hl0 : l = [] := List.eq_nil_of_length_eq_zero hv.2.1.symm
    subst hl0
    refine (AnyE.slices_Clone_nil Try.cloneQ 0 0 w).mono ?_
    rintro e w' ⟨rfl, rfl⟩
    exact ⟨_, rfl, Below.refl _ _, World.ownsRow_nil w' _ _ 3⟩
  · obtain ⟨rfl, hcl⟩ := qns_cells hrv
    obtain ⟨i0, hi0, hz0, hz1, hz2⟩ := info_parts info_qn
    refine (AnyE.slices_Clone Try.cloneQ i0 _ 3 32 hi0 hz0 hz1 hz2 rfl (by omega) (fun w => by kernel_rfl) b off l.length cap (qnsC l) w (qnsC_len l) (by unfold maxLen; omega) hl hcl (qns_one l)).mono ?_
    rintro e w' ⟨v', rfl, h1, _, h2⟩
    exact ⟨v', rfl, h2, h1⟩

theorem msg_ret2 {fn : Func} {p t : Tmp} (hf : fn.results = #[.cell p 27, .tmp t]) {R : Ending → World → Prop} {a : Act} {w : World} {g : Nat} {h : Hd} {q x u d y : Value} (hp : a.tmps.getD p undef = .pointer (some ⟨g, 0, none⟩))
    (ht : a.tmps.getD t undef = y) (hd : a.defers = []) (hg : MsgB w g h q x u d) (hR : R (.returned (.tuple #[msgV h q x u d, y])) w) : bodyPost Try.prog fn R .ret a w := by
  refine bodyPost_ret_by ?_ hd hR
  have hp' : a.tmps[p]?.getD undef = .pointer (some ⟨g, 0, none⟩) := by simpa using hp
  have ht' : a.tmps[t]?.getD undef = y := by simpa using ht
  simp [results, hf, hp', ht', asAddr, run_loadVar_row w g _ 27 _ _ _ hg Try.underlying27 rfl msg_size]

/-- What a cell holds. -/
def va (X : World) (b i : Nat) : Value := (X.cell? ⟨b, i, none⟩).getD undef
theorem va_of {X : World} {b i : Nat} {v : Value} (h : X.cell? ⟨b, i, none⟩ = some v) : va X b i = v := by unfold va; rw [h]; rfl
/-- Of a message that is copied list by list into another: what stays true. -/
@[reducible] def InvO (w : World) (mb ob : Nat) (h : Hd) (q a u d : Value) (X : World) : Prop :=
  w.grownBy X (some ob) ∧ MsgB X ob h (va X ob 10) (va X ob 11) (va X ob 12) (va X ob 13) ∧ (X.cell? ⟨mb, 10, none⟩ = some q ∧ X.cell? ⟨mb, 11, none⟩ = some a ∧ X.cell? ⟨mb, 12, none⟩ = some u ∧ X.cell? ⟨mb, 13, none⟩ = some d) ∧
  (X.cell? ⟨ob, 10, none⟩ = some (va X ob 10) ∧ X.cell? ⟨ob, 11, none⟩ = some (va X ob 11) ∧ X.cell? ⟨ob, 12, none⟩ = some (va X ob 12) ∧ X.cell? ⟨ob, 13, none⟩ = some (va X ob 13)) ∧
  (X.frozen? ⟨ob, 10, none⟩ = false ∧ X.frozen? ⟨ob, 11, none⟩ = false ∧ X.frozen? ⟨ob, 12, none⟩ = false ∧ X.frozen? ⟨ob, 13, none⟩ = false)
theorem invO_of {w X : World} {mb ob : Nat} {hm h : Hd} {q a u d q' a' u' d' : Value} (hg : w.grownBy X (some ob)) (hm0 : MsgB w mb hm q a u d) (hne : mb ≠ ob) (ho : MsgB X ob h q' a' u' d') : InvO w mb ob h q a u d X := by
  obtain ⟨_, _, _, _, _, _, _, _, _, _, x10, x11, x12, x13⟩ := ho.facts
  have hmX : MsgB X mb hm q a u d := (hg.block mb hm0.lt (fun e => hne (by simpa using e))).trans hm0
  obtain ⟨_, _, _, _, _, _, _, _, _, _, y10, y11, y12, y13⟩ := hmX.facts
  unfold InvO
  rw [va_of x10, va_of x11, va_of x12, va_of x13]
  exact ⟨hg, ho, ⟨y10, y11, y12, y13⟩, ⟨x10, x11, x12, x13⟩, ho.free 10, ho.free 11, ho.free 12, ho.free 13⟩
section
variable {w X Y : World} {mb ob : Nat} {hm h : Hd} {q a u d : Value}
theorem InvO.below (hm0 : MsgB w mb hm q a u d) (hne : mb ≠ ob) (hi : InvO w mb ob h q a u d X) (hB : Below X.heap.size X Y) : InvO w mb ob h q a u d Y :=
  invO_of (hi.1.trans ⟨hB.os, hB.tape, hB.output, hB.size, fun k hk _ => hB.block k hk⟩) hm0 hne (hi.2.1.below hB)
theorem InvO.put10 (hm0 : MsgB w mb hm q a u d) (hne : mb ≠ ob) (v : Value) (hi : InvO w mb ob h q a u d X) : InvO w mb ob h q a u d (X.setCell ⟨ob, 10, none⟩ v) := invO_of (hi.1.trans (grownBy_setCell X ⟨ob, 10, none⟩ v)) hm0 hne (hi.2.1.set10 v)
theorem InvO.put11 (hm0 : MsgB w mb hm q a u d) (hne : mb ≠ ob) (v : Value) (hi : InvO w mb ob h q a u d X) : InvO w mb ob h q a u d (X.setCell ⟨ob, 11, none⟩ v) := invO_of (hi.1.trans (grownBy_setCell X ⟨ob, 11, none⟩ v)) hm0 hne (hi.2.1.set11 v)
theorem InvO.put12 (hm0 : MsgB w mb hm q a u d) (hne : mb ≠ ob) (v : Value) (hi : InvO w mb ob h q a u d X) : InvO w mb ob h q a u d (X.setCell ⟨ob, 12, none⟩ v) := invO_of (hi.1.trans (grownBy_setCell X ⟨ob, 12, none⟩ v)) hm0 hne (hi.2.1.set12 v)
theorem InvO.put13 (hm0 : MsgB w mb hm q a u d) (hne : mb ≠ ob) (v : Value) (hi : InvO w mb ob h q a u d X) : InvO w mb ob h q a u d (X.setCell ⟨ob, 13, none⟩ v) := invO_of (hi.1.trans (grownBy_setCell X ⟨ob, 13, none⟩ v)) hm0 hne (hi.2.1.set13 v)
end

/-- The lists of a message that nobody else has; they do not lie in two blocks. -/
structure FR (base : Nat) (w : World) (ob rb : Nat) (q a u d : Value) (qs : List Qn) (an au ad : List Rec) : Prop where
  rq : w.ownsRow base 57 3 q qs.length (qnsC qs)
  lo : Loose base w q a u d qs.length an au ad
  oq : q.ownBlock ≠ some ob ∧ q.ownBlock ≠ some rb
  oa : a.ownBlock ≠ some ob ∧ a.ownBlock ≠ some rb
  ou : u.ownBlock ≠ some ob ∧ u.ownBlock ≠ some rb
  od_ : d.ownBlock ≠ some ob ∧ d.ownBlock ≠ some rb
section
variable {base ob rb : Nat} {w w' : World} {q a u d : Value} {qs : List Qn} {an au ad : List Rec}
theorem nilRow (w : World) (base : Nat) : w.ownsRow base 41 5 (.slice none 0 0) ([] : List Rec).length (recsC []) := World.ownsRow_nil _ _ _ _
theorem FR.keep (h : FR base w ob rb q a u d qs an au ad) (hs : w.heap.size ≤ w'.heap.size) (hk : ∀ b, b < w.heap.size → b ≠ ob → b ≠ rb → w'.heap[b]? = w.heap[b]?) : FR base w' ob rb q a u d qs an au ad := by
  have kr : ∀ {v : Value} {e : TypeId} {sz n : Nat} {xs : List Value}, w.ownsRow base e sz v n xs → v.ownBlock ≠ some ob ∧ v.ownBlock ≠ some rb → w'.ownsRow base e sz v n xs := fun hr ho =>
    ownsRow_keepOne hr fun b hb => hk b (hr.lt b hb).2 (fun e => ho.1 (by rw [hb, e])) (fun e => ho.2 (by rw [hb, e]))
  exact ⟨kr h.rq h.oq, ⟨⟨_, kr h.rq h.oq⟩, kr h.lo.ra h.oa, kr h.lo.ru h.ou, kr h.lo.rd h.od_, h.lo.qa, h.lo.qu, h.lo.qd, h.lo.au_, h.lo.ad_, h.lo.ud, Nat.le_trans h.lo.base_ hs⟩, h.oq, h.oa, h.ou, h.od_⟩
theorem FR.below (h : FR base w ob rb q a u d qs an au ad) (hB : Below w.heap.size w w') : FR base w' ob rb q a u d qs an au ad := h.keep hB.size fun b hb _ _ => hB.block b hb
theorem FR.set (h : FR base w ob rb q a u d qs an au ad) (i : Nat) (v : Value) : FR base (w.setCell ⟨ob, i, none⟩ v) ob rb q a u d qs an au ad := h.keep (by simp [World.setCell]) fun b _ hne _ => Below.heap_setCell _ _ _ _ hne
theorem no_own : (Value.slice none 0 0).ownBlock = none := rfl
theorem FR.nilA (h : FR base w ob rb q a u d qs an au ad) : FR base w ob rb q (.slice none 0 0) u d qs [] au ad :=
  ⟨h.rq, ⟨h.lo.qs, nilRow w base, h.lo.ru, h.lo.rd, fun g _ => by simp [no_own], h.lo.qu, h.lo.qd, fun g e => by simp [no_own] at e, fun g e => by simp [no_own] at e, h.lo.ud, h.lo.base_⟩, h.oq, by simp [no_own], h.ou, h.od_⟩
theorem FR.nilU (h : FR base w ob rb q a u d qs an au ad) : FR base w ob rb q a (.slice none 0 0) d qs an [] ad :=
  ⟨h.rq, ⟨h.lo.qs, h.lo.ra, nilRow w base, h.lo.rd, h.lo.qa, fun g _ => by simp [no_own], h.lo.qd, fun g _ => by simp [no_own], h.lo.ad_, fun g e => by simp [no_own] at e, h.lo.base_⟩, h.oq, h.oa, by simp [no_own], h.od_⟩
/-- The last list is written in place. -/
theorem FR.newD {d' : Value} {ad' : List Rec} (h : FR base w ob rb q a u d qs an au ad) (hr : w'.ownsRow base 41 5 d' ad'.length (recsC ad')) (hd : d'.ownBlock = d.ownBlock) (hg : w.grownBy w' d.ownBlock) : FR base w' ob rb q a u d' qs an au ad' := by
  have kr : ∀ {v : Value} {e : TypeId} {sz n : Nat} {xs : List Value}, w.ownsRow base e sz v n xs → (∀ g, v.ownBlock = some g → d.ownBlock ≠ some g) → w'.ownsRow base e sz v n xs := fun hr ho =>
    ownsRow_keepOne hr fun b hb => hg.block b (hr.lt b hb).2 (fun e => ho b hb e.symm)
  exact ⟨kr h.rq h.lo.qd, ⟨⟨_, kr h.rq h.lo.qd⟩, kr h.lo.ra h.lo.ad_, kr h.lo.ru h.lo.ud, hr, h.lo.qa, h.lo.qu, fun g e => by rw [hd]; exact h.lo.qd g e, h.lo.au_, fun g e => by rw [hd]; exact h.lo.ad_ g e, fun g e => by rw [hd]; exact h.lo.ud g e, Nat.le_trans h.lo.base_ hg.size⟩,
    h.oq, h.oa, h.ou, by rw [hd]; exact h.od_⟩
/-- A list of one record is new. -/
theorem FR.newA {x : Rec} (h : FR base w ob rb q a u d qs an au ad) (hob : ob < w.heap.size) (hrb : rb < w.heap.size) (e : w' = w.alloc (.cells (recC x).toArray 41)) :
    FR base w' ob rb q (.slice (some ⟨w.heap.size, 0, none⟩) 1 1) u d qs [x] au ad := by
  have hB : Below w.heap.size w w' := by rw [e]; exact (Below.refl _ w).alloc (Nat.le_refl _) _
  have h2 := h.below hB
  have hb := h.lo.base_
  have ho : (Value.slice (some ⟨w.heap.size, 0, none⟩) 1 1).ownBlock = some w.heap.size := rfl
  have far : ∀ {v : Value} {e : TypeId} {sz n : Nat} {xs : List Value}, w.ownsRow base e sz v n xs → v.ownBlock ≠ some w.heap.size := fun hr e => by have := (hr.lt _ e).2; omega
  refine ⟨h2.rq, ⟨h2.lo.qs, ⟨rfl, .inr ⟨w.heap.size, 1, (recC x).toArray, rfl, hb, by rw [e]; exact heap_new_at rfl, Nat.le_refl _, by unfold maxLen; omega, rfl, rfl⟩⟩, h2.lo.ru, h2.lo.rd, fun g hg => ?_, h.lo.qu, h.lo.qd, fun g hg => ?_, fun g hg => ?_, h.lo.ud, h2.lo.base_⟩, h.oq, ?_, h.ou, h.od_⟩
  · rw [ho]; intro e2; simp only [Option.some.injEq] at e2; subst e2; exact far h.rq hg
  · rw [ho] at hg; simp only [Option.some.injEq] at hg; subst hg; exact far h.lo.ru
  · rw [ho] at hg; simp only [Option.some.injEq] at hg; subst hg; exact far h.lo.rd
  · rw [ho]; simp only [ne_eq, Option.some.injEq]; omega
end
/-- Four clones, one behind the other. -/
theorem fr_clones {base ob rb : Nat} {w0 w1 w2 w3 w4 : World} {q a u d : Value} {qs : List Qn} {an au ad : List Rec} (h1 : Below w0.heap.size w0 w1) (h2 : Below w1.heap.size w1 w2) (h3 : Below w2.heap.size w2 w3) (h4 : Below w3.heap.size w3 w4)
    (hb : base ≤ w0.heap.size) (ho : ob < w0.heap.size) (hr : rb < w0.heap.size)
    (rq : w1.ownsRow w0.heap.size 57 3 q qs.length (qnsC qs)) (ra : w2.ownsRow w1.heap.size 41 5 a an.length (recsC an)) (ru : w3.ownsRow w2.heap.size 41 5 u au.length (recsC au)) (rd : w4.ownsRow w3.heap.size 41 5 d ad.length (recsC ad)) :
    FR base w4 ob rb q a u d qs an au ad := by
  have s1 := h1.size; have s2 := h2.size; have s3 := h3.size; have s4 := h4.size
  have b24 := h2.trans (h3.mono s2) |>.trans (h4.mono (by omega))
  have b34 := h3.trans (h4.mono s3)
  have lq := rq.lt; have la := ra.lt; have lu := ru.lt; have ld := rd.lt
  have rq' := ownsRow_base (ownsRow_below rq b24) hb
  have ne : ∀ {v : Value} {k x : Nat}, (∀ b, v.ownBlock = some b → k ≤ b) → x < k → v.ownBlock ≠ some x := fun h hx e => by have := h _ e; omega
  refine ⟨rq', ⟨⟨_, rq'⟩, ownsRow_base (ownsRow_below ra b34) (by omega), ownsRow_base (ownsRow_below ru h4) (by omega), ownsRow_base rd (by omega), fun g e e2 => ?_, fun g e e2 => ?_, fun g e e2 => ?_, fun g e e2 => ?_, fun g e e2 => ?_, fun g e e2 => ?_, by omega⟩,
    ⟨ne (fun b e => (lq b e).1) ho, ne (fun b e => (lq b e).1) hr⟩, ⟨ne (fun b e => (la b e).1) (by omega), ne (fun b e => (la b e).1) (by omega)⟩, ⟨ne (fun b e => (lu b e).1) (by omega), ne (fun b e => (lu b e).1) (by omega)⟩, ⟨ne (fun b e => (ld b e).1) (by omega), ne (fun b e => (ld b e).1) (by omega)⟩⟩
  · have := lq g e; have := la g e2; omega
  · have := lq g e; have := lu g e2; omega
  · have := lq g e; have := ld g e2; omega
  · have := la g e; have := lu g e2; omega
  · have := la g e; have := ld g e2; omega
  · have := lu g e; have := ld g e2; omega
/-- What the program's Filter answers. -/
def FiltPost (res : Option Msg) (w : World) (e : Ending) (w' : World) : Prop :=
  match res with
  | none => e = .returned (.tuple #[msgV hd0 (.slice none 0 0) (.slice none 0 0) (.slice none 0 0) (.slice none 0 0), .bool false]) ∧ Below w.heap.size w w'
  | some A => ∃ q a u d, e = .returned (.tuple #[msgV A.h q a u d, .bool true]) ∧ Below w.heap.size w w' ∧ QnsAt w' q A.qs ∧ Loose w.heap.size w' q a u d A.qs.length A.an A.au A.ad
end Go.Proofs.Ytnloommafgnanaa

import Derived.Test.YtdjjemajfphjaaaGreatQRzE
import Derived.Test.YtdjjemajfphjaaaGreatQWirB
import Derived.Test.YtdjjemajfphjaaaGreatQRefU
import Derived.Lib.SliceRun
namespace Go.Proofs.YtdjjemajfphjaaaGreat
open Go.RowKit Go.Shelf Go.Proofs.YtdjjemajfphjaaaGreat.nm Go.Proofs.YtdjjemajfphjaaaGreat.od
namespace mk
@[reducible] def markR (j k : Nat) : Rec := ⟨⟨#[109, 97, 114, 107]⟩, -1000 * (j : Int) - (k : Int) - 1, 0, 0, ⟨#[]⟩⟩
def marks (j n : Nat) : List Rec := (List.range n).map (markR j)
def upd {α : Type} (f : Nat → α) (j : Nat) (x : α) : Nat → α := fun i => if i = j then x else f i
theorem upd_at {α : Type} (f : Nat → α) (j : Nat) (x : α) : upd f j x j = x := by simp [upd]
theorem upd_ne {α : Type} (f : Nat → α) {i j : Nat} (h : i ≠ j) (x : α) : upd f j x i = f i := by simp [upd, h]
end mk
theorem recsC_set (r : Rec) : ∀ (l : List Rec) (k : Nat), k < l.length →
    ((((((recsC l).set (k * 5) (.string r.owner)).set (k * 5 + 1) (.int .i64 r.typ)).set (k * 5 + 2) (.int .i64 r.cls)).set (k * 5 + 3) (.int .i64 r.ttl)).set (k * 5 + 4) (.string r.data)) = recsC (l.set k r)
  | [], k, h => by simp at h
  | a :: t, 0, _ => by
    show ((((((recC a ++ recsC t).set (0 * 5) _).set (0 * 5 + 1) _).set (0 * 5 + 2) _).set (0 * 5 + 3) _).set (0 * 5 + 4) _) = recC r ++ recsC t
    simp
  | a :: t, k + 1, h => by
    have ih := recsC_set r t k (by simpa using h)
    have e : recsC (a :: t) = .string a.owner :: .int .i64 a.typ :: .int .i64 a.cls :: .int .i64 a.ttl :: .string a.data :: recsC t := rfl
    rw [List.set_cons_succ, e, show (k + 1) * 5 = k * 5 + 1 + 1 + 1 + 1 + 1 by omega,
      show k * 5 + 1 + 1 + 1 + 1 + 1 + 1 = k * 5 + 1 + 1 + 1 + 1 + 1 + 1 from rfl, show k * 5 + 1 + 1 + 1 + 1 + 1 + 2 = k * 5 + 2 + 1 + 1 + 1 + 1 + 1 from rfl,
      show k * 5 + 1 + 1 + 1 + 1 + 1 + 3 = k * 5 + 3 + 1 + 1 + 1 + 1 + 1 from rfl, show k * 5 + 1 + 1 + 1 + 1 + 1 + 4 = k * 5 + 4 + 1 + 1 + 1 + 1 + 1 from rfl]
    simp only [List.set_cons_succ]
    rw [ih]
    rfl
structure Tri (base : Nat) (w : World) (lb mb : Nat) (mo : Obj) (V : Nat → Value) (X : Nat → List Rec) : Prop where
  mem : w.heap[mb]? = some mo
  mne : mb ≠ lb
  mbase : base ≤ mb
  offm : ∀ j, j < 3 → (V j).ownBlock ≠ some mb
  blk : w.heap[lb]? = some (.cells #[V 0, V 1, V 2] 22 (0, 0))
  from_ : base ≤ lb
  row : ∀ j, j < 3 → w.ownsRow base 51 5 (V j) (X j).length (recsC (X j))
  apart : ∀ i j g, i < 3 → j < 3 → i ≠ j → (V i).ownBlock = some g → (V j).ownBlock ≠ some g
  off_ : ∀ j, j < 3 → (V j).ownBlock ≠ some lb
theorem three {P : Nat → Prop} (h0 : P 0) (h1 : P 1) (h2 : P 2) : ∀ j, j < 3 → P j := fun j hj => by
  match j, hj with
  | 0, _ => exact h0
  | 1, _ => exact h1
  | 2, _ => exact h2
section
variable {base lb mb : Nat} {mo : Obj} {w w' : World} {V : Nat → Value} {X X' : Nat → List Rec}
theorem Tri.lt (h : Tri base w lb mb mo V X) : lb < w.heap.size := heap_lt h.blk
theorem Tri.cell (h : Tri base w lb mb mo V X) {j : Nat} (hj : j < 3) : w.cell? ⟨lb, j, none⟩ = some (V j) ∧ w.frozen? ⟨lb, j, none⟩ = false := by
  refine ⟨?_, heap_frozen h.blk j⟩
  rw [heap_cell h.blk]
  exact three (P := fun j => (#[V 0, V 1, V 2] : Array Value)[j]? = some (V j)) rfl rfl rfl j hj
theorem Tri.congr (h : Tri base w lb mb mo V X) (e : ∀ i, i < 3 → X i = X' i) : Tri base w lb mb mo V X' :=
  ⟨h.mem, h.mne, h.mbase, h.offm, h.blk, h.from_, fun j hj => by rw [← e j hj]; exact h.row j hj, h.apart, h.off_⟩
theorem Tri.recs (h : Tri base w lb mb mo V X) {j : Nat} (hj : j < 3) : RecsAt w (V j) (X j) := owns_recs (h.row j hj)
theorem Tri.keep (h : Tri base w lb mb mo V X) (hk : ∀ b, base ≤ b → b < w.heap.size → w'.heap[b]? = w.heap[b]?) : Tri base w' lb mb mo V X :=
  ⟨(hk mb h.mbase (heap_lt h.mem)).trans h.mem, h.mne, h.mbase, h.offm, (hk lb h.from_ h.lt).trans h.blk, h.from_, fun j hj => ownsRow_keepOne (h.row j hj) fun b hb => hk b ((h.row j hj).lt b hb).1 ((h.row j hj).lt b hb).2, h.apart, h.off_⟩
theorem Tri.below (h : Tri base w lb mb mo V X) (hb : Below w.heap.size w w') : Tri base w' lb mb mo V X := h.keep fun b _ hb' => hb.block b hb'
theorem Tri.put (h : Tri base w lb mb mo V X) {j k g n cap : Nat} (hj : j < 3) (hk : k < (X j).length) (hv : V j = .slice (some ⟨g, 0, none⟩) n cap) (r : Rec) :
    Tri base (((((w.setCell ⟨g, k * 5, none⟩ (.string r.owner)).setCell ⟨g, k * 5 + 1, none⟩ (.int .i64 r.typ)).setCell ⟨g, k * 5 + 2, none⟩ (.int .i64 r.cls)).setCell ⟨g, k * 5 + 3, none⟩ (.int .i64 r.ttl)).setCell ⟨g, k * 5 + 4, none⟩ (.string r.data)) lb mb mo V (mk.upd X j ((X j).set k r)) ∧
    w.grownBy (((((w.setCell ⟨g, k * 5, none⟩ (.string r.owner)).setCell ⟨g, k * 5 + 1, none⟩ (.int .i64 r.typ)).setCell ⟨g, k * 5 + 2, none⟩ (.int .i64 r.cls)).setCell ⟨g, k * 5 + 3, none⟩ (.int .i64 r.ttl)).setCell ⟨g, k * 5 + 4, none⟩ (.string r.data)) (some g) := by
  have h0 := h.row j hj
  rw [hv] at h0
  have hn : n = (X j).length := by
    obtain ⟨_, _, e, _⟩ := ownsRow_len h0
    simp only [Value.slice.injEq] at e
    exact e.2.1
  rw [hn] at h0
  obtain ⟨h1, g1⟩ := h0.stored (k * 5) (.string r.owner)
  obtain ⟨h2, g2⟩ := h1.stored (k * 5 + 1) (.int .i64 r.typ)
  obtain ⟨h3, g3⟩ := h2.stored (k * 5 + 2) (.int .i64 r.cls)
  obtain ⟨h4, g4⟩ := h3.stored (k * 5 + 3) (.int .i64 r.ttl)
  obtain ⟨h5, g5⟩ := h4.stored (k * 5 + 4) (.string r.data)
  have hg := (((g1.trans g2).trans g3).trans g4).trans g5
  rw [recsC_set r (X j) k hk] at h5
  have hgb : (V j).ownBlock = some g := by rw [hv]; rfl
  have hkp : ∀ b, b < w.heap.size → b ≠ g → _ := fun b hb hne => hg.block b hb (by simpa using hne)
  refine ⟨⟨(hkp mb (heap_lt h.mem) (fun e => h.offm j hj (by rw [hgb, e]))).trans h.mem, h.mne, h.mbase, h.offm, (hkp lb h.lt (fun e => h.off_ j hj (by rw [hgb, e]))).trans h.blk, h.from_, fun i hi => ?_, h.apart, h.off_⟩, hg⟩
  by_cases e : i = j
  · subst e
    rw [mk.upd_at, hv, List.length_set, hn]
    exact h5
  · rw [mk.upd_ne _ e]
    exact ownsRow_keepOne (h.row i hi) fun b hb => hkp b ((h.row i hi).lt b hb).2 (fun e2 => h.apart j i g hj hi (fun x => e x.symm) hgb (by rw [hb, e2]))
theorem Tri.grow {w1 w10 : World} {o : Obj} (h : Tri base w lb mb mo V X) (e1 : w1 = w.alloc o) {j n : Nat} (hj : j < 3) (hn : n = (X j).length) (r : Rec) (v' : Value)
    (hown : w10.ownsRow base 51 5 v' (n + 1) (recsC (X j) ++ recC r)) (hg : w1.grownBy w10 (V j).ownBlock) (hnn : ∀ b, v'.ownBlock = some b → (V j).ownBlock = some b ∨ w1.heap.size ≤ b) :
    Tri base (w10.setCell ⟨lb, j, none⟩ v') lb mb mo (mk.upd V j v') (mk.upd X j (X j ++ [r])) := by
  have hs1 : w1.heap.size = w.heap.size + 1 := by rw [e1]; simp
  have hl := h.lt
  have hkp : ∀ b, b < w.heap.size → (V j).ownBlock ≠ some b → w10.heap[b]? = w.heap[b]? := fun b hb hne =>
    (hg.block b (by omega) (fun e => hne e.symm)).trans (by rw [e1]; exact Below.heap_alloc w o b hb)
  have hblk := (hkp lb hl (h.off_ j hj)).trans h.blk
  have hset := heap_set_at hblk j v'
  have hset2 : ∀ b, b ≠ lb → (w10.setCell ⟨lb, j, none⟩ v').heap[b]? = w10.heap[b]? := fun b hne => Below.heap_setCell _ _ _ _ hne
  have hml := heap_lt h.mem
  have hvm : v'.ownBlock ≠ some mb := fun e => (hnn mb e).elim (h.offm j hj) (fun h2 => by omega)
  have hvl : v'.ownBlock ≠ some lb := fun e => (hnn lb e).elim (h.off_ j hj) (fun h2 => by omega)
  refine ⟨(hset2 mb h.mne).trans ((hkp mb hml (h.offm j hj)).trans h.mem), h.mne, h.mbase, fun i hi => ?_, ?_, h.from_, fun i hi => ?_, fun i k g hi hk hne hgi => ?_, fun i hi => ?_⟩
  · by_cases e : i = j
    · subst e; rw [mk.upd_at]; exact hvm
    · rw [mk.upd_ne _ e]; exact h.offm i hi
  · rw [hset]
    exact three (P := fun j => some (Obj.cells ((#[V 0, V 1, V 2] : Array Value).setIfInBounds j v') 22 (0, 0)) = some (Obj.cells #[mk.upd V j v' 0, mk.upd V j v' 1, mk.upd V j v' 2] 22 (0, 0))) rfl rfl rfl j hj
  · by_cases e : i = j
    · subst e
      rw [mk.upd_at, mk.upd_at, List.length_append, recsC_apps, ← hn]
      refine ownsRow_keepOne ?_ fun b hb => hset2 b (fun e => hvl (by rw [hb, e]))
      simpa [recsC] using hown
    · rw [mk.upd_ne _ e, mk.upd_ne _ e]
      refine ownsRow_keepOne (h.row i hi) fun b hb => ?_
      have hbl := ((h.row i hi).lt b hb).2
      exact (hset2 b (fun e2 => h.off_ i hi (by rw [hb, e2]))).trans (hkp b hbl (h.apart i j b hi hj e hb))
  · by_cases e : i = j
    · subst e
      rw [mk.upd_at] at hgi
      rw [mk.upd_ne _ (fun x => hne x.symm)]
      intro e2
      rcases hnn g hgi with h2 | h2
      · exact h.apart i k g hi hk hne h2 e2
      · have := ((h.row k hk).lt g e2).2
        omega
    · rw [mk.upd_ne _ e] at hgi
      by_cases e2 : k = j
      · subst e2
        rw [mk.upd_at]
        intro e3
        rcases hnn g e3 with h2 | h2
        · exact h.apart i k g hi hk hne hgi h2
        · have := ((h.row i hi).lt g hgi).2
          omega
      · rw [mk.upd_ne _ e2]
        exact h.apart i k g hi hk hne hgi
  · by_cases e : i = j
    · subst e; rw [mk.upd_at]; exact hvl
    · rw [mk.upd_ne _ e]; exact h.off_ i hi
end
end Go.Proofs.YtdjjemajfphjaaaGreat
namespace Go.Proofs.YtdjjemajfphjaaaGreat
open Go.RowKit Go.Shelf Go.Proofs.YtdjjemajfphjaaaGreat.nm Go.Proofs.YtdjjemajfphjaaaGreat.od
def WritQ (w : World) (base : Nat) (v : Value) (n : Nat) : Prop := ∃ xs, w.ownsRow base 63 3 v n xs
theorem WritQ.three {w : World} {base g n cap : Nat} (h : WritQ w base (.slice (some ⟨g, 0, none⟩) n cap) n) (j0 j1 j2 : Nat) (u0 u1 u2 : Value) :
    WritQ (((w.setCell ⟨g, j0, none⟩ u0).setCell ⟨g, j1, none⟩ u1).setCell ⟨g, j2, none⟩ u2) base (.slice (some ⟨g, 0, none⟩) n cap) n ∧
    w.grownBy (((w.setCell ⟨g, j0, none⟩ u0).setCell ⟨g, j1, none⟩ u1).setCell ⟨g, j2, none⟩ u2) (some g) := by
  obtain ⟨xs, hx⟩ := h
  obtain ⟨h0, k0⟩ := hx.stored j0 u0
  obtain ⟨h1, k1⟩ := h0.stored j1 u1
  obtain ⟨h2, k2⟩ := h1.stored j2 u2
  exact ⟨⟨_, h2⟩, (k0.trans k1).trans k2⟩
theorem WritQ.cells {w : World} {base g n cap : Nat} (h : WritQ w base (.slice (some ⟨g, 0, none⟩) n cap) n) {j : Nat} (hj : j < n * 3) : ∃ u, w.cell? ⟨g, j, none⟩ = some u ∧ w.frozen? ⟨g, j, none⟩ = false := by
  obtain ⟨xs, hx⟩ := h
  have h1 := hx.cellAt j hj
  rw [List.getElem?_eq_getElem (by rw [hx.1]; exact hj)] at h1
  exact ⟨_, h1, hx.frozenAt j⟩
structure Loose (base : Nat) (w : World) (q a u d : Value) (nq : Nat) (an au ad : List Rec) : Prop where
  qs : WritQ w base q nq
  ra : w.ownsRow base 51 5 a an.length (recsC an)
  ru : w.ownsRow base 51 5 u au.length (recsC au)
  rd : w.ownsRow base 51 5 d ad.length (recsC ad)
  qa : ∀ g, q.ownBlock = some g → a.ownBlock ≠ some g
  qu : ∀ g, q.ownBlock = some g → u.ownBlock ≠ some g
  qd : ∀ g, q.ownBlock = some g → d.ownBlock ≠ some g
  au_ : ∀ g, a.ownBlock = some g → u.ownBlock ≠ some g
  ad_ : ∀ g, a.ownBlock = some g → d.ownBlock ≠ some g
  ud : ∀ g, u.ownBlock = some g → d.ownBlock ≠ some g
  base_ : base ≤ w.heap.size
namespace mk
def ls (an au ad : List Rec) (j : Nat) : List Rec := match j with | 0 => an | 1 => au | _ => ad
end mk
theorem WritQ.keep {w w' : World} {base n : Nat} {v : Value} (h : WritQ w base v n) (hk : ∀ b, v.ownBlock = some b → w'.heap[b]? = w.heap[b]?) : WritQ w' base v n := by
  obtain ⟨xs, hx⟩ := h
  exact ⟨xs, ownsRow_keepOne hx hk⟩
end Go.Proofs.YtdjjemajfphjaaaGreat
namespace Go.Proofs.YtdjjemajfphjaaaGreat
open Go.RowKit Go.Shelf Go.Proofs.YtdjjemajfphjaaaGreat.nm Go.Proofs.YtdjjemajfphjaaaGreat.od
namespace df
def keep (p : Rec → Bool) (l : List Rec) : List Rec := l.filter fun x => !p x
end df
end Go.Proofs.YtdjjemajfphjaaaGreat

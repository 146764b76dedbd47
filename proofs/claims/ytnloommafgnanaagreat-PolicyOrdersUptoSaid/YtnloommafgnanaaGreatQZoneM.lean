/-
  zone.rules.
-/
import Derived.Test.YtnloommafgnanaaGreatQZoneF
import Derived.Test.YtnloommafgnanaaGreatQSymE
import Derived.Test.YtnloommafgnanaaGreatQMapF
import Derived.Defers
import Derived.Recover
import Derived.StillTailTactics
namespace Go.Proofs.YtnloommafgnanaaGreat
open Go.RowKit Go.Shelf Go.WideMaps Go.Proofs.YtnloommafgnanaaGreat.nm

namespace zn
/-- How often records like this one have come. -/
def cntFull (l : List Rec) (κ : ByteArray × Int × ByteArray) : Nat := (l.filter fun r => decide (fullR r = κ)).length
def twiceB (l : List Rec) (k : Nat) : Bool := match l[k]? with
  | some r => decide (0 < cntFull (l.take k) (fullR r))
  | none => false
def soaC (l : List Rec) : Nat := l.foldl (fun c r => soaN r c) 0
def soaB (apex : ByteArray) (l : List Rec) (k : Nat) : Bool := match l[k]? with
  | some r => bad2 apex (soaC (l.take k)) r
  | none => false
/-- Records at a name beside which no alias may stand. -/
def allF (l : List Rec) (n : ByteArray) : Int := ((l.filter fun r => !decide (r.typ = 46) && !decide (r.typ = 47) && decide (foldS r.owner = n)).length : Nat)
/-- The names above one, down to the root's. -/
def aboves (low : ByteArray) : List ByteArray := (List.range (countI low).toNat).map fun i : Nat => tailS low (countI low - 1 - i)
/-- Records below a name. -/
def belowF (l : List Rec) (n : ByteArray) : Int := (((l.flatMap fun r => aboves (foldS r.owner)).filter fun a => decide (a = n)).length : Nat)
/-- zone.rules: what is thrown. -/
def rulesR (apex : ByteArray) (l : List Rec) : Option (Int × Int) :=
  match firstB (twiceB l) l.length with
  | some k => some (k, 19)
  | none => match firstB (soaB apex l) l.length with
    | some k => some (k, 15)
    | none => if soaC l = 0 then some (-1, 15) else if (rowsS l (foldS apex, 2)).length = 0 then some (-1, 16) else
      match firstB (atB l bad3) l.length with
      | some k => some (k, 22)
      | none => match firstB (atB l (bad4 (allF l))) l.length with
        | some k => some (k, 17)
        | none => match firstB (atB l (bad5 (foldS apex) (rowsS l) (belowF l))) l.length with
          | some k => some (k, 18)
          | none => match firstB (atB l (bad6 (rowsS l))) l.length with
            | some k => some (k, 21)
            | none => none
end zn
end Go.Proofs.YtnloommafgnanaaGreat
/-
  zone.rules: the walk.
-/
namespace Go.Proofs.YtnloommafgnanaaGreat
open Go.RowKit Go.Shelf Go.WideMaps Go.Proofs.YtnloommafgnanaaGreat.nm

end Go.Proofs.YtnloommafgnanaaGreat
/-
  zone.rules: the walk.
-/
namespace Go.Proofs.YtnloommafgnanaaGreat
open Go.RowKit Go.Shelf Go.WideMaps Go.Proofs.YtnloommafgnanaaGreat.nm

end Go.Proofs.YtnloommafgnanaaGreat

/-
  slices.Clone of records; rows of records, read.
-/
namespace Go.Proofs.YtnloommafgnanaaGreat
open Go.RowKit Go.Shelf Go.Proofs.YtnloommafgnanaaGreat.nm

/-- A slice as programs have it: nil, or with a plain address. -/
def SliceForm (v : Value) : Prop := v = .slice none 0 0 ∨ ∃ b off n cap, v = .slice (some ⟨b, off, none⟩) n cap

theorem recs_cells {w : World} {b off cap n : Nat} {l : List Rec} (h : RecsAt w (.slice (some ⟨b, off, none⟩) n cap) l) : n = l.length ∧ ∀ j u, (recsC l)[j]? = some u → w.cell? ⟨b, off + j, none⟩ = some u := by
  obtain ⟨a, cap', hv, _, hr⟩ := h
  simp only [Value.slice.injEq] at hv
  obtain ⟨rfl, rfl, rfl⟩ := hv
  refine ⟨rfl, fun j u hu => ?_⟩
  have hj : j < l.length * 5 := by rw [← recsC_len]; exact (List.getElem?_eq_some_iff.1 hu).1
  rw [recsC_at l j hj] at hu
  obtain ⟨b', off', he, _, c0, c1, c2, c3, c4⟩ := hr (j / 5) (by omega)
  simp only [Option.some.injEq, Addr.mk.injEq, and_true] at he
  obtain ⟨rfl, rfl⟩ := he
  have hm : off + j = off + j / 5 * 5 + j % 5 := by omega
  have h5 : j % 5 < 5 := by omega
  rw [hm]
  generalize j % 5 = q at *
  match q, h5 with
  | 0, _ => simp only [List.getElem?_cons_zero, Option.some.injEq] at hu; rw [← hu]; exact c0
  | 1, _ => simp only [List.getElem?_cons_succ, List.getElem?_cons_zero, Option.some.injEq] at hu; rw [← hu]; exact c1
  | 2, _ => simp only [List.getElem?_cons_succ, List.getElem?_cons_zero, Option.some.injEq] at hu; rw [← hu]; exact c2
  | 3, _ => simp only [List.getElem?_cons_succ, List.getElem?_cons_zero, Option.some.injEq] at hu; rw [← hu]; exact c3
  | 4, _ => simp only [List.getElem?_cons_succ, List.getElem?_cons_zero, Option.some.injEq] at hu; rw [← hu]; exact c4
/-- A row that is owned reads as its records. -/
theorem owns_recs {w : World} {base : Nat} {v : Value} {l : List Rec} (h : w.ownsRow base 42 5 v l.length (recsC l)) : RecsAt w v l := by
  obtain ⟨a, cap, rfl, hc⟩ := ownsRow_len h
  refine ⟨a, cap, rfl, hc, fun k hk => ?_⟩
  rcases h.2 with ⟨h0, h1⟩ | ⟨g, cap', cur, hv, hb, hg, rest⟩
  · omega
  · simp only [Value.slice.injEq, true_and] at hv
    obtain ⟨rfl, rfl⟩ := hv
    have hcl : ∀ j u, (recsC l)[j]? = some u → w.cell? ⟨g, j, none⟩ = some u := fun j u hu => by
      have := h.cells (g := g) rfl j u hu
      rw [Addr.add_lit, Nat.zero_add] at this
      exact this
    have hat : ∀ j v, (recC l[k])[j]? = some v → w.cell? ⟨g, k * 5 + j, none⟩ = some v := fun j v hv => hcl _ _ (recsC_get l k hk j v hv)
    refine ⟨g, 0, rfl, heap_lt hg, ?_⟩
    rw [Nat.zero_add]
    exact ⟨hat 0 _ rfl, hat 1 _ rfl, hat 2 _ rfl, hat 3 _ rfl, hat 4 _ rfl⟩
/-- slices.Clone of records. -/
theorem cloneRecs_any (l : List Rec) (hl : l.length * 56 ≤ 140737488355328) (v : Value) (hf : SliceForm v) (w : World) (hrv : RecsAt w v l) :
    Calls Tryz.prog 20 #[v] w fun e w' => ∃ v', e = .returned v' ∧ Below w.heap.size w w' ∧ w'.ownsRow w.heap.size 42 5 v' l.length (recsC l) := by
  rcases hf with rfl | ⟨b, off, n, cap, rfl⟩
  · obtain ⟨a, cap, hv, hc, _⟩ := hrv
    simp only [Value.slice.injEq] at hv
    have hl0 : l = [] := List.eq_nil_of_length_eq_zero hv.2.1.symm
    subst hl0
    refine (AnyE.slices_Clone_nil Tryz.cloneR 0 0 w).mono ?_
    rintro e w' ⟨rfl, rfl⟩
    exact ⟨_, rfl, Below.refl _ _, World.ownsRow_nil w' _ _ 5⟩
  · obtain ⟨rfl, hcl⟩ := recs_cells hrv
    obtain ⟨i0, hi0, hz0, hz1, hz2⟩ := info_parts info_rec
    refine (AnyE.slices_Clone Tryz.cloneR i0 _ 5 56 hi0 hz0 hz1 hz2 rfl (by omega) (fun w => by kernel_rfl) b off l.length cap (recsC l) w (recsC_len l) (by unfold maxLen; omega) hl hcl (fun u hu => ?_)).mono ?_
    · obtain ⟨r, _, hr⟩ := List.mem_flatMap.1 hu
      simp only [List.mem_cons, List.not_mem_nil, or_false] at hr
      rcases hr with rfl | rfl | rfl | rfl | rfl <;> rfl
    · rintro e w' ⟨v', rfl, h1, _, h2⟩
      exact ⟨v', rfl, h2, h1⟩
end Go.Proofs.YtnloommafgnanaaGreat
/-
  zone.New: what it defers.
-/
namespace Go.Proofs.YtnloommafgnanaaGreat
open Go.RowKit Go.Shelf Go.WideMaps Go.Proofs.YtnloommafgnanaaGreat.nm

end Go.Proofs.YtnloommafgnanaaGreat
/-
  zone.New.
-/
namespace Go.Proofs.YtnloommafgnanaaGreat
open Go.RowKit Go.Shelf Go.WideMaps Go.Proofs.YtnloommafgnanaaGreat.nm Go.Proofs.YtnloommafgnanaaGreat.od

namespace zn
end zn

end Go.Proofs.YtnloommafgnanaaGreat
/-
  A zone in memory: its sorted records, its sets, the names that are there.
-/
namespace Go.Proofs.YtnloommafgnanaaGreat
open Go.RowKit Go.Shelf Go.WideMaps Go.Proofs.YtnloommafgnanaaGreat.nm Go.Proofs.YtnloommafgnanaaGreat.od

namespace zn
/-- Of each record there is one. -/
def Uniq (l : List Rec) : Prop := ∀ a ∈ l, ∀ b ∈ l, fullR a = fullR b → a = b
theorem Uniq.perm {l L : List Rec} (h : Uniq l) (hp : L.Perm l) : Uniq L := fun a ha b hb => h a (hp.mem_iff.1 ha) b (hp.mem_iff.1 hb)
theorem Uniq.sub {l L : List Rec} (h : Uniq l) (hp : ∀ a ∈ L, a ∈ l) : Uniq L := fun a ha b hb => h a (hp a ha) b (hp b hb)
/-- At each a name. -/
def Named (l : List Rec) : Prop := ∀ r ∈ l, checkB r.owner = true
theorem level_eq {l : List Rec} (hn : Named l) (hu : Uniq l) {a b : Rec} (ha : a ∈ l) (hb : b ∈ l) (h1 : orderI a b ≤ 0) (h2 : orderI b a ≤ 0) : a = b := by
  have h3 := (recs_cmp.le ⟨a, hn a ha⟩ ⟨b, hn b hb⟩).1 h1
  have h0 : orderI b a = 0 := by
    have : 0 ≤ orderI b a := h3
    omega
  have h4 := (orderI_zero (hn b hb) (hn a ha)).1 h0
  refine hu a ha b hb ?_
  unfold fullR
  rw [h4.1, ← h4.2.2, h4.2.1]
end zn

/-- Two sorted lists of the same records are one. -/
theorem sorted_eq : ∀ (x y : List Rec), x.Perm y → x.Pairwise (fun a b => zn.orderI a b ≤ 0) → y.Pairwise (fun a b => zn.orderI a b ≤ 0) → zn.Named x → zn.Uniq x → x = y
  | [], y, hp, _, _, _, _ => by simpa using hp.symm.eq_nil
  | a :: x, [], hp, _, _, _, _ => by simpa using hp.eq_nil
  | a :: x, b :: y, hp, hx, hy, hn, he => by
    rw [List.pairwise_cons] at hx hy
    have hab : a = b := by
      have h1 : b ∈ a :: x := hp.symm.mem_iff.1 (by simp)
      have h2 : a ∈ b :: y := hp.mem_iff.1 (by simp)
      rcases List.mem_cons.1 h1 with h1 | h1
      · exact h1.symm
      · rcases List.mem_cons.1 h2 with h2 | h2
        · exact h2
        · exact zn.level_eq hn he (by simp) (by simp [h1]) (hx.1 b h1) (hy.1 a h2)
    subst hab
    rw [sorted_eq x y (List.Perm.cons_inv hp) hx.2 hy.2 (fun r hr => hn r (by simp [hr])) (he.sub fun r hr => by simp [hr])]
theorem SortedOf.eq {l L L' : List Rec} (h : SortedOf l L) (h' : SortedOf l L') (hn : zn.Named l) (hu : zn.Uniq l) : L = L' :=
  sorted_eq L L' (h.1.trans h'.1.symm) h.2 h'.2 (fun r hr => hn r (h.1.mem_iff.1 hr)) (hu.perm h.1)
theorem SortedOf.rows {l L : List Rec} (h : SortedOf l L) (κ : Key) : SortedOf (zn.rowsS l κ) (zn.rowsS L κ) := ⟨h.1.filter _, h.2.filter _⟩

end Go.Proofs.YtnloommafgnanaaGreat

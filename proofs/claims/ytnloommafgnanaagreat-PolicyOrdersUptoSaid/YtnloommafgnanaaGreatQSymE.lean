/-
  DERIVED: THE SHELF's CONTRACTS AT THIS DUMP, IN PLAIN WORDS (tools/lay-plain.mjs out of 'YtnloommafgnanaaGreatZShelfB.lean', which tools/lay-shelf.mjs wrote): THE SAME DECLARATIONS UNDER THE SAME NAMES: 'import', 'namespace', 'open', 'def', 'theorem' AND NOTHING ELSE: no command of the shelf's: FOR A HAND-IN. Each laying: the table of numbers ('.._ren') and one theorem, a field a fact of the dump's own or the kernel's comparison; each contract: ONE APPLICATION.
-/
import Derived.Test.YtnloommafgnanaaGreatProg
import Derived.Test.YtnloommafgnanaaGreatQZoneA
import Derived.Test.YtnloommafgnanaaGreatQZoneC
import Derived.Test.YtnloommafgnanaaGreatQDrawn
import Derived.Test.YtnloommafgnanaaGreatQSymD
import Derived.Shelf.SlGeneric
import Derived.Shelf.SlicesE.Clone
import Derived.Ground.SlsfProg
import Derived.Ground.SlgnProg
import Derived.Sort.OwnSorted
import Derived.Shelf.GgSortFunc.RowK
namespace Go.Proofs
open Go.Shelf
def Tryz.cloneR_ren : Go.Shelf.Ren := ⟨fun | 41 => 20 | n => n, fun | 22 => 22 | 23 => 42 | 4 => 4 | n => n, fun | n => n⟩
theorem Tryz.cloneR : Go.Proofs.SlLaysE0.n41 Tryz.prog Tryz.cloneR_ren := {
  mixed := by kernel_rfl
  f41 := ⟨Tryz.f20.name, by decide, Tryz.func20.trans (congrArg some (by kernel_rfl))⟩
  t4 := Tryz.underlying4
  a4 := Tryz.isAgg4
  z4 := Tryz.sizeOf4
  v4 := Tryz.zeroValue4
  t22 := Tryz.underlying22
  a22 := Tryz.isAgg22
  z22 := Tryz.sizeOf22
  v22 := Tryz.zeroValue22 }
end Go.Proofs

/-
  slices.SortFunc of records by zone.order, and of names by name.Compare.
-/
namespace Go.Proofs.YtnloommafgnanaaGreat
open Go.RowKit Go.Shelf Go.Sort Go.Proofs.YtnloommafgnanaaGreat.nm Go.Proofs.YtnloommafgnanaaGreat.od

instance : Inhabited RecN := ⟨⟨⟨⟨#[0]⟩, 0, 0, 0, ⟨#[]⟩⟩, by kernel_rfl⟩⟩
instance : Inhabited Nm := ⟨⟨⟨#[0]⟩, by kernel_rfl⟩⟩

/-! ### Between the two vocabularies -/
theorem heap_putF {w : World} {g n : Nat} {os : Array Obj} {cur : Array Value} {e : TypeId} {fr : Nat × Nat} (F : Array Value) (hb : w.heap[g]? = some (.cells cur e fr)) :
    (grow (putRow id (Sort.ahead w n) g 0 F) os).heap[g]? = some (.cells (putCells id 0 F cur) e fr) := by
  have hg : g < w.heap.size := (Array.getElem?_eq_some_iff.1 hb).1
  rw [heap_grow_old _ _ (by simpa using hg)]
  simp [putRow, mapBlock, Sort.ahead, Array.getElem?_modify, hb, onCells]
theorem grownBy_putF {w : World} {g n : Nat} {os : Array Obj} (F : Array Value) : w.grownBy (grow (putRow id (Sort.ahead w n) g 0 F) os) (some g) := by
  refine ⟨rfl, rfl, rfl, by simp, fun k hk hne => ?_⟩
  rw [heap_grow_old _ _ (by simpa using hk)]
  have : g ≠ k := fun e => hne (by rw [e])
  simp [putRow, mapBlock, Sort.ahead, Array.getElem?_modify, this]
theorem take_putF (cur F : Array Value) (h : F.size ≤ cur.size) : (putCells id 0 F cur).toList.take F.size = F.toList := by
  apply List.ext_getElem?
  intro j
  by_cases hj : j < F.size
  · rw [List.getElem?_take_of_lt hj, Array.getElem?_toList]
    simp [putCells, hj, show j < cur.size by omega]
  · rw [List.getElem?_take_eq_none (by omega), List.getElem?_eq_none (by simp; omega)]
theorem ownsRow_putF {w : World} {base g cap n k size : Nat} {e : TypeId} {os : Array Obj} {xs : List Value} (F : Array Value) (hF : F.size = n * size) (h : w.ownsRow base e size (.slice (some ⟨g, 0, none⟩) n cap) n xs) :
    (grow (putRow id (Sort.ahead w k) g 0 F) os).ownsRow base e size (.slice (some ⟨g, 0, none⟩) n cap) n F.toList := by
  rcases h.2 with ⟨h0, _⟩ | ⟨g', cap', cur, hv, hb, hg, hn, hc, hcs, ht⟩
  · cases h0
  · cases hv
    refine ⟨by simpa using hF, .inr ⟨g, cap, _, rfl, hb, heap_putF F hg, hn, hc, by simp [putCells, hcs], ?_⟩⟩
    rw [← hF]
    refine take_putF cur F ?_
    rw [hF, hcs]
    exact Nat.mul_le_mul_right _ hn
theorem holds_putF {w : World} {base g cap n size : Nat} {e : TypeId} {xs : List Value} (h : w.ownsRow base e size (.slice (some ⟨g, 0, none⟩) n cap) n xs) : Holds id w g 0 xs.toArray := by
  rcases h.2 with ⟨h0, _⟩ | ⟨g', cap', cur, hv, hb, hg, hn, hc, hcs, ht⟩
  · cases h0
  · cases hv
    intro j hj
    have hj' : j < xs.length := by simpa using hj
    refine ⟨?_, by simp [World.frozen?, hg]⟩
    have h1 : xs[j]? = cur[j]? := by
      rw [← ht, List.getElem?_take, ← Array.getElem?_toList]
      rw [h.1] at hj'
      rw [if_pos hj']
    rw [Nat.zero_add, heap_cell hg, ← h1]
    simp [hj']

theorem recsC_at (l : List Rec) (t : Nat) (ht : t < l.length * 5) : (recsC l)[t]? = (recC (l[t / 5]'(by omega)))[t % 5]? := by
  have h5 : t % 5 < (recC (l[t / 5]'(by omega))).length := by show t % 5 < 5; omega
  have := recsC_get l (t / 5) (by omega) (t % 5) _ (List.getElem?_eq_getElem h5)
  rw [List.getElem?_eq_getElem h5, ← this]
  congr 1
  omega
theorem permIn_all {α : Type} [Inhabited α] {d d' : Array α} (h : PermIn 0 d.size d d') : d'.toList.Perm d.toList := by
  obtain ⟨h1, _, h3⟩ := h
  have e1 : d'.extract 0 d.size = d' := by rw [← h1]; simp
  have e2 : d.extract 0 d.size = d := by simp
  rw [e1, e2] at h3
  exact h3
/-- A sorted list of the same records. -/
def SortedOf (l L : List Rec) : Prop := L.Perm l ∧ L.Pairwise (fun a b => zn.orderI a b ≤ 0)

/-! ### Names -/
end Go.Proofs.YtnloommafgnanaaGreat

/-
  slices.SortStableFunc of records, told of lists.
-/
namespace Go.Proofs.YtnloommafgnanaaGreat
open Go.RowKit Go.Shelf Go.Sort Go.Proofs.YtnloommafgnanaaGreat.nm Go.Proofs.YtnloommafgnanaaGreat.od Go.Proofs.YtnloommafgnanaaGreat.sm

theorem flat_rc {α : Type} [Inhabited α] (rc : α → Rec) (d : Array α) : flatK (fun x : α => recC (rc x)) 5 d = (recsC (d.toList.map rc)).toArray := by
  apply Array.ext_getElem?
  intro t
  by_cases ht : t < d.size * 5
  · have h1 := recsC_at (d.toList.map rc) t (by simpa using ht)
    have h2 : t / 5 < d.size := by omega
    have h3 : (flatK (fun x : α => recC (rc x)) 5 d)[t]? = some ((flatK (fun x : α => recC (rc x)) 5 d)[t]!) := by
      rw [getElem!_pos _ t (by simpa using ht)]
      exact Array.getElem?_eq_getElem (by simpa using ht)
    rw [h3, get_flatK _ _ _ _ ht, List.getElem?_toArray, h1, getElem!_pos d (t / 5) h2]
    have h5 : t % 5 < (recC (rc d[t / 5])).length := by show t % 5 < 5; omega
    simp only [List.getElem_map, Array.getElem_toList]
    rw [List.getElem?_eq_getElem h5, getElem!_pos (recC (rc d[t / 5])) (t % 5) h5]
  · rw [Array.getElem?_eq_none (by simp; omega), Array.getElem?_eq_none (by simp [recsC_len]; omega)]

/-- The stable sort by a comparison that is right for records of a kind. -/
theorem stableRecs_any (P : Rec → Prop) [Inhabited {x : Rec × Nat // P x.1}] (cf : Rec → Rec → Int) (hS : SWO (fun a b : {x : Rec × Nat // P x.1} => decide (cf a.1.1 b.1.1 < 0))) (g : Nat) (eg : ∀ args w, (callFunc g args).run Tryz.prog w = .ok (.enter g args) w)
    (hcmp : ∀ x y, P x → P y → ∀ w, Calls Tryz.prog g #[recV x, recV y] w fun e w' => e = .returned (.int .i64 (cf x y)) ∧ ∃ q os', w' = grow (w.drewN q) os') (l : List Rec) (hl : l.length ≤ 1000000000000) (hok : ∀ r ∈ l, P r) (base b cap : Nat) (w : World) (hrow : w.ownsRow base 42 5 (.slice (some ⟨b, 0, none⟩) l.length cap) l.length (recsC l)) :
    Calls Tryz.prog 21 #[.slice (some ⟨b, 0, none⟩) l.length cap, .func (.func g) #[] #[]] w fun e w' =>
      e = .returned (.tuple #[]) ∧ w.grownBy w' (some b) ∧ ∃ T, StableOf cf l T ∧ w'.ownsRow base 42 5 (.slice (some ⟨b, 0, none⟩) l.length cap) l.length (recsC (T.map (·.1))) := by
  have hz : ∀ x ∈ l.zipIdx, P x.1 := fun x hx => hok _ (by
    have := List.mem_zipIdx hx
    rw [this.2.2]
    exact List.getElem_mem _)
  obtain ⟨d, hd⟩ : ∃ d : Array {x : Rec × Nat // P x.1}, d = (l.zipIdx.attach.map fun r => (⟨r.1, hz r.1 r.2⟩ : {x : Rec × Nat // P x.1})).toArray := ⟨_, rfl⟩
  have hdm : d.toList.map (·.1) = l.zipIdx := by
    rw [hd]
    simp only [List.map_map]
    exact List.attach_map_subtype_val l.zipIdx
  have hdm1 : d.toList.map (fun x => x.1.1) = l := by
    have : d.toList.map (fun x => x.1.1) = (d.toList.map (·.1)).map (·.1) := by rw [List.map_map]; rfl
    rw [this, hdm]; simp
  have hds : d.size = l.length := by rw [hd]; simp
  have hgl := hrow.lt b rfl
  have hflat := flat_rc (fun x : {x : Rec × Nat // P x.1} => x.1.1) d
  rw [hdm1] at hflat
  have hH : HoldsK (fun x : {x : Rec × Nat // P x.1} => recC x.1.1) 5 w b 0 d := by
    unfold HoldsK
    rw [hflat]
    exact holds_putF hrow
  have htg : ∀ i, i < l.length → (d[i]!).1.2 = i := fun i hi => by
    have h1 : (d.toList.map (·.1))[i]? = l.zipIdx[i]? := by rw [hdm]
    rw [List.getElem?_map, Array.getElem?_toList, Array.getElem?_eq_getElem (by omega), List.getElem?_zipIdx, List.getElem?_eq_getElem hi] at h1
    simp only [Option.map_some, Option.some.injEq, Nat.zero_add] at h1
    rw [getElem!_pos d i (by omega), h1]
  have hC : SortC (fun x : {x : Rec × Nat // P x.1} => x.1.1) w b l.length := ⟨⟨d, hds, hH⟩, hgl.2, hl⟩
  have hcc : CmpC (fun x : {x : Rec × Nat // P x.1} => x.1.1) (fun a b => cf a.1.1 b.1.1) g w b l.length := fun m os dk _ x y => hcmp x.1.1 y.1.1 x.2 y.2 _
  have hc := sortStable_any (m := 0) (os := #[]) (dk := d) (tg := fun x => x.1.2) hC hcc eg hS cap hds htg
  have hw0 : SW (fun x : {x : Rec × Nat // P x.1} => x.1.1) w b 0 d #[] = w := by rw [sw_eq]; exact sortWorldK_start _ 5 w b 0 d hH
  rw [hw0] at hc
  refine hc.mono ?_
  rintro e w' ⟨rfl, m', d', os', hw, hs', hp, hsd⟩
  have hp' : PermIn 0 d.size d d' := by rw [hds]; exact hp
  have h1 := (Go.Proofs.YtnloommafgnanaaGreat.permIn_all hp')
  have hw2 : w' = grow (putRow id (Sort.ahead w m') b 0 (recsC (d'.toList.map (fun x => x.1.1))).toArray) os' := by
    rw [hw, sw_eq, ← flat_rc]
    rfl
  have hTm : ((d'.toList.map (·.1)).map (·.1)) = d'.toList.map (fun x => x.1.1) := by rw [List.map_map]; rfl
  refine ⟨rfl, by rw [hw2]; exact grownBy_putF _, d'.toList.map (·.1), ⟨?_, ?_⟩, ?_⟩
  · have := h1.map (·.1)
    rw [hdm] at this
    exact this
  · rw [List.pairwise_map, List.pairwise_iff_getElem]
    intro i j hi hj hij
    have hi' : i < d'.size := by simpa using hi
    have hj' : j < d'.size := by simpa using hj
    have h2 := hsd i j (Nat.zero_le _) hij (by omega)
    rw [getElem!_pos d' j hj', getElem!_pos d' i hi'] at h2
    simp only [Array.getElem_toList]
    exact h2
  · rw [hw2, hTm]
    have := ownsRow_putF (k := m') (os := os') (recsC (d'.toList.map (fun x => x.1.1))).toArray (by simp [recsC_len, hs']) hrow
    simpa using this
end Go.Proofs.YtnloommafgnanaaGreat

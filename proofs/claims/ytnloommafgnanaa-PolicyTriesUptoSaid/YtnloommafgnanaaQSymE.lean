/-
  slices.SortStableFunc of records, told of lists.
-/
import Derived.Test.YtnloommafgnanaaQSymD
import Derived.Test.YtnloommafgnanaaQSort
import Derived.Shelf.GgSortFunc.RowK
namespace Go.Proofs.Ytnloommafgnanaa
open Go.RowKit Go.Shelf Go.Sort Go.Proofs.Ytnloommafgnanaa.nm Go.Proofs.Ytnloommafgnanaa.od Go.Proofs.Ytnloommafgnanaa.sm

theorem flat_rc {α : Type} [Inhabited α] (rc : α → Rec) (d : Array α) : flatK (fun x : α => recC (rc x)) 5 d = (recsC (d.toList.map rc)).toArray := by
  apply Array.ext_getElem?
  intro t
  by_cases ht : t < d.size * 5
  · have h1 := recsC_at (d.toList.map rc) t (by simpa using ht)
    have h2 : t / 5 < d.size := by omega
    have h3 : (flatK (fun x : α => recC (rc x)) 5 d)[t]? = some ((flatK (fun x : α => recC (rc x)) 5 d)[t]!) := by
      rw [getElem!_pos _ t (by simpa using ht)]
      exact Array.getElem?_eq_getElem (by simpa using ht)
    rw [h3, get_flatK _ _ _ _ ht, List.getElem?_toArray, h1, getElem!_pos d (t / 5) h2]
    have h5 : t % 5 < (recC (rc d[t / 5])).length := by show t % 5 < 5; omega
    simp only [List.getElem_map, Array.getElem_toList]
    rw [List.getElem?_eq_getElem h5, getElem!_pos (recC (rc d[t / 5])) (t % 5) h5]
  · rw [Array.getElem?_eq_none (by simp; omega), Array.getElem?_eq_none (by simp [recsC_len]; omega)]

/-- The stable sort by a comparison that is right for records of a kind. -/
theorem stableRecs_any (P : Rec → Prop) [Inhabited {x : Rec × Nat // P x.1}] (cf : Rec → Rec → Int) (hS : SWO (fun a b : {x : Rec × Nat // P x.1} => decide (cf a.1.1 b.1.1 < 0))) (g : Nat) (eg : ∀ args w, (callFunc g args).run Try.prog w = .ok (.enter g args) w)
    (hcmp : ∀ x y, P x → P y → ∀ w, Calls Try.prog g #[recV x, recV y] w fun e w' => e = .returned (.int .i64 (cf x y)) ∧ ∃ q os', w' = grow (w.drewN q) os') (l : List Rec) (hl : l.length ≤ 1000000000000) (hok : ∀ r ∈ l, P r) (base b cap : Nat) (w : World) (hrow : w.ownsRow base 41 5 (.slice (some ⟨b, 0, none⟩) l.length cap) l.length (recsC l)) :
    Calls Try.prog 37 #[.slice (some ⟨b, 0, none⟩) l.length cap, .func (.func g) #[] #[]] w fun e w' =>
      e = .returned (.tuple #[]) ∧ w.grownBy w' (some b) ∧ ∃ T, StableOf cf l T ∧ w'.ownsRow base 41 5 (.slice (some ⟨b, 0, none⟩) l.length cap) l.length (recsC (T.map (·.1))) := by
  have hz : ∀ x ∈ l.zipIdx, P x.1 := fun x hx => hok _ (by
    have := List.mem_zipIdx hx
    rw [this.2.2]
    exact List.getElem_mem _)
  obtain ⟨d, hd⟩ : ∃ d : Array {x : Rec × Nat // P x.1}, d = (l.zipIdx.attach.map fun r => (⟨r.1, hz r.1 r.2⟩ : {x : Rec × Nat // P x.1})).toArray := ⟨_, rfl⟩
  have hdm : d.toList.map (·.1) = l.zipIdx := by
    rw [hd]
    simp only [List.map_map]
    exact List.attach_map_subtype_val l.zipIdx
  have hdm1 : d.toList.map (fun x => x.1.1) = l := by
    have : d.toList.map (fun x => x.1.1) = (d.toList.map (·.1)).map (·.1) := by rw [List.map_map]; rfl
    rw [this, hdm]; simp
  have hds : d.size = l.length := by rw [hd]; simp
  have hgl := hrow.lt b rfl
  have hflat := flat_rc (fun x : {x : Rec × Nat // P x.1} => x.1.1) d
  rw [hdm1] at hflat
  have hH : HoldsK (fun x : {x : Rec × Nat // P x.1} => recC x.1.1) 5 w b 0 d := by
    unfold HoldsK
    rw [hflat]
    exact holds_putF hrow
  have htg : ∀ i, i < l.length → (d[i]!).1.2 = i := fun i hi => by
    have h1 : (d.toList.map (·.1))[i]? = l.zipIdx[i]? := by rw [hdm]
    rw [List.getElem?_map, Array.getElem?_toList, Array.getElem?_eq_getElem (by omega), List.getElem?_zipIdx, List.getElem?_eq_getElem hi] at h1
    simp only [Option.map_some, Option.some.injEq, Nat.zero_add] at h1
    rw [getElem!_pos d i (by omega), h1]
  have hC : SortC (fun x : {x : Rec × Nat // P x.1} => x.1.1) w b l.length := ⟨⟨d, hds, hH⟩, hgl.2, hl⟩
  have hcc : CmpC (fun x : {x : Rec × Nat // P x.1} => x.1.1) (fun a b => cf a.1.1 b.1.1) g w b l.length := fun m os dk _ x y => hcmp x.1.1 y.1.1 x.2 y.2 _
  have hc := sortStable_any (m := 0) (os := #[]) (dk := d) (tg := fun x => x.1.2) hC hcc eg hS cap hds htg
  have hw0 : SW (fun x : {x : Rec × Nat // P x.1} => x.1.1) w b 0 d #[] = w := by rw [sw_eq]; exact sortWorldK_start _ 5 w b 0 d hH
  rw [hw0] at hc
  refine hc.mono ?_
  rintro e w' ⟨rfl, m', d', os', hw, hs', hp, hsd⟩
  have hp' : PermIn 0 d.size d d' := by rw [hds]; exact hp
  have h1 := (Go.Proofs.Ytnloommafgnanaa.permIn_all hp')
  have hw2 : w' = grow (putRow id (Sort.ahead w m') b 0 (recsC (d'.toList.map (fun x => x.1.1))).toArray) os' := by
    rw [hw, sw_eq, ← flat_rc]
    rfl
  have hTm : ((d'.toList.map (·.1)).map (·.1)) = d'.toList.map (fun x => x.1.1) := by rw [List.map_map]; rfl
  refine ⟨rfl, by rw [hw2]; exact grownBy_putF _, d'.toList.map (·.1), ⟨?_, ?_⟩, ?_⟩
  · have := h1.map (·.1)
    rw [hdm] at this
    exact this
  · rw [List.pairwise_map, List.pairwise_iff_getElem]
    intro i j hi hj hij
    have hi' : i < d'.size := by simpa using hi
    have hj' : j < d'.size := by simpa using hj
    have h2 := hsd i j (Nat.zero_le _) hij (by omega)
    rw [getElem!_pos d' j hj', getElem!_pos d' i hi'] at h2
    simp only [Array.getElem_toList]
    exact h2
  · rw [hw2, hTm]
    have := ownsRow_putF (k := m') (os := os') (recsC (d'.toList.map (fun x => x.1.1))).toArray (by simp [recsC_len, hs']) hrow
    simpa using this
end Go.Proofs.Ytnloommafgnanaa

/-
  (*policy.Limiter).Allow: what it answers and what it leaves.
-/
import Derived.Test.YtnloommafgnanaaGreatQLimA
import Derived.BigRegion
import Derived.Deep.RegionHeld3
import Derived.Deep.DeepCutAuto
import Derived.Outline
import Derived.Maps.OwnOps
namespace Go.Proofs.YtnloommafgnanaaGreat
open Go.RowKit

section
variable {w : World} {B lp : Nat} {rate burst now : Int} {Z : List Zone1} {mb : Nat} {ov : Value} {who : ByteArray}

/-- The world's size only grows. -/
theorem Lim.hsz (h : Lim w B lp rate burst Z mb ov) : B ≤ w.heap.size := by
  have := heap_lt h.lim; have := h.hB; omega

/-- A block that is neither the map nor a text's, behind the map's store and the row's append. -/
theorem Lim.keep4 (h : Lim w B lp rate burst Z mb ov) {es : Array MapEntry} {c : Nat} {w4 : World}
    (hg : ((putMap (w.alloc (.cells (cellsV (burst, now)) 65)) mb es c).alloc (.cells #[.string who] 9)).grownBy w4 ov.ownBlock)
    {k : Nat} {cs : Array Value} {t : TypeId} (hk : w.heap[k]? = some (.cells cs t (0, 0))) (ht : t ≠ 9) :
    (putMap (w.alloc (.cells (cellsV (burst, now)) 65)) mb es c).heap[k]? = some (.cells cs t (0, 0)) ∧ w4.heap[k]? = some (.cells cs t (0, 0)) := by
  have h1 := heap_alloc_keep hk (.cells (cellsV (burst, now)) 65)
  obtain ⟨es0, c0, h0, _⟩ := h.map
  have hne : k ≠ mb := heap_ne hk h0 (by simp)
  have h2 : (putMap (w.alloc (.cells (cellsV (burst, now)) 65)) mb es c).heap[k]? = some (.cells cs t (0, 0)) := by
    rw [putMap_grown.block k (heap_lt h1) (fun e => hne (Option.some.inj e))]; exact h1
  have h3 := heap_alloc_keep h2 (.cells #[.string who] 9)
  refine ⟨h2, ?_⟩
  rw [hg.block k (heap_lt h3) (fun e => by
    rcases h.row.own with ho | ⟨g, cur, ho, _, hgg⟩
    · rw [ho] at e; cases e
    · rw [ho] at e; cases e
      rw [hk] at hgg; cases hgg; exact ht rfl)]
  exact h3

/-- The row behind the map's store. -/
theorem Lim.row3 (h : Lim w B lp rate burst Z mb ov) {es : Array MapEntry} {c : Nat} :
    RowAt ((putMap (w.alloc (.cells (cellsV (burst, now)) 65)) mb es c).alloc (.cells #[.string who] 9)) B 9 1 ov Z.length (Z.map limKeyV) := by
  refine RowAt.alloc (h.row.keep fun g cur _ hgg => ?_) _
  have h1 := heap_alloc_keep hgg (.cells (cellsV (burst, now)) 65)
  obtain ⟨es0, c0, h0, _⟩ := h.map
  have hne : g ≠ mb := heap_ne hgg h0 (by simp)
  rw [putMap_grown.block g (heap_lt h1) (fun e => hne (Option.some.inj e))]; exact h1

/-- A new one, entered: the map's world, the row's world, the store. -/
theorem Lim.entered (h : Lim w B lp rate burst Z mb ov) {es : Array MapEntry} {c : Nat} {v' : Value} {w4 : World}
    (hm : MapAt (putMap (w.alloc (.cells (cellsV (burst, now)) 65)) mb es c) mb (Z.map entV ++ [(.string who, .pointer (some ⟨w.heap.size, 0, none⟩))]))
    (hr : RowAt w4 B 9 1 v' (Z.length + 1) (Z.map limKeyV ++ [.string who]))
    (hg : ((putMap (w.alloc (.cells (cellsV (burst, now)) 65)) mb es c).alloc (.cells #[.string who] 9)).grownBy w4 ov.ownBlock) :
    Lim (w4.setCell ⟨lp, 3, none⟩ v') B lp rate burst (Z ++ [((who, burst, now), w.heap.size)]) mb v' ∧ Fr B LimT w (w4.setCell ⟨lp, 3, none⟩ v') := by
  have hB := h.hsz
  have hmb := h.map.lt
  have keep : ∀ {k : Nat} {cs : Array Value} {t : TypeId}, w.heap[k]? = some (.cells cs t (0, 0)) → t ≠ 9 → w4.heap[k]? = some (.cells cs t (0, 0)) := fun hk ht => (h.keep4 hg hk ht).2
  have hlim4 := keep h.lim (by decide)
  have hnew4 : w4.heap[w.heap.size]? = some (.cells (cellsV (burst, now)) 65 (0, 0)) := by
    have h1 : (w.alloc (.cells (cellsV (burst, now)) 65)).heap[w.heap.size]? = some (.cells (cellsV (burst, now)) 65 (0, 0)) := heap_new_at rfl
    have h2 : (putMap (w.alloc (.cells (cellsV (burst, now)) 65)) mb es c).heap[w.heap.size]? = some (.cells (cellsV (burst, now)) 65 (0, 0)) := by
      rw [putMap_grown.block _ (heap_lt h1) (fun e => by cases e; omega)]; exact h1
    have h3 := heap_alloc_keep h2 (.cells #[.string who] 9)
    rw [hg.block _ (heap_lt h3) (fun e => by
      rcases h.row.own with ho | ⟨g, cur, ho, _, hgg⟩
      · rw [ho] at e; cases e
      · rw [ho] at e; cases e
        have := heap_lt hgg; omega)]
    exact h3
  have hmap4 : MapAt w4 mb (Z.map entV ++ [(.string who, .pointer (some ⟨w.heap.size, 0, none⟩))]) := by
    refine (hm.alloc _).grown hg (fun e => ?_)
    rcases h.row.own with ho | ⟨g, cur, ho, _, hgg⟩
    · rw [ho] at e; cases e
    · rw [ho] at e; cases e
      obtain ⟨es0, c0, h0, _⟩ := h.map
      rw [h0] at hgg; cases hgg
  have hold : ∀ z ∈ Z, z.2 ≠ w.heap.size := fun z hz e => by
    have := heap_lt (h.seen z hz).2; omega
  refine ⟨⟨?_, h.hB, h.hM, ?_, ?_, ?_, ?_⟩, ?_⟩
  · rw [heap_set_at hlim4]; rfl
  · have := hmap4.setCell (a := ⟨lp, 3, none⟩) hlim4 v'
    simpa [entV] using this
  · have := hr.setCell (a := ⟨lp, 3, none⟩) hlim4 (fun cur e => by cases e) v'
    simpa [limKeyV] using this
  · intro z hz
    rcases List.mem_append.1 hz with hz | hz
    · have h1 := keep (h.seen z hz).2 (by decide)
      exact ⟨(h.seen z hz).1, heap_set_keep h1 (heap_ne h1 hlim4 (by simp)) _⟩
    · rw [List.mem_singleton] at hz; subst hz
      exact ⟨hB, heap_set_keep hnew4 (heap_ne hnew4 hlim4 (by simp)) _⟩
  · rw [List.map_append, List.nodup_append]
    refine ⟨h.nodup, by simp, fun a ha b hb => ?_⟩
    obtain ⟨z, hz, rfl⟩ := List.mem_map.1 ha
    simp only [List.map_cons, List.map_nil, List.mem_singleton] at hb
    subst hb
    exact hold z hz
  · obtain ⟨es0, c0, h0, _⟩ := h.map
    have f1 : Fr B LimT w (w.alloc (.cells (cellsV (burst, now)) 65)) := (Fr.refl _ _ _).alloc hB _
    have f2 := f1.block (heap_alloc_keep h0 _) trivial h.hM (putMap_grown (es := es) (c := c))
    have f3 := f2.alloc (by simp [putMap]; omega) (.cells #[.string who] 9)
    have f4 : Fr B LimT w w4 := by
      rcases h.row.own with ho | ⟨g, cur, ho, hBg, hgg⟩
      · refine f3.trans ⟨(Below.refl _ _).grown hg (by simp [putMap]; omega) (fun k hk => by rw [ho] at hk; cases hk), fun k o hk _ => ?_⟩
        rw [hg.block k (heap_lt hk) (by rw [ho]; simp)]; exact hk
      · have h1 := heap_alloc_keep hgg (.cells (cellsV (burst, now)) 65)
        have hne : g ≠ mb := heap_ne hgg h0 (by simp)
        have h2 : (putMap (w.alloc (.cells (cellsV (burst, now)) 65)) mb es c).heap[g]? = some (.cells cur 9 (0, 0)) := by
          rw [putMap_grown.block g (heap_lt h1) (fun e => hne (Option.some.inj e))]; exact h1
        have h3 := heap_alloc_keep h2 (.cells #[.string who] 9)
        rw [ho] at hg
        exact f3.block h3 (.inr (.inr rfl)) hBg hg
    exact f4.block hlim4 (.inl rfl) h.hB (grownBy_setCell _ _ _)

/-- The eldest struck: the map's world, the store of the cut row. -/
theorem Lim.struck {z : Zone1} {g off cap : Nat} (h : Lim w B lp rate burst (z :: Z) mb (.slice (some ⟨g, off, none⟩) (Z.length + 1) cap)) {es : Array MapEntry} {c : Nat}
    (hm : MapAt (putMap w mb es c) mb (Z.map entV)) :
    Lim ((putMap w mb es c).setCell ⟨lp, 3, none⟩ (.slice (some ⟨g, off + 1, none⟩) Z.length (cap - 1))) B lp rate burst Z mb (.slice (some ⟨g, off + 1, none⟩) Z.length (cap - 1)) ∧
      Fr B LimT w ((putMap w mb es c).setCell ⟨lp, 3, none⟩ (.slice (some ⟨g, off + 1, none⟩) Z.length (cap - 1))) := by
  obtain ⟨es0, c0, h0, _⟩ := h.map
  have keep : ∀ {k : Nat} {cs : Array Value} {t : TypeId}, w.heap[k]? = some (.cells cs t (0, 0)) → (putMap w mb es c).heap[k]? = some (.cells cs t (0, 0)) := by
    intro k cs t hk
    have hne : k ≠ mb := heap_ne hk h0 (by simp)
    rw [putMap_grown.block k (heap_lt hk) (fun e => hne (Option.some.inj e))]; exact hk
  have hlim := keep h.lim
  have hrow := (h.row.cutFront (k := 1) (by simp)).keep (w' := putMap w mb es c) (fun _ _ _ hg => keep hg)
  simp only [Nat.mul_one, Nat.add_sub_cancel, List.map_cons, List.drop_succ_cons, List.drop_zero] at hrow
  refine ⟨⟨?_, h.hB, h.hM, hm.setCell (a := ⟨lp, 3, none⟩) hlim _, hrow.setCell (a := ⟨lp, 3, none⟩) hlim (fun cur e => by cases e) _, fun x hx => ?_, ?_⟩, ?_⟩
  · rw [heap_set_at hlim]; rfl
  · have hx' := h.seen x (List.mem_cons_of_mem _ hx)
    have h1 := keep hx'.2
    exact ⟨hx'.1, heap_set_keep h1 (heap_ne h1 hlim (by simp)) _⟩
  · exact (List.nodup_cons.1 (by simpa using h.nodup)).2
  · have f1 : Fr B LimT w (putMap w mb es c) := (Fr.refl _ _ _).block h0 trivial h.hM putMap_grown
    exact f1.block hlim (.inl rfl) h.hB (grownBy_setCell _ _ _)

/-- The eldest struck, behind a draw. -/
theorem Lim.drew (h : Lim w B lp rate burst Z mb ov) : Lim w.drew B lp rate burst Z mb ov :=
  ⟨h.lim, h.hB, h.hM, h.map.drew, h.row.drew, h.seen, h.nodup⟩

/-- One who was seen is told anew. -/
theorem Lim.told (h : Lim w B lp rate burst Z mb ov) {k : Nat} {z : Zone1} (hz : Z[k]? = some z) {w' : World} {x : Int × Int}
    (hw : w'.heap[z.2]? = some (.cells (cellsV x) 65 (0, 0))) (hg : w.grownBy w' (some z.2)) :
    Lim w' B lp rate burst (Z.set k ((z.1.1, x), z.2)) mb ov ∧ Fr B LimT w w' := by
  have hmem := List.mem_of_getElem? hz
  have hzs := h.seen z hmem
  have keep : ∀ {k : Nat} {o : Obj}, w.heap[k]? = some o → k ≠ z.2 → w'.heap[k]? = some o := fun {k o} hk hne => by
    rw [hg.block k (heap_lt hk) (fun e => hne (Option.some.inj e))]; exact hk
  have hent : (Z.set k ((z.1.1, x), z.2)).map entV = Z.map entV := by
    apply List.ext_getElem?
    intro i
    rw [List.getElem?_map, List.getElem?_map, List.getElem?_set]
    split
    · rename_i e; subst e
      rw [hz]
      split
      · rfl
      · rename_i hl; exact absurd (List.getElem?_eq_some_iff.1 hz).1 hl
    · rfl
  have hkey : (Z.set k ((z.1.1, x), z.2)).map limKeyV = Z.map limKeyV := by
    apply List.ext_getElem?
    intro i
    rw [List.getElem?_map, List.getElem?_map, List.getElem?_set]
    split
    · rename_i e; subst e
      rw [hz]
      split
      · rfl
      · rename_i hl; exact absurd (List.getElem?_eq_some_iff.1 hz).1 hl
    · rfl
  have hsnd : (Z.set k ((z.1.1, x), z.2)).map (·.2) = Z.map (·.2) := by
    apply List.ext_getElem?
    intro i
    rw [List.getElem?_map, List.getElem?_map, List.getElem?_set]
    split
    · rename_i e; subst e
      rw [hz]
      split
      · rfl
      · rename_i hl; exact absurd (List.getElem?_eq_some_iff.1 hz).1 hl
    · rfl
  refine ⟨⟨keep h.lim (heap_ne h.lim hzs.2 (by simp)), h.hB, h.hM, ?_, ?_, ?_, by rw [hsnd]; exact h.nodup⟩, (Fr.refl _ _ _).block hzs.2 (.inr (.inl rfl)) hzs.1 hg⟩
  · rw [hent]
    obtain ⟨es0, c0, h0, h1⟩ := h.map
    exact ⟨es0, c0, keep h0 (heap_ne h0 hzs.2 (by simp)), h1⟩
  · rw [hkey, List.length_set]
    exact h.row.keep fun g cur _ hgg => keep hgg (heap_ne hgg hzs.2 (by simp))
  · intro y hy
    obtain ⟨i, hi, rfl⟩ := List.mem_iff_getElem.1 hy
    rw [List.getElem_set]
    split
    · exact ⟨hzs.1, hw⟩
    · rename_i hne
      have hi' : i < Z.length := by simpa using hi
      have hyz := h.seen Z[i] (List.getElem_mem hi')
      refine ⟨hyz.1, keep hyz.2 (fun e => hne ?_)⟩
      have hk := (List.getElem?_eq_some_iff.1 hz)
      obtain ⟨hk1, hk2⟩ := hk
      have hnd := List.pairwise_iff_getElem.1 h.nodup
      rcases Nat.lt_trichotomy k i with hh | hh | hh
      · have := hnd k i (by simpa using hk1) (by simpa using hi') hh
        simp only [List.getElem_map, hk2, e] at this
        exact absurd rfl this
      · exact hh
      · have := hnd i k (by simpa using hi') (by simpa using hk1) hh
        simp only [List.getElem_map, hk2, e] at this
        exact absurd rfl this

/-- What the asking leaves. -/
theorem Lim.finish {w0 w' : World} {S : List lim.One} {k : Nat} {z : Zone1} {x : Int × Int} {r : Bool} (h : Lim w B lp rate burst Z mb ov) (hz : Z[k]? = some z) (hfr : Fr B LimT w0 w)
    (hask : lim.ask rate burst now S who = (r, (Z.map (·.1)).set k (z.1.1, x)))
    (hw : w'.heap[z.2]? = some (.cells (cellsV x) 65 (0, 0))) (hg : w.grownBy w' (some z.2)) :
    Ending.returned (.bool r) = .returned (.bool (lim.ask rate burst now S who).1) ∧ LimInv w' B lp rate burst (lim.ask rate burst now S who).2 ∧ Fr B LimT w0 w' := by
  obtain ⟨h1, h2⟩ := h.told hz hw hg
  refine ⟨by rw [hask], ⟨_, _, _, ?_, h1⟩, hfr.trans h2⟩
  rw [hask, List.map_set]

theorem grownBy_trans {w w' w'' : World} {row : Option Nat} (h : w.grownBy w' row) (h' : w'.grownBy w'' row) : w.grownBy w'' row :=
  ⟨h'.os.trans h.os, h'.tape.trans h.tape, h'.output.trans h.output, Nat.le_trans h.size h'.size, fun k hk hn => (h'.block k (Nat.lt_of_lt_of_le hk h.size) hn).trans (h.block k hk hn)⟩
theorem grownBy_drew {w w' : World} {row : Option Nat} (h : w.grownBy w' row) : w.grownBy w'.drew row := ⟨h.os, h.tape, h.output, h.size, h.block⟩

/-- The refilling as the program reckons it. -/
theorem refill_go {zl zt : Int} (hr0 : 0 ≤ rate) (hr1 : rate ≤ 1000) (hb0 : 1 ≤ burst) (hb1 : burst ≤ 1000) (h0 : 0 ≤ zl) (h1 : zl ≤ burst) (hr : 0 < rate) (ht : zt < now) :
    (if wrap64 (zl + wrap64 (rate * if burst < now - zt then burst else now - zt)) < burst then
            wrap64 (zl + wrap64 (rate * if burst < now - zt then burst else now - zt))
          else burst) = (lim.refill rate burst now (zl, zt)).1 ∧ 1 ≤ (lim.refill rate burst now (zl, zt)).1 ∧ (lim.refill rate burst now (zl, zt)).1 ≤ burst ∧ (lim.refill rate burst now (zl, zt)).2 = now := by
  have hm : (if burst < now - zt then burst else now - zt) = min (now - zt) burst := by split <;> omega
  have hm0 : 1 ≤ min (now - zt) burst := by omega
  have hm1 : min (now - zt) burst ≤ 1000 := by omega
  have hrf : lim.refill rate burst now (zl, zt) = (min burst (zl + rate * min (now - zt) burst), now) := by
    unfold lim.refill
    dsimp only
    rw [if_pos ht, if_pos hr]
  rw [hrf, hm]
  dsimp only
  clear hrf
  generalize min (now - zt) burst = m at *
  have e1 : rate * 1 ≤ rate * m := Int.mul_le_mul_of_nonneg_left hm0 hr0
  have e2 : rate * m ≤ 1000 * 1000 := Int.le_trans (Int.mul_le_mul_of_nonneg_right hr1 (by omega)) (Int.mul_le_mul_of_nonneg_left hm1 (by omega))
  rw [IntWalk.wrap64_in (rate * m) ⟨by omega, by omega⟩, IntWalk.wrap64_in (zl + rate * m) ⟨by omega, by omega⟩]
  refine ⟨by split <;> omega, by omega, by omega, rfl⟩

theorem gone_go {zt : Int} (h0 : -9223372036854775808 ≤ zt) (h1 : now ≤ 9223372036854775807) (ht : zt < now) : IntKind.u64.wrap (IntKind.u64.wrap now - IntKind.u64.wrap zt) = now - zt := by
  simp only [IntKind.wrap_u64]
  omega
end
end Go.Proofs.YtnloommafgnanaaGreat

/-
  gazetteerlaw11.PolicyViews holds for every input: the program's Inside and Choose answer as the document's do. No condition.
-/
import Derived.Test.YtnbdlaedbbcnjaaViews
import Derived.Test.YtnbdlaedbbcnjaaFair
import Derived.Lib.SmallJoins
namespace Go.Proofs.Ytnbdlaedbbcnjaa
open Go.RowKit Go.ChangeShapes Go.WideShapes Go.ChangeAt Go.Deep

theorem any_none {α : Type} {p : α → Bool} {l : List α} (h : l.length ≤ l.findIdx p) : l.any p = false := by
  rw [← findI_any, findI_none h]; rfl
theorem any_hit {α : Type} {p : α → Bool} {l : List α} {k : Nat} {x : α} (hx : l[k]? = some x) (hp : p x = true) : l.any p = true :=
  List.any_eq_true.2 ⟨x, List.mem_of_getElem? hx, hp⟩

set_option maxHeartbeats 1000000 in
/-- The document's Choose. -/
theorem rchoose_any (a : ByteArray) (c : Nat) (A : Option Addr) (vs : List (List Net)) (w : World) (hn : vs.length ≤ 9223372036854775807) (hat : ViewsAt w w.heap.size A vs) :
    Calls Try.prog 13 #[.slice A vs.length c, .string a] w fun e w' => e = .returned (.int .i64 (findI (viewB a) vs)) ∧ Below w.heap.size w w' := by
  have HAT := Lib.hid hat
  clear hat
  go_enter Try.func13, Try.ntmps13
  go_wp2
  go_loopw [11, 5, 6, 19, 8] (fun i _ _ _ _ wr => ∃ k : Nat, k ≤ vs.length ∧ k ≤ vs.findIdx (viewB a) ∧ i = .int .i64 k ∧ Below w.heap.size w wr) (fun i _ _ _ _ _ => vs.length - (intOf i).toNat)
  case atStart => exact ⟨0, Nat.zero_le _, Nat.zero_le _, rfl, Below.refl _ _⟩
  case round =>
    obtain ⟨k, hk, hkf, rfl, hB⟩ := hrel
    obtain ⟨wo, hwo⟩ : ∃ wo : World, wo = wr := ⟨_, rfl⟩
    subst hwo
    have HK := Lib.hid hkf
    clear hkf
    by_cases hl : k < vs.length
    · obtain ⟨nets, hx⟩ : ∃ x, vs[k]? = some x := ⟨_, List.getElem?_eq_getElem hl⟩
      obtain ⟨b, off, nm, A', c', rfl, hb, g1, g2, hnl, hnets⟩ := HAT.out k _ hx
      have g1 := (hB.cell (p := ⟨b, off + k * 2, none⟩) hb).trans g1
      have g2 := (hB.cell (p := ⟨b, off + k * 2 + 1, none⟩) hb).trans g2
      have hB2 := hB.alloc hB.size (.cells #[.string nm, .slice A' nets.length c'] 60)
      have hbx : (wo.alloc (.cells #[.string nm, .slice A' nets.length c'] 60)).cell? ⟨wo.heap.size, 1, none⟩ = some (.slice A' nets.length c') := by
        rw [heap_cell (heap_new_at rfl)]; rfl
      have HX := Lib.hid hx; have HB2 := Lib.hid hB2; have HN := Lib.hid hnets; have HNL := Lib.hid hnl
      clear hx hB hB2 hnets
      go_wp2
      generalize wo.alloc (.cells #[.string nm, .slice A' nets.length c'] 60) = W1 at *
      go_loopw [19, 8] (fun i _ w2 => ∃ j : Nat, j ≤ nets.length ∧ j ≤ nets.findIdx (netB a) ∧ i = .int .i64 j ∧ Below w.heap.size w w2) (fun i _ _ => nets.length - (intOf i).toNat)
      case atStart => exact ⟨0, Nat.zero_le _, Nat.zero_le _, rfl, HB2.out⟩
      case round =>
        obtain ⟨j, hj, hjf, rfl, hB⟩ := hrel
        have HJ := Lib.hid hjf
        clear hjf g1 g2 hbx
        by_cases hjl : j < nets.length
        · obtain ⟨⟨net, nb⟩, hy⟩ : ∃ x, nets[j]? = some x := ⟨_, List.getElem?_eq_getElem hjl⟩
          obtain ⟨b2, off2, rfl, hb2, g1, g2⟩ := HN.out j _ hy
          have g1 := (hB.cell (p := ⟨b2, off2 + j * 2, none⟩) hb2).trans g1
          have g2 := (hB.cell (p := ⟨b2, off2 + j * 2 + 1, none⟩) hb2).trans g2
          dsimp only at g1 g2
          have hB3 := hB.alloc hB.size (.cells #[.string net, .int .i64 nb] 39)
          have hc0 : (wr.alloc (.cells #[.string net, .int .i64 nb] 39)).cell? ⟨wr.heap.size, 0, none⟩ = some (.string net) := by rw [heap_cell (heap_new_at rfl)]; rfl
          have hc1 : (wr.alloc (.cells #[.string net, .int .i64 nb] 39)).cell? ⟨wr.heap.size, 1, none⟩ = some (.int .i64 nb) := by rw [heap_cell (heap_new_at rfl)]; rfl
          have HY := Lib.hid hy; have HB3 := Lib.hid hB3
          clear hy hB3 hB
          cases hp : insideB net nb a
          · have HP := Lib.hid hp
            clear hp
            go_wp2_with (first | (go_at_call 11; refine (rinside_any net a nb _).mono ?_; rintro e w3 ⟨rfl, hf3⟩; rw [HP.out]))
            go_roundw
            case rel => exact ⟨j + 1, by omega, findI_miss HJ.out HY.out HP.out, by go_num, HB3.out.trans (hf3.below.mono HB3.out.size)⟩
            case measure => simp [intOf]; omega
          · have HP := Lib.hid hp
            clear hp
            go_wp2_with (first | (go_at_call 11; refine (rinside_any net a nb _).mono ?_; rintro e w3 ⟨rfl, hf3⟩; rw [HP.out]))
            go_ret
            exact ⟨by rw [findI_hit HK.out HX.out (any_hit HY.out HP.out)]; rfl, HB3.out.trans (hf3.below.mono HB3.out.size)⟩
        · have HB := Lib.hid hB
          have hav : viewB a nets = false := any_none (by have := HJ.out; omega)
          have HAV := Lib.hid hav
          clear hB hav
          go_wp2
          go_roundw
          case rel => exact ⟨k + 1, by omega, findI_miss HK.out HX.out HAV.out, by go_num, HB.out⟩
          case measure => simp [intOf]; omega
    · have HB := Lib.hid hB
      clear hB
      go_wp2
      go_ret
      exact ⟨by rw [findI_none (by have := HK.out; omega)]; rfl, HB.out⟩

/-- Texts in memory. -/
def StrsAt (w : World) (B : Nat) (A : Option Addr) (ss : List ByteArray) : Prop :=
  ∀ (k : Nat) (s : ByteArray), ss[k]? = some s → ∃ b off, A = some ⟨b, off, none⟩ ∧ b < B ∧ w.cell? ⟨b, off + k, none⟩ = some (.string s)

set_option maxHeartbeats 1000000 in
theorem views_any (net : ByteArray) (nb : Int) (vs : List (List Net)) (ss : List ByteArray) (A A2 : Option Addr) (c c2 : Nat) (w : World) (hn : vs.length ≤ 9223372036854775807) (hm : ss.length ≤ 9223372036854775807)
    (hat : ViewsAt w w.heap.size A vs) (hst : StrsAt w w.heap.size A2 ss) :
    Calls Try.prog 5 #[.agg #[.string net, .int .i64 nb], .slice A vs.length c, .slice A2 ss.length c2] w fun e w' => e = .returned (.bool true) ∧ Below w.heap.size w w' := by
  have HAT := Lib.hid hat; have HST := Lib.hid hst
  have hbx : (w.alloc (.cells #[.string net, .int .i64 nb] 39)).heap[w.heap.size]? = some (.cells #[.string net, .int .i64 nb] 39 (0, 0)) := heap_new_at rfl
  have hB0 : Below w.heap.size w (w.alloc (.cells #[.string net, .int .i64 nb] 39)) := (Below.refl _ _).alloc (Nat.le_refl _) _
  have hw0 : (w.alloc (.cells #[.string net, .int .i64 nb] 39)).heap.size = w.heap.size + 1 := by simp
  have HBX := Lib.hid hbx; have HB0 := Lib.hid hB0; have HW0 := Lib.hid hw0
  clear hat hst hbx hB0 hw0
  go_enter Try.func5, Try.ntmps5
  go_wp2_with (first | (go_at_call 7; refine (alive_any _).mono ?_; rintro e w2 ⟨rfl, hf2⟩))
  have hbx2 : w2.heap[w.heap.size]? = some (.cells #[.string net, .int .i64 nb] 39 (0, 0)) := by
    rw [hf2.block w.heap.size (by have := HW0.out; omega)]; exact HBX.out
  have hB2 := HB0.out.trans (hf2.mono HB0.out.size)
  clear hf2
  go_loopw [13, 8] (fun i _ wr => ∃ k : Nat, k ≤ ss.length ∧ i = .int .i64 k ∧ wr.heap[w.heap.size]? = some (.cells #[.string net, .int .i64 nb] 39 (0, 0)) ∧ Below w.heap.size w wr) (fun i _ _ => ss.length - (intOf i).toNat)
  case atStart => exact ⟨0, Nat.zero_le _, rfl, hbx2, hB2⟩
  case round =>
    obtain ⟨k, hk, rfl, hbr, hB⟩ := hrel
    clear hbx2 hB2
    by_cases hl : k < ss.length
    · obtain ⟨s, hs⟩ : ∃ s, ss[k]? = some s := ⟨_, List.getElem?_eq_getElem hl⟩
      obtain ⟨b, off, rfl, hb, g1⟩ := HST.out k _ hs
      have g1 := (hB.cell (p := ⟨b, off + k, none⟩) hb).trans g1
      have c0 : wr.cell? ⟨w.heap.size, 0, none⟩ = some (.string net) := by rw [heap_cell hbr]; rfl
      have c1 : wr.cell? ⟨w.heap.size, 1, none⟩ = some (.int .i64 nb) := by rw [heap_cell hbr]; rfl
      have HBR := Lib.hid hbr; have HB := Lib.hid hB
      clear hs hbr hB
      go_wp2
      clear g1
      go_region_held3 (fun w' => w'.cell? ⟨w.heap.size, 0, none⟩ = some (.string net) ∧ w'.cell? ⟨w.heap.size, 1, none⟩ = some (.int .i64 nb)) (go_keep)
        (first
          | (go_at_call 10; refine (inside_any net s nb _).mono ?_; rintro e w3 ⟨rfl, hf3⟩; have hbx3 : w3.heap[w.heap.size]? = some (.cells #[.string net, .int .i64 nb] 39 (0, 0)) := hf3.kept _ _ HBR.out (fun h => h); have c0 : w3.cell? ⟨w.heap.size, 0, none⟩ = some (.string net) := (by rw [heap_cell hbx3]; rfl); have c1 : w3.cell? ⟨w.heap.size, 1, none⟩ = some (.int .i64 nb) := (by rw [heap_cell hbx3]; rfl); have HB3 := Lib.hid (HB.out.drew.trans (hf3.below.mono HB.out.size)); have HBX3 := Lib.hid hbx3; clear hf3 hbx3)
          | (go_at_call 11; refine (rinside_any net s nb w3).mono ?_; rintro e w4 ⟨rfl, hf4⟩; have hbx4 : w4.heap[w.heap.size]? = some (.cells #[.string net, .int .i64 nb] 39 (0, 0)) := hf4.kept _ _ HBX3.out (fun h => h); have c0 : w4.cell? ⟨w.heap.size, 0, none⟩ = some (.string net) := (by rw [heap_cell hbx4]; rfl); have c1 : w4.cell? ⟨w.heap.size, 1, none⟩ = some (.int .i64 nb) := (by rw [heap_cell hbx4]; rfl); have HB4 := Lib.hid (HB3.out.trans (hf4.below.mono HB3.out.size)); have HBX4 := Lib.hid hbx4; clear hf4 hbx4)
          | (go_at_call 12; refine (choose_any s c A vs w4 hn ((HAT.out.below HB4.out (Nat.le_refl _)).more HB4.out.size)).mono ?_; rintro e w5 ⟨rfl, hf5⟩; have hbx5 : w5.heap[w.heap.size]? = some (.cells #[.string net, .int .i64 nb] 39 (0, 0)) := (by rw [hf5.block _ (heap_lt HBX4.out)]; exact HBX4.out); have c0 : w5.cell? ⟨w.heap.size, 0, none⟩ = some (.string net) := (by rw [heap_cell hbx5]; rfl); have c1 : w5.cell? ⟨w.heap.size, 1, none⟩ = some (.int .i64 nb) := (by rw [heap_cell hbx5]; rfl); have HB5 := Lib.hid (HB4.out.trans (hf5.mono HB4.out.size)); have HBX5 := Lib.hid hbx5; clear hf5 hbx5)
          | (go_at_call 13; refine (rchoose_any s c A vs w5 hn ((HAT.out.below HB5.out (Nat.le_refl _)).more HB5.out.size)).mono ?_; rintro e w6 ⟨rfl, hf6⟩; have hbx6 : w6.heap[w.heap.size]? = some (.cells #[.string net, .int .i64 nb] 39 (0, 0)) := (by rw [hf6.block _ (heap_lt HBX5.out)]; exact HBX5.out); have c0 : w6.cell? ⟨w.heap.size, 0, none⟩ = some (.string net) := (by rw [heap_cell hbx6]; rfl); have c1 : w6.cell? ⟨w.heap.size, 1, none⟩ = some (.int .i64 nb) := (by rw [heap_cell hbx6]; rfl); have HB6 := Lib.hid (HB5.out.trans (hf6.mono HB5.out.size)); have HBX6 := Lib.hid hbx6; clear hf6 hbx6))
      go_wp2
      go_roundw
      case rel => exact ⟨k + 1, by omega, by go_num, HBX6.out, HB6.out⟩
      case measure => simp [intOf]; omega
    · have HB := Lib.hid hB
      clear hB hbr
      go_wp2
      go_ret
      exact ⟨rfl, HB.out⟩

section
variable {H : Type} {enc : TypeId × Value → H} {W : World} {spare : Nat → Bool} {held : Bool}

/-- A slice of nets that came in. -/
theorem open_nets {fuel : Nat} {v : Value} {x : DataW H × List MemPlace} (hf : DataW.trod enc Try.prog W 0 spare held fuel 58 [v] = some x) :
    ∃ A c nets, v = .slice A (nets : List Net).length c ∧ nets.length ≤ 9223372036854775807 ∧ NetsAt W W.heap.size A nets := by
  rcases open_slice_fields Try.underlying58 Try.underlying39 (by kernel_rfl) (by kernel_rfl) hf with ⟨hcs, _⟩ | ⟨a, len, cap, m, D, Pl, hcs, hb, hl, hm, hmm, hx, hi⟩
  · simp only [List.cons.injEq, and_true] at hcs
    exact ⟨none, 0, [], hcs, by simp, fun k y h => by simp at h⟩
  · simp only [List.cons.injEq, and_true] at hcs
    unfold maxLen at hm
    have hnm : len ≤ m := by rw [hmm]; split <;> omega
    obtain ⟨cs, h1, h2⟩ := list_of (P := fun i (y : Net) => W.cell? (a.add (i * 2)) = some (.string y.1) ∧ W.cell? (a.add (i * 2 + 1)) = some (.int .i64 y.2)) len (fun i hin => by
      obtain ⟨ys, k, _, _, _, hf⟩ := hi i (by omega)
      obtain ⟨v0, y0, c0, _, t0⟩ := hf 0 _ rfl
      obtain ⟨v1, y1, c1, _, t1⟩ := hf 1 _ rfl
      obtain ⟨s, e0, _⟩ := DataW.trod_string Try.underlying9 t0
      obtain ⟨q, e1, _, wq⟩ := DataW.trod_int Try.underlying3 t1
      simp only [List.cons.injEq, and_true] at e0 e1
      subst e0 e1
      exact ⟨(s, q), c0, c1⟩)
    refine ⟨some a, cap, cs, by rw [hcs, h1], by omega, fun k y hk => ?_⟩
    obtain ⟨c0, c1⟩ := h2 k y hk
    obtain ⟨b, off, spot⟩ := a
    have hspot : spot = none := by
      have hk0 : 0 < cs.length := by have := (List.getElem?_eq_some_iff.1 hk).1; omega
      have := World.cell?_spot (h2 0 _ (List.getElem?_eq_getElem hk0)).1
      simpa [Addr.add] using this
    subst hspot
    rw [Addr.add_lit] at c0 c1
    exact ⟨b, off, rfl, World.block_lt_of_cell? _ _ c0, c0, by rw [Nat.add_assoc]; exact c1⟩

/-- A slice of views that came in. -/
theorem open_views {fuel : Nat} {v : Value} {x : DataW H × List MemPlace} (hf : DataW.trod enc Try.prog W 0 spare held fuel 40 [v] = some x) :
    ∃ A c vs, v = .slice A (vs : List (List Net)).length c ∧ vs.length ≤ 9223372036854775807 ∧ ViewsAt W W.heap.size A vs := by
  rcases open_slice_fields Try.underlying40 Try.underlying60 (by kernel_rfl) (by kernel_rfl) hf with ⟨hcs, _⟩ | ⟨a, len, cap, m, D, Pl, hcs, hb, hl, hm, hmm, hx, hi⟩
  · simp only [List.cons.injEq, and_true] at hcs
    exact ⟨none, 0, [], hcs, by simp, fun k y h => by simp at h⟩
  · simp only [List.cons.injEq, and_true] at hcs
    unfold maxLen at hm
    have hnm : len ≤ m := by rw [hmm]; split <;> omega
    obtain ⟨cs, h1, h2⟩ := list_of (P := fun i (nets : List Net) => ∃ nm A' c', W.cell? (a.add (i * 2)) = some (.string nm) ∧ W.cell? (a.add (i * 2 + 1)) = some (.slice A' nets.length c') ∧ nets.length ≤ 9223372036854775807 ∧ NetsAt W W.heap.size A' nets) len (fun i hin => by
      obtain ⟨ys, k, _, _, _, hf⟩ := hi i (by omega)
      obtain ⟨v0, y0, c0, _, t0⟩ := hf 0 _ rfl
      obtain ⟨v1, y1, c1, _, t1⟩ := hf 1 _ rfl
      obtain ⟨s, e0, _⟩ := DataW.trod_string Try.underlying9 t0
      simp only [List.cons.injEq, and_true] at e0
      subst e0
      obtain ⟨A', c', nets, rfl, hl, hn⟩ := open_nets t1
      exact ⟨nets, s, A', c', c0, c1, hl, hn⟩)
    refine ⟨some a, cap, cs, by rw [hcs, h1], by omega, fun k y hk => ?_⟩
    obtain ⟨nm, A', c', c0, c1, hl, hn⟩ := h2 k y hk
    obtain ⟨b, off, spot⟩ := a
    have hspot : spot = none := by
      have hk0 : 0 < cs.length := by have := (List.getElem?_eq_some_iff.1 hk).1; omega
      obtain ⟨_, _, _, d0, _⟩ := h2 0 _ (List.getElem?_eq_getElem hk0)
      have := World.cell?_spot d0
      simpa [Addr.add] using this
    subst hspot
    rw [Addr.add_lit] at c0 c1
    exact ⟨b, off, nm, A', c', rfl, World.block_lt_of_cell? _ _ c0, c0, by rw [Nat.add_assoc]; exact c1, hl, hn⟩

/-- A slice of texts that came in. -/
theorem open_texts {fuel : Nat} {v : Value} {x : DataW H × List MemPlace} (hf : DataW.trod enc Try.prog W 0 spare held fuel 41 [v] = some x) :
    ∃ A c ss, v = .slice A (ss : List ByteArray).length c ∧ ss.length ≤ 9223372036854775807 ∧ StrsAt W W.heap.size A ss := by
  rcases open_strings Try.underlying41 Try.underlying9 (by kernel_rfl) hf with ⟨hcs, _⟩ | ⟨a, l, cp, ss, hcs, _, hl, hm, hz, _, hcell, _⟩
  · simp only [List.cons.injEq, and_true] at hcs
    exact ⟨none, 0, [], hcs, by simp, fun k y h => by simp at h⟩
  · simp only [List.cons.injEq, and_true] at hcs
    unfold maxLen at hm
    have hz' : l ≤ ss.length := by rw [hz]; split <;> omega
    have hlt : (ss.take l).length = l := by simp; omega
    refine ⟨some a, cp, ss.take l, by rw [hcs, hlt], by omega, fun k s hk => ?_⟩
    have hkl : k < l := by have := (List.getElem?_eq_some_iff.1 hk).1; omega
    rw [List.getElem?_take, if_pos hkl] at hk
    have c0 := hcell 0 (by omega)
    have ck := hcell k (by omega)
    obtain ⟨b, off, spot⟩ := a
    have hspot : spot = none := by
      have := World.cell?_spot c0
      simpa [Addr.add] using this
    subst hspot
    rw [Addr.add_lit] at ck
    have hg : ss.getD k ByteArray.empty = s := by rw [List.getD_eq_getElem?_getD, hk]; rfl
    rw [hg] at ck
    exact ⟨b, off, rfl, World.block_lt_of_cell? _ _ ck, ck⟩
end

set_option maxRecDepth 100000 in
theorem views_lifted (os : Os) (started : os.Started) (H : Type) (enc : TypeId × Value → H) :
    ReturnsInHanded {} Try.checked os 5 .any (Rows.policyViewsSpec.pre6 enc Try.prog Try.f5 Rows.policyViewsRow.domain false) (Rows.policyViewsSpec.post enc Try.prog Try.f5 false true false false) := by
  refine returnsInHanded_of_change (C := Try.checked) own started (by kernel_rfl) Try.func5
    (ChangeSpec.witness6 (enc := enc) (C := Try.checked) false ⟨#[], #[.agg #[.string ByteArray.empty, .int .i64 0], .slice none 0 0, .slice none 0 0], []⟩ 8 (by kernel_rfl) (by kernel_rfl) (by kernel_rfl) (by kernel_rfl)) ?_
  intro W base args ds gs before hval0 hW hcnd _
  have hval : ∀ (j : Nat) t v, Try.f5.params[j]? = some t → args[j]? = some v → Value.okWide Try.prog W .any base t v := hval0
  have hW' := hW
  obtain ⟨p, q, hA0, hV, rfl, hfz, hnd⟩ := hW
  have hA : DataW.TrodAll enc Try.prog W 0 (fun _ => true) true Try.f5.params.toList args.toList ds p := hA0
  rw [Try.params5] at hA hval
  obtain ⟨v0, vs0, d0, ds0, p0, q0, hargs, rfl, rfl, h0, r0⟩ := trodAll_cons hA
  obtain ⟨v1, vs1, d1, ds1, p1, q1, rfl, rfl, rfl, h1, r1⟩ := trodAll_cons r0
  obtain ⟨v2, vs2, d2, ds2, p2, q2, rfl, rfl, rfl, h2, r2⟩ := trodAll_cons r1
  obtain ⟨rfl, rfl, rfl⟩ := trodAll_nil r2
  obtain rfl : args = #[v0, v1, v2] := by cases args; simp_all
  obtain ⟨rfl, rfl⟩ := trodVars_none hV
  have k0 := h0; have k1 := h1; have k2 := h2
  have lt0 : ∀ x ∈ p0, x.block < W.heap.size := by obtain ⟨m, hm⟩ := k0; exact DataW.trod_lt m _ _ _ hm
  have lt1 : ∀ x ∈ p1, x.block < W.heap.size := by obtain ⟨m, hm⟩ := k1; exact DataW.trod_lt m _ _ _ hm
  have lt2 : ∀ x ∈ p2, x.block < W.heap.size := by obtain ⟨m, hm⟩ := k2; exact DataW.trod_lt m _ _ _ hm
  obtain ⟨net, nb, rfl⟩ : ∃ net nb, v0 = .agg #[.string net, .int .i64 nb] := by
    obtain ⟨c0, c1, y0, y1, m, rfl, _, _, hy0, hy1⟩ := Joins.open_agg2 Try.underlying39 (by kernel_rfl) (by kernel_rfl) (hval 0 39 v0 rfl rfl) h0
    obtain ⟨s, e0, _⟩ := DataW.trod_string Try.underlying9 hy0
    obtain ⟨q, e1, _, wq⟩ := DataW.trod_int Try.underlying3 hy1
    simp only [List.cons.injEq, and_true] at e0 e1
    exact ⟨s, q, by rw [e0, e1]⟩
  obtain ⟨a1, n1, c1, rfl⟩ := okWide_slice Try.underlying40 (hval 1 40 v1 rfl rfl)
  obtain ⟨a2, n2, c2, rfl⟩ := okWide_slice Try.underlying41 (hval 2 41 v2 rfl rfl)
  obtain ⟨fuel1, hf1⟩ := h1
  obtain ⟨fuel2, hf2⟩ := h2
  obtain ⟨A, c, vs, e1, hn, hvs⟩ := open_views (v := .slice a1 n1 c1) hf1
  obtain ⟨A2, c', ss, e2, hm, hss⟩ := open_texts (v := .slice a2 n2 c2) hf2
  clear hA0 hval0
  have walk : Calls Try.prog 5 #[.agg #[.string net, .int .i64 nb], .slice a1 n1 c1, .slice a2 n2 c2] W fun e w' => e = .returned (.bool true) ∧ Below W.heap.size W w' := by
    rw [e1, e2]
    exact views_any net nb vs ss A A2 c c' W hn hm hvs hss
  refine walk.mono fun e W' ⟨he, bel⟩ => ?_
  subst he
  exact ⟨_, rfl, _, _, _, [], _, [], hW', trodAll_mk1 (shut_bool Try.underlying4 _), (trodAll_cons_mk (Below.trod laidOut (by kernel_rfl) (of_decide_eq_true (by kernel_rfl)) k0 bel lt0) (trodAll_cons_mk (Below.trod laidOut (by kernel_rfl) (of_decide_eq_true (by kernel_rfl)) k1 bel lt1) (trodAll_cons_mk (Below.trod laidOut (by kernel_rfl) (of_decide_eq_true (by kernel_rfl)) k2 bel lt2) trodAll_mk0))), rfl, bel.frame _, fun h => by cases h⟩

theorem policyViews_holds : Rows.PolicyViewsSaid :=
  OpenClaim.holds_of_wide 5 Try.f5 rfl rfl rfl rfl rfl rfl rfl ⟨rfl, rfl, rfl, rfl, rfl⟩ rfl rfl rfl rfl rfl (by kernel_rfl) Try.func5 (by kernel_rfl)
    (of_decide_eq_true (by kernel_rfl)) (by unfold Func.isWrapper; first | (rw [if_pos (by decide +kernel)]; kernel_rfl) | (rw [if_neg (by decide +kernel)]; exact ⟨rfl, rfl⟩))
    (fun os started H enc _ => views_lifted os started H enc)
#print axioms policyViews_holds
end Go.Proofs.Ytnbdlaedbbcnjaa

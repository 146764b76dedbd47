/-
  name.labels, as an iterator: its contract.
-/
import Derived.Test.YtnloommafgnanaaGreatChecked
import Derived.Test.YtnloommafgnanaaGreatQMarks
import Derived.Test.YtnloommafgnanaaGreatQMem
import Derived.RangeFuncNested
import Derived.RangeFuncBound
import Derived.RangeFuncCalls
import Derived.RangeFuncLeaves
import Derived.RangeFuncBox
import Derived.Shelf.Abstract
import Derived.Shelf.RegionOpen
import Derived.OwnWalkIn
import Derived.TacticsInMore
import Derived.LoopNIn
import Derived.LoopIn
import Derived.Outline
import Derived.WalkSpells
namespace Go.Proofs.YtnloommafgnanaaGreat
open Go.RowKit Go.Shelf
attribute [local go_sem] Oper.semAt_some

/-- labels(n): the text is boxed; the function value captures the box. -/
theorem labels_in (F : Fence) (n : Nat) (h5 : F.fn 50) (hro : F.round = none) (s : ByteArray) (w : World) :
    CallsIn F n Tryz.prog 50 #[.string s] w fun e w' => e = .returned (.func (.func 64) #[] #[.pointer (some ⟨w.heap.size, 0, none⟩)]) ∧ w' = w.alloc (.cells #[.string s] 9) := by
  refine callsIn_of_wp Tryz.func50 rfl h5 ?_ hro
  simp only [Tryz.ntmps50, List.size_toArray, List.length_cons, List.length_nil, Nat.reduceAdd, Nat.reduceSub, Array.replicate_succ, Array.replicate_zero, List.push_toArray, List.append_toArray, List.nil_append, List.cons_append]
  gi_wp2
  go_ret
  exact ⟨rfl, rfl⟩

theorem cell_new_l (W : World) (v : Value) (t : TypeId) : (W.alloc (.cells #[v] t)).cell? ⟨W.heap.size, 0, none⟩ = some v ∧ (W.alloc (.cells #[v] t)).frozen? ⟨W.heap.size, 0, none⟩ = false :=
  ⟨by rw [heap_cell (heap_new_at rfl)]; rfl, heap_frozen (heap_new_at rfl) _⟩
theorem cell_alloc_l {W : World} {a : Addr} {v : Value} (o : Obj) (h : W.cell? a = some v) : (W.alloc o).cell? a = some v := cell_kept h (World.grownBy_alloc W o none) (fun _ e => by cases e)
theorem frozen_alloc_l {W : World} {a : Addr} {v : Value} (o : Obj) (h : W.cell? a = some v) (hf : W.frozen? a = false) : (W.alloc o).frozen? a = false := (frozen_kept h (World.grownBy_alloc W o none) (fun _ e => by cases e)).trans hf

/-- What a round must leave alone: one block. -/
def KeepsBox (b : Nat) (W W' : World) : Prop := W'.heap[b]? = W.heap[b]?
theorem KeepsBox.refl (b : Nat) (W : World) : KeepsBox b W W := rfl
theorem KeepsBox.cell {b : Nat} {W W' : World} (h : KeepsBox b W W') (i : Nat) : W'.cell? ⟨b, i, none⟩ = W.cell? ⟨b, i, none⟩ := World.cell?_of_block (w := W) (a := ⟨b, i, none⟩) h
theorem KeepsBox.setCell {b : Nat} {W W' : World} (h : KeepsBox b W W') {a : Addr} (hne : b ≠ a.block) (u : Value) : KeepsBox b W (W'.setCell a u) := (Below.heap_setCell _ _ _ _ hne).trans h
theorem KeepsBox.alloc {b : Nat} {W W' : World} (h : KeepsBox b W W') (hb : b < W'.heap.size) (o : Obj) : KeepsBox b W (W'.alloc o) := (Below.heap_alloc _ _ _ hb).trans h
theorem KeepsBox.below {b B : Nat} {W W' : World} (h : Below B W W') (hb : b < B) : KeepsBox b W W' := h.block b hb
theorem keepsBox_t {b : Nat} : ∀ {A B C : World}, KeepsBox b A B → KeepsBox b B C → KeepsBox b A C := fun h1 h2 => h2.trans h1
theorem keepsBox_b {b B : Nat} (hb : b < B) : ∀ (W : World) (l : Nat) (o o' : Obj), B ≤ l → W.heap[l]? = some o → o.isCells = false → o.isWalk = false → KeepsBox b W (W.putObj l o') :=
  fun W l o o' hl _ _ _ => by unfold KeepsBox; exact World.putObj_heap_other (by omega)

/-- What the rounds are handed. -/
abbrev markV (p : Nat × ByteArray) : Array Value := #[.int .i64 (p.1 : Int), .string p.2]

set_option maxRecDepth 100000 in
set_option maxHeartbeats 2000000 in
theorem labels1_in (F : Fence) (n : Nat) (h7 : F.fn 64) (hro : F.round = none) (hn : 1 ≤ n) (l Bs : Nat) (s : ByteArray) (hs : s.size ≤ 140737488355328) (J Jx : List (Nat × ByteArray) → World → Prop)
    (hY : ∀ pre x W, x ∈ nm.marks s → J pre W → pre.length < (nm.marks s).length → YieldAt F (n - 1) Tryz.prog l #[.int .i64 (x.1 : Int), .string x.2] W fun e W' =>
      (e = .returned (.bool true) ∧ J (pre ++ [x]) W' ∧ KeepsBox Bs W W') ∨ (e = .returned (.bool false) ∧ Jx (pre ++ [x]) W'))
    (W : World) (hBs : W.cell? ⟨Bs, 0, none⟩ = some (.string s)) (h0 : J [] W) :
    CallsIn F n Tryz.prog 64 #[.func (.yield l) #[] #[], .pointer (some ⟨Bs, 0, none⟩)] W fun e W' => (∃ v, e = .returned v) ∧
      ((∃ ys, ys = nm.marks s ∧ J ys W') ∨ (∃ pre, pre <+: nm.marks s ∧ Jx pre W')) := by
  refine callsIn_of_wp Tryz.func64 rfl h7 ?_ hro
  simp only [Tryz.ntmps64, List.size_toArray, List.length_cons, List.length_nil, Nat.reduceAdd, Nat.reduceSub, Array.replicate_succ, Array.replicate_zero, List.push_toArray, List.append_toArray, List.nil_append, List.cons_append]
  gi_wp2
  gi_loopw [3, 4] (fun i _ wr => ∃ (k f : Nat) (pre : List (Nat × ByteArray)), k ≤ s.size ∧ s.size < k + f ∧ i = .int .i64 k ∧ nm.marks s = pre ++ nm.walk s f k ∧ J pre wr ∧ wr.cell? ⟨Bs, 0, none⟩ = some (.string s))
    (fun i _ _ => s.size - (intOf i).toNat)
  case atStart => exact ⟨0, s.size + 1, [], Nat.zero_le _, by omega, rfl, rfl, h0, hBs⟩
  case round =>
    obtain ⟨k, f, pre, hk, hf, rfl, hm, hJ, hbx⟩ := hrel
    have HM := Lib.hid hm; have HF := Lib.hid hf
    clear hm hBs hf
    by_cases hlt : k < s.size
    · have hsz := nm.sizeAt_eq hlt
      have h256 : (s[k].toNat : Int) < 256 := by have := UInt8.toNat_lt s[k]; omega
      by_cases h63 : 63 < nm.sizeAt s k
      · have hend : nm.marks s = pre := by rw [HM.out, nm.walk_stop (.inr (.inl h63)), List.append_nil]
        have HE := Lib.hid hend
        have q1 : 63 < (s[k].toNat : Int) := by omega
        have HSZ := Lib.hid hsz
        clear hend h63 hsz
        gi_wp2
        refine ⟨fun _ h => (by cases h), ?_⟩
        gi_wp2
        refine bodyPost_ret (results_none rfl _ _ _) rfl ?_
        exact ⟨⟨_, rfl⟩, .inl ⟨_, rfl, by rw [HE.out]; exact hJ⟩⟩
      · by_cases hlong : s.size < k + 1 + nm.sizeAt s k
        · have hend : nm.marks s = pre := by rw [HM.out, nm.walk_stop (.inr (.inr hlong)), List.append_nil]
          have HE := Lib.hid hend
          have q1 : (s[k].toNat : Int) ≤ 63 := by omega
          have q2 : (s.size : Int) < k + 1 + s[k].toNat := by omega
          have HSZ := Lib.hid hsz
          clear hend h63 hsz hlong
          gi_wp2
          refine ⟨fun _ h => (by cases h), ?_⟩
          gi_wp2
          refine bodyPost_ret (results_none rfl _ _ _) rfl ?_
          exact ⟨⟨_, rfl⟩, .inl ⟨_, rfl, by rw [HE.out]; exact hJ⟩⟩
        · obtain ⟨f', rfl⟩ : ∃ f', f = f' + 1 := ⟨f - 1, by have := HF.out; omega⟩
          have hw := nm.walk_at (f := f') hlt (by omega)
          have hm := HM.out
          rw [hw] at hm
          obtain ⟨fn, tmps, assign, body, hy, hR⟩ := hY pre (k, s.extract (k + 1) (k + 1 + nm.sizeAt s k)) wr (by rw [hm]; simp) hJ (by rw [hm]; simp)
          have q1 : (s[k].toNat : Int) ≤ 63 := by omega
          have q2 : (k : Int) + 1 + s[k].toNat ≤ s.size := by omega
          dsimp only at hy
          rw [hsz] at hy hR hm
          have HMM := Lib.hid hm
          have HSZ := Lib.hid hsz
          clear hm hw hsz hlong h63
          by_cases hz : s[k].toNat = 0
          · have b0 : ((s[k].toNat : Int) == 0) = true := by rw [beq_iff_eq]; omega
            have hm := HMM.out
            rw [if_pos hz] at hm
            have HM3 := Lib.hid hm
            clear hm hz
            gi_wp2
            refine hR.mono ?_
            rintro e W3 (⟨rfl, hJ3, hk3⟩ | ⟨rfl, hJx3⟩)
            · gi_wp2
              refine bodyPost_ret (results_none rfl _ _ _) rfl ?_
              exact ⟨⟨_, rfl⟩, .inl ⟨_, rfl, by rw [HM3.out]; exact hJ3⟩⟩
            · gi_wp2
              refine bodyPost_ret (results_none rfl _ _ _) rfl ?_
              exact ⟨⟨_, rfl⟩, .inr ⟨_, by rw [HM3.out]; exact List.prefix_refl _, hJx3⟩⟩
          · have b0 : ((s[k].toNat : Int) == 0) = false := by rw [beq_eq_false_iff_ne]; omega
            have hm := HMM.out
            rw [if_neg hz] at hm
            have HM3 := Lib.hid hm
            have hpos : 1 ≤ (s[k].toNat : Int) := by omega
            clear hm hz
            gi_wp2
            refine hR.mono ?_
            rintro e W3 (⟨rfl, hJ3, hk3⟩ | ⟨rfl, hJx3⟩)
            · have hB3 := (hk3.cell 0).trans hbx
              have HB3 := Lib.hid hB3
              clear hbx
              gi_wp2
              go_roundw
              case rel => exact ⟨k + 1 + s[k].toNat, f', _, by omega, by have := HF.out; omega, by go_num, by rw [HM3.out]; simp, hJ3, HB3.out⟩
              case measure => simp [intOf]; omega
            · gi_wp2
              refine bodyPost_ret (results_none rfl _ _ _) rfl ?_
              exact ⟨⟨_, rfl⟩, .inr ⟨_, by rw [HM3.out]; exact ⟨nm.walk s f' (k + 1 + s[k].toNat), by simp⟩, hJx3⟩⟩
    · have hend : nm.marks s = pre := by rw [HM.out, nm.walk_stop (.inl (by omega)), List.append_nil]
      have HE := Lib.hid hend
      clear hend
      gi_wp2
      go_end0
      exact ⟨⟨_, rfl⟩, .inl ⟨_, rfl, by rw [HE.out]; exact hJ⟩⟩

/-- labels(n) hands back a value that gives the marks of n, in order: all, or a prefix. -/
theorem labels_stops (F : Fence) (n : Nat) (h7 : F.fn 64) (hro : F.round = none) (hn : 1 ≤ n) (Bs : Nat) (s : ByteArray) (hs : s.size ≤ 140737488355328) (w : World) (hBs : Bs < w.heap.size)
    (hc : w.cell? ⟨Bs, 0, none⟩ = some (.string s)) :
    SeqStopsK F n Tryz.prog 64 #[.pointer (some ⟨Bs, 0, none⟩)] markV (KeepsBox Bs) (fun ys => ys = nm.marks s) (fun pre => pre <+: nm.marks s) (nm.marks s).length w := fun l J Jx W hW _ _ hY h0 =>
  labels1_in F n h7 hro hn l Bs s hs J Jx (fun pre x W _ => hY pre x W) W ((hW.cell (p := ⟨Bs, 0, none⟩) hBs).trans hc) h0

end Go.Proofs.YtnloommafgnanaaGreat

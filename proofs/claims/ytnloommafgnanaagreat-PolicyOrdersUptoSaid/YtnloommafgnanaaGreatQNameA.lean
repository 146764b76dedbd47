/-
  name.Check, Count, Labels, Tail over the iterator's contract.
-/
import Derived.Test.YtnloommafgnanaaGreatQNameIt
import Derived.Laws.IdiomStrings
import Derived.Deep.DeepCutAuto
namespace Go.Proofs.YtnloommafgnanaaGreat
open Go.RowKit Go.Shelf
attribute [local go_sem] Oper.semAt_some

/-- OK or ErrName. -/
def okV (b : Bool) : Value := .int .i64 (if b then 0 else 1)

set_option maxRecDepth 100000 in
set_option maxHeartbeats 2000000 in
theorem check_in (F : Fence) (n : Nat) (h4 : F.fn 38) (h6 : F.fn 50) (h8 : F.fn 64) (hro : F.round = none) (hn : 3 ≤ n) (s : ByteArray) (hs : s.size ≤ 255) (w : World) :
    CallsIn F n Tryz.prog 38 #[.string s] w fun e W' => e = .returned (okV (nm.checkB s)) ∧ Below w.heap.size w W' := by
  have h1 : 1 ≤ n := by omega
  have hd : decide (255 < (s.size : Int)) = false := decide_eq_false (by omega)
  refine callsIn_of_wp_marks Tryz.func38 rfl h4 ?_ hro
  simp only [Tryz.ntmps38, List.size_toArray, List.length_cons, List.length_nil, Nat.reduceAdd, Nat.reduceSub, Array.replicate_succ, Array.replicate_zero, List.push_toArray, List.append_toArray, List.nil_append, List.cons_append]
  gi_wp2_with (gi_at_call 50; refine (labels_in F (n - 1) h6 hro _ _).mono ?_; rintro e w' ⟨rfl, rfl⟩)
  have c0 := cell_new_l w (.string s) 9
  have c1 := cell_new_l (w.alloc (.cells #[.string s] 9)) (.int .i64 0) 26
  have c2 := cell_new_l ((w.alloc (.cells #[.string s] 9)).alloc (.cells #[.int .i64 0] 26)) (.string s) 9
  simp only [World.size_alloc] at c1 c2
  have hB0 : Below w.heap.size w (((w.alloc (.cells #[.string s] 9)).alloc (.cells #[.int .i64 0] 26)).alloc (.cells #[.string s] 9)) := (((Below.refl _ w).alloc (Nat.le_refl _) _).alloc (by simp) _).alloc (by simp; omega) _
  refine wpIn_rangeFunc_ownF hro h1 (gf := 64) (lb := #[.pointer (some ⟨w.heap.size + 1 + 1, 0, none⟩)]) rfl h8 (enters_of Tryz.func64 (by kernel_rfl) rfl)
    (labels_stops F (n - 1) h8 hro (by omega) (w.heap.size + 1 + 1) s (by omega) _ (by simp) c2.1) keepsBox_t (keepsBox_b (by simp)) (Below.refl _ _) (fun _ => rfl)
    (fun pre W => ((∀ p ∈ pre, nm.ends s p = false) ∧ W.cell? ⟨w.heap.size, 0, none⟩ = some (.string s) ∧ W.cell? ⟨w.heap.size + 1, 0, none⟩ = some (.int .i64 0) ∧ W.frozen? ⟨w.heap.size + 1, 0, none⟩ = false) ∧ Below w.heap.size w W)
    (fun c pre W => (c = .ret ∧ (∃ p ∈ pre, nm.ends s p = true) ∧ W.cell? ⟨w.heap.size + 1, 0, none⟩ = some (.int .i64 0)) ∧ Below w.heap.size w W)
    (OwnFrom.and (Own.from (fun s A B row hs hg hr => ⟨hs.1, cell_kept hs.2.1 hg hr, cell_kept hs.2.2.1 hg hr, (frozen_kept hs.2.2.1 hg hr).trans hs.2.2.2⟩) _) (ownFrom_below (Nat.le_refl _) (by simp; omega)))
    (fun c => OwnFrom.and (Own.from (fun s A B row hs hg hr => ⟨hs.1, hs.2.1, cell_kept hs.2.2 hg hr⟩) _) (ownFrom_below (Nat.le_refl _) (by simp; omega)))
    ⟨⟨by simp, cell_alloc_l _ (cell_alloc_l _ c0.1), cell_alloc_l _ c1.1, frozen_alloc_l _ c1.1 c1.2⟩, hB0⟩
    (fun x => { tmps := #[.string s, .pointer (some ⟨w.heap.size, 0, none⟩), .pointer (some ⟨w.heap.size + 1, 0, none⟩), .int .i64 (x.1 : Int), .string x.2, .string s, .int .i64 s.size, .bool false, .string s, .func (.func 64) #[] #[.pointer (some ⟨w.heap.size + 1 + 1, 0, none⟩)], .int .i64 (x.1 : Int), .string x.2, undef, undef, undef, undef, undef, undef, undef, undef, undef], defers := [] }) ?assign ?body ?done ?stop
  case assign =>
    intro l x W K hK
    dsimp only [markV]
    gi_wp2
    exact hK
  case body =>
    rintro l pre x W ⟨⟨hp, hcs, hcr, hfr⟩, hB⟩ _
    have HP := Lib.hid hp; have HB := Lib.hid hB
    clear hp hB
    by_cases hz : x.2.size = 0
    · have b0 := str_empty hz
      by_cases he : x.1 + 1 = s.size
      · have b1 : ((x.1 : Int) == (s.size : Int) - 1) = true := by rw [beq_iff_eq]; omega
        have hend : nm.ends s x = true := by simp [nm.ends, hz, he]
        have HE := Lib.hid hend
        clear hend hz he
        gi_wp2
        exact ⟨KeepsOthers.setCell _ _ _, ⟨rfl, ⟨x, by simp, HE.out⟩, World.cell?_setCell_same' _ _ _ (by rw [hcr]; rfl)⟩, HB.out.setCell (p := ⟨w.heap.size + 1, 0, none⟩) (by simp) _⟩
      · have b1 : ((x.1 : Int) == (s.size : Int) - 1) = false := by rw [beq_eq_false_iff_ne]; omega
        have hend : nm.ends s x = false := by simp [nm.ends, he]
        have HE := Lib.hid hend
        clear hend hz he
        gi_wp2
        exact ⟨KeepsOthers.refl _, KeepsBox.refl _ _, ⟨fun p hp' => (List.mem_append.1 hp').elim (HP.out p) (fun e => by simp at e; subst e; exact HE.out), hcs, hcr, hfr⟩, HB.out⟩
    · have b0 := str_some hz
      have hend : nm.ends s x = false := by simp [nm.ends, hz]
      have HE := Lib.hid hend
      clear hend hz
      gi_wp2
      exact ⟨KeepsOthers.refl _, KeepsBox.refl _ _, ⟨fun p hp' => (List.mem_append.1 hp').elim (HP.out p) (fun e => by simp at e; subst e; exact HE.out), hcs, hcr, hfr⟩, HB.out⟩
  case done =>
    rintro D ys W hD rfl ⟨⟨hne, _, hcr, hfr⟩, hB⟩ hK
    gi_wp2
    have hK' := (KeepsOthers.setCell W ⟨w.heap.size + 1, 0, none⟩ (.int .i64 1)).same D _ hK rfl
    refine ⟨by simp, .inl ⟨_, _, rfl, run_takeDeferred hK', ?_⟩⟩
    have hc5 := cell_kept (World.cell?_setCell_same' W ⟨w.heap.size + 1, 0, none⟩ (.int .i64 1) (by rw [hcr]; rfl)) (grownBy_putObj' _ D (.deferred none)) (fun r e => by cases e; exact ⟨_, hK', rfl⟩)
    have hcb : nm.checkB s = false := by
      cases h : nm.checkB s
      · rfl
      · simp only [nm.checkB, Bool.and_eq_true, List.any_eq_true] at h
        obtain ⟨_, p, hp, hp2⟩ := h
        rw [hne p hp] at hp2
        cases hp2
    refine ⟨.int .i64 1, ?_, by rw [hcb]; rfl, (hB.setCell (p := ⟨w.heap.size + 1, 0, none⟩) (by simp) _).trans (belowK_b (w := w) (Nat.le_refl _) _ D _ _ (by simp at hD; omega) hK' rfl rfl)⟩
    simp [results, Tryz.f38, go_sem, hc5]
  case stop =>
    rintro D c pre W hD hpre ⟨⟨rfl, ⟨p, hp, hp2⟩, hcr⟩, hB⟩ hK
    gi_wp2
    refine ⟨by simp, .inl ⟨_, _, rfl, run_takeDeferred hK, ?_⟩⟩
    have hc5 := cell_kept hcr (grownBy_putObj' _ D (.deferred none)) (fun r e => by cases e; exact ⟨_, hK, rfl⟩)
    have hcb : nm.checkB s = true := by
      simp only [nm.checkB, Bool.and_eq_true, List.any_eq_true, decide_eq_true_eq]
      exact ⟨hs, p, hpre.subset hp, hp2⟩
    refine ⟨.int .i64 0, ?_, by rw [hcb]; rfl, hB.trans (belowK_b (w := w) (Nat.le_refl _) W D _ _ (by simp at hD; omega) hK rfl rfl)⟩
    simp [results, Tryz.f38, go_sem, hc5]

set_option maxRecDepth 100000 in
theorem check_long_in (F : Fence) (n : Nat) (h4 : F.fn 38) (hro : F.round = none) (s : ByteArray) (hs : 255 < s.size) (w : World) :
    CallsIn F n Tryz.prog 38 #[.string s] w fun e W' => e = .returned (okV (nm.checkB s)) ∧ Below w.heap.size w W' := by
  have hd : decide (255 < (s.size : Int)) = true := decide_eq_true (by omega)
  have hcb : nm.checkB s = false := by simp [nm.checkB]; omega
  have HCB := Lib.hid hcb
  have hB0 : Below w.heap.size w ((w.alloc (.cells #[.string s] 9)).alloc (.cells #[.int .i64 1] 26)) := ((Below.refl _ w).alloc (Nat.le_refl _) _).alloc (by simp) _
  have HB0 := Lib.hid hB0
  clear hcb hB0
  refine callsIn_of_wp Tryz.func38 rfl h4 ?_ hro
  simp only [Tryz.ntmps38, List.size_toArray, List.length_cons, List.length_nil, Nat.reduceAdd, Nat.reduceSub, Array.replicate_succ, Array.replicate_zero, List.push_toArray, List.append_toArray, List.nil_append, List.cons_append]
  gi_wp2
  refine bodyPost_ret (v := .int .i64 1) (by simp [results, Tryz.f38, go_sem]) rfl ⟨by rw [HCB.out]; rfl, HB0.out⟩

theorem check_all (F : Fence) (n : Nat) (h4 : F.fn 38) (h6 : F.fn 50) (h8 : F.fn 64) (hro : F.round = none) (hn : 3 ≤ n) (s : ByteArray) (w : World) :
    CallsIn F n Tryz.prog 38 #[.string s] w fun e W' => e = .returned (okV (nm.checkB s)) ∧ Below w.heap.size w W' := by
  by_cases hs : s.size ≤ 255
  · exact check_in F n h4 h6 h8 hro hn s hs w
  · exact check_long_in F n h4 hro s (by omega) w

/-- name.Check. -/
theorem check_any (s : ByteArray) (w : World) : Calls Tryz.prog 38 #[.string s] w fun e W' => e = .returned (okV (nm.checkB s)) ∧ Below w.heap.size w W' := by
  refine (callsIn_wide (n := 3)).1 ?_
  exact check_all Fence.wide 3 trivial trivial trivial rfl (Nat.le_refl _) s w

theorem checkB_size {s : ByteArray} (h : nm.checkB s = true) : s.size ≤ 255 := by
  simp only [nm.checkB, Bool.and_eq_true, decide_eq_true_eq] at h
  exact h.1

end Go.Proofs.YtnloommafgnanaaGreat
/-
  name.Tail over the iterator's contract.
-/
namespace Go.Proofs.YtnloommafgnanaaGreat
open Go.RowKit Go.Shelf
attribute [local go_sem] Oper.semAt_some

end Go.Proofs.YtnloommafgnanaaGreat
/-
  name.lower and the document's Low.
-/
namespace Go.Proofs.YtnloommafgnanaaGreat
open Go.RowKit Go.Shelf

namespace nm
/-- The byte at a place. -/
def byteAt (s : ByteArray) (k : Nat) : UInt8 := s.data.toList[k]?.getD 0
/-- A small letter. -/
def lowB (c : UInt8) : UInt8 := if 65 ≤ c.toNat ∧ c.toNat ≤ 90 then UInt8.ofNat (c.toNat + 32) else c
/-- A text with small letters. -/
def lowS (s : ByteArray) : ByteArray := ⟨(s.data.toList.map lowB).toArray⟩
theorem lowB_yes {c : UInt8} (h1 : 65 ≤ c.toNat) (h2 : c.toNat ≤ 90) : ((lowB c).toNat : Int) = (c.toNat : Int) + 32 := by
  unfold lowB
  rw [if_pos ⟨h1, h2⟩, UInt8.toNat_ofNat']
  omega
theorem lowB_no {c : UInt8} (h : ¬ (65 ≤ c.toNat ∧ c.toNat ≤ 90)) : lowB c = c := by
  unfold lowB
  rw [if_neg h]
/-- The bytes when k of them are done. -/
def lowUp (s : ByteArray) (k j : Nat) : UInt8 := if j < k then lowB (byteAt s j) else byteAt s j
theorem lowUp_at (s : ByteArray) (k : Nat) : lowUp s (k + 1) k = lowB (byteAt s k) := by unfold lowUp; rw [if_pos (by omega)]
theorem lowUp_else (s : ByteArray) {k j : Nat} (h : j ≠ k) : lowUp s (k + 1) j = lowUp s k j := by
  unfold lowUp
  by_cases hj : j < k
  · rw [if_pos hj, if_pos (by omega)]
  · rw [if_neg hj, if_neg (by omega)]
theorem lowUp_same (s : ByteArray) {k : Nat} (h : lowB (byteAt s k) = byteAt s k) (j : Nat) : lowUp s k j = lowUp s (k + 1) j := by
  by_cases hj : j = k
  · subst hj
    rw [lowUp_at, h]
    unfold lowUp
    rw [if_neg (by omega)]
  · rw [lowUp_else s hj]
theorem lowUp_all (s : ByteArray) {j : Nat} (h : j < s.size) : lowUp s s.size j = lowB (byteAt s j) := by unfold lowUp; rw [if_pos h]
end nm

/-- '[]byte(s)', told by its cells. -/
theorem bytes_new {P : Program} (w : World) (src dst e : TypeId) (s : ByteArray) (hs : P.underlying src = some .string) (hd : P.underlying dst = some (.slice e)) (he : P.underlying e = some (.int .u8)) :
    ∃ (w1 : World) (cap : Nat), (convert src dst (.string s)).run P w = .ok (.slice (some ⟨w.heap.size, 0, none⟩) s.size cap) w1 ∧ w1.heap.size = w.heap.size + 1 ∧ Below w.heap.size w w1 ∧
      ∀ j, j < s.size → w1.cell? ⟨w.heap.size, j, none⟩ = some (.int .u8 ((nm.byteAt s j).toNat : Int)) ∧ w1.frozen? ⟨w.heap.size, j, none⟩ = false := by
  refine ⟨_, _, run_bytes_of_string w src dst e s hs hd he, by simp, ((Below.refl _ w).drew).alloc (by simp) _, fun j hj => ⟨?_, ?_⟩⟩
  · have := World.cell?_alloc_mark w.drew (bytesRow s (grownCap w s.size 0 e)) e ((bytesRow s (grownCap w s.size 0 e)).size, (bytesRow s (grownCap w s.size 0 e)).size + 1) j
    refine Eq.trans (by simpa using this) ?_
    unfold bytesRow nm.byteAt
    rw [Array.getElem?_append_left (by simpa using hj)]
    have hj' : j < s.data.size := hj
    simp [Array.getElem?_eq_getElem hj']
  · have := World.frozen?_alloc_mark w.drew (bytesRow s (grownCap w s.size 0 e)) e (bytesRow s (grownCap w s.size 0 e)).size ((bytesRow s (grownCap w s.size 0 e)).size + 1) j
    refine Eq.trans (by simpa using this) ?_
    have hj' : j < s.data.size := hj
    have : ¬ (bytesRow s (grownCap w s.size 0 e)).size ≤ j := by unfold bytesRow; simp; omega
    simp [this]

/-- 'string(b)' of the small letters. -/
theorem bytes_back {P : Program} (W : World) (src dst e : TypeId) (b cap : Nat) (s : ByteArray) (hs : P.underlying src = some (.slice e)) (he : P.underlying e = some (.int .u8)) (hd : P.underlying dst = some .string)
    (hrow : ∀ j, j < s.size → W.cell? ⟨b, j, none⟩ = some (.int .u8 ((nm.lowUp s s.size j).toNat : Int)) ∧ W.frozen? ⟨b, j, none⟩ = false) :
    (convert src dst (.slice (some ⟨b, 0, none⟩) s.size cap)).run P W = .ok (.string (nm.lowS s)) W := by
  have hb := run_convert_bytes_back (P := P) W src dst e ⟨b, 0, none⟩ cap (s.data.toList.map nm.lowB) hs he hd (fun j hj => by
    have hj' : j < s.size := by simpa using hj
    have h1 := (hrow j hj').1
    rw [nm.lowUp_all s hj'] at h1
    have h2 : (s.data.toList.map nm.lowB)[j] = nm.lowB (nm.byteAt s j) := by
      rw [List.getElem_map]
      unfold nm.byteAt
      rw [List.getElem?_eq_getElem (by simpa using hj')]; rfl
    rw [h2]
    unfold Addr.add
    split
    · rename_i h0
      have h0' : j = 0 := by simpa using h0
      subst h0'
      exact h1
    · simpa using h1)
  rw [show (s.data.toList.map nm.lowB).length = s.size by simp] at hb
  exact hb

set_option maxRecDepth 100000 in
set_option maxHeartbeats 1000000 in
theorem lower_any (s : ByteArray) (hs : s.size ≤ 140737488355328) (w : World) : Calls Tryz.prog 52 #[.string s] w fun e W' => e = .returned (.string (nm.lowS s)) ∧ Below w.heap.size w W' := by
  obtain ⟨w1, cap, hcv, hsz, hB, hc⟩ := bytes_new (P := Tryz.prog) w 9 85 5 s Tryz.underlying9 Tryz.underlying85 Tryz.underlying5
  have HB := Lib.hid hB
  clear hB
  go_enter Tryz.func52, Tryz.ntmps52
  go_wp2
  go_loopw [10, 4, 5] (fun i _ _ wr => ∃ k : Nat, k ≤ s.size ∧ i = .int .i64 k ∧ (∀ j, j < s.size → wr.cell? ⟨w.heap.size, j, none⟩ = some (.int .u8 ((nm.lowUp s k j).toNat : Int)) ∧ wr.frozen? ⟨w.heap.size, j, none⟩ = false) ∧ Below w.heap.size w wr) (fun i _ _ _ => s.size - (intOf i).toNat)
  case atStart => exact ⟨0, by omega, rfl, fun j hj => by unfold nm.lowUp; rw [if_neg (by omega)]; exact hc j hj, HB.out⟩
  case round =>
    obtain ⟨k, hk, rfl, hrow, hfr⟩ := hrel
    have HFR := Lib.hid hfr
    clear hfr hc hcv
    by_cases hlt : k < s.size
    · have hlt' : (k : Int) < s.size := by omega
      obtain ⟨hk1, hk2⟩ := hrow k hlt
      have hup : nm.lowUp s k k = nm.byteAt s k := by unfold nm.lowUp; rw [if_neg (by omega)]
      rw [hup] at hk1
      have HUP := Lib.hid hup
      clear hup
      obtain ⟨c, hcc⟩ : ∃ c, c = nm.byteAt s k := ⟨_, rfl⟩
      rw [← hcc] at hk1
      have HCC := Lib.hid hcc
      clear hcc
      have hc8 : (c.toNat : Int) < 256 := by have := UInt8.toNat_lt c; omega
      have hc0 : (0 : Int) ≤ c.toNat := by omega
      by_cases ha : 65 ≤ c.toNat
      · by_cases hz : c.toNat ≤ 90
        · have ha' : (65 : Int) ≤ c.toNat := by omega
          have hz' : (c.toNat : Int) ≤ 90 := by omega
          have HROW := Lib.hid hrow
          clear hrow
          go_wp2
          refine ⟨⟨k + 1, by omega, by go_num, fun j hj => ⟨?_, ?_⟩, HFR.out.setCell (p := ⟨w.heap.size, k, none⟩) (Nat.le_refl _) _⟩, by simp only [intOf]; omega⟩
          · by_cases hjk : j = k
            · subst hjk
              rw [World.cell?_setCell_same' _ _ _ (by rw [hk1]; rfl), nm.lowUp_at, ← HCC.out, nm.lowB_yes ha hz]
            · rw [nm.lowUp_else s hjk]
              exact (World.cell?_setCell_other _ _ _ _ (by simp)).trans (HROW.out j hj).1
          · rw [World.frozen?_setCell]; exact (HROW.out j hj).2
        · have ha' : (65 : Int) ≤ c.toNat := by omega
          have hz' : (90 : Int) < c.toNat := by omega
          have HROW := Lib.hid hrow
          clear hrow
          go_wp2
          refine ⟨⟨k + 1, by omega, by go_num, fun j hj => ⟨?_, (HROW.out j hj).2⟩, HFR.out⟩, by simp only [intOf]; omega⟩
          rw [← nm.lowUp_same s (by rw [← HCC.out]; exact nm.lowB_no (by omega)) j]
          exact (HROW.out j hj).1
      · have ha' : (c.toNat : Int) < 65 := by omega
        have HROW := Lib.hid hrow
        clear hrow
        go_wp2
        refine ⟨⟨k + 1, by omega, by go_num, fun j hj => ⟨?_, (HROW.out j hj).2⟩, HFR.out⟩, by simp only [intOf]; omega⟩
        rw [← nm.lowUp_same s (by rw [← HCC.out]; exact nm.lowB_no (by omega)) j]
        exact (HROW.out j hj).1
    · have hke : k = s.size := by omega
      subst hke
      have hb := bytes_back (P := Tryz.prog) wr 85 9 5 w.heap.size cap s Tryz.underlying85 Tryz.underlying5 Tryz.underlying9 hrow
      have HROW := Lib.hid hrow
      clear hrow
      go_wp2
      go_ret
      exact ⟨rfl, HFR.out⟩
set_option maxRecDepth 100000 in
set_option maxHeartbeats 1000000 in
theorem rlow_any (s : ByteArray) (hs : s.size ≤ 140737488355328) (w : World) : Calls Tryz.prog 36 #[.string s] w fun e W' => e = .returned (.string (nm.lowS s)) ∧ Below w.heap.size w W' := by
  obtain ⟨w1, cap, hcv, hsz, hB, hc⟩ := bytes_new (P := Tryz.prog) w 9 85 5 s Tryz.underlying9 Tryz.underlying85 Tryz.underlying5
  have HB := Lib.hid hB
  clear hB
  go_enter Tryz.func36, Tryz.ntmps36
  go_wp2
  go_loopw [9, 4] (fun i _ wr => ∃ k : Nat, k ≤ s.size ∧ i = .int .i64 k ∧ (∀ j, j < s.size → wr.cell? ⟨w.heap.size, j, none⟩ = some (.int .u8 ((nm.lowUp s k j).toNat : Int)) ∧ wr.frozen? ⟨w.heap.size, j, none⟩ = false) ∧ Below w.heap.size w wr) (fun i _ _ => s.size - (intOf i).toNat)
  case atStart => exact ⟨0, by omega, rfl, fun j hj => by unfold nm.lowUp; rw [if_neg (by omega)]; exact hc j hj, HB.out⟩
  case round =>
    obtain ⟨k, hk, rfl, hrow, hfr⟩ := hrel
    have HFR := Lib.hid hfr
    clear hfr hc hcv
    by_cases hlt : k < s.size
    · have hlt' : (k : Int) < s.size := by omega
      obtain ⟨hk1, hk2⟩ := hrow k hlt
      have hup : nm.lowUp s k k = nm.byteAt s k := by unfold nm.lowUp; rw [if_neg (by omega)]
      rw [hup] at hk1
      have HUP := Lib.hid hup
      clear hup
      obtain ⟨c, hcc⟩ : ∃ c, c = nm.byteAt s k := ⟨_, rfl⟩
      rw [← hcc] at hk1
      have HCC := Lib.hid hcc
      clear hcc
      have hc8 : (c.toNat : Int) < 256 := by have := UInt8.toNat_lt c; omega
      have hc0 : (0 : Int) ≤ c.toNat := by omega
      by_cases ha : 65 ≤ c.toNat
      · by_cases hz : c.toNat ≤ 90
        · have ha' : (65 : Int) ≤ c.toNat := by omega
          have hz' : (c.toNat : Int) ≤ 90 := by omega
          have HROW := Lib.hid hrow
          clear hrow
          go_wp2
          refine ⟨⟨k + 1, by omega, by go_num, fun j hj => ⟨?_, ?_⟩, HFR.out.setCell (p := ⟨w.heap.size, k, none⟩) (Nat.le_refl _) _⟩, by simp only [intOf]; omega⟩
          · by_cases hjk : j = k
            · subst hjk
              rw [World.cell?_setCell_same' _ _ _ (by rw [hk1]; rfl), nm.lowUp_at, ← HCC.out, nm.lowB_yes ha hz]
            · rw [nm.lowUp_else s hjk]
              exact (World.cell?_setCell_other _ _ _ _ (by simp)).trans (HROW.out j hj).1
          · rw [World.frozen?_setCell]; exact (HROW.out j hj).2
        · have ha' : (65 : Int) ≤ c.toNat := by omega
          have hz' : (90 : Int) < c.toNat := by omega
          have HROW := Lib.hid hrow
          clear hrow
          go_wp2
          refine ⟨⟨k + 1, by omega, by go_num, fun j hj => ⟨?_, (HROW.out j hj).2⟩, HFR.out⟩, by simp only [intOf]; omega⟩
          rw [← nm.lowUp_same s (by rw [← HCC.out]; exact nm.lowB_no (by omega)) j]
          exact (HROW.out j hj).1
      · have ha' : (c.toNat : Int) < 65 := by omega
        have HROW := Lib.hid hrow
        clear hrow
        go_wp2
        refine ⟨⟨k + 1, by omega, by go_num, fun j hj => ⟨?_, (HROW.out j hj).2⟩, HFR.out⟩, by simp only [intOf]; omega⟩
        rw [← nm.lowUp_same s (by rw [← HCC.out]; exact nm.lowB_no (by omega)) j]
        exact (HROW.out j hj).1
    · have hke : k = s.size := by omega
      subst hke
      have hb := bytes_back (P := Tryz.prog) wr 85 9 5 w.heap.size cap s Tryz.underlying85 Tryz.underlying5 Tryz.underlying9 hrow
      have HROW := Lib.hid hrow
      clear hrow
      go_wp2
      go_ret
      exact ⟨rfl, HFR.out⟩
end Go.Proofs.YtnloommafgnanaaGreat
/-
  name.Fold, Equal, Parent, Within, Star.
-/
namespace Go.Proofs.YtnloommafgnanaaGreat
open Go.RowKit Go.Shelf
namespace nm
def foldS (s : ByteArray) : ByteArray := if checkB s = true then lowS s else ByteArray.empty
def equalB (a b : ByteArray) : Bool := checkB a && checkB b && ((lowS a).toList == (lowS b).toList)
def withinB (s z : ByteArray) : Bool := decide (0 ≤ countI z) && equalB (tailS s (countI z)) z
end nm
theorem okV_t : okV true = .int .i64 0 := rfl
theorem okV_f : okV false = .int .i64 1 := rfl

theorem fold_any (s : ByteArray) (w : World) : Calls Tryz.prog 54 #[.string s] w fun e W' => e = .returned (.string (nm.foldS s)) ∧ Below w.heap.size w W' := by
  cases hc : nm.checkB s
  · have HC := Lib.hid hc
    clear hc
    go_enter Tryz.func54, Tryz.ntmps54
    go_wp2_with (first | (go_at_call 38; refine (check_any _ _).mono ?_; rintro e w1 ⟨rfl, hB1⟩; rw [HC.out, okV_f]))
    go_ret
    refine ⟨?_, hB1⟩
    unfold nm.foldS
    rw [HC.out]
    rfl
  · have hs := checkB_size hc
    have HC := Lib.hid hc
    clear hc
    go_enter Tryz.func54, Tryz.ntmps54
    go_wp2_with (first | (go_at_call 38; refine (check_any _ _).mono ?_; rintro e w1 ⟨rfl, hB1⟩; rw [HC.out, okV_t]) | (go_at_call 52; refine (lower_any _ (by omega) _).mono ?_; rintro e w2 ⟨rfl, hB2⟩))
    go_ret
    refine ⟨?_, hB1.trans (hB2.mono hB1.size)⟩
    unfold nm.foldS
    rw [HC.out]
    rfl

/-- name.Equal. -/
theorem equal_any (a b : ByteArray) (w : World) : Calls Tryz.prog 40 #[.string a, .string b] w fun e W' => e = .returned (.bool (nm.equalB a b)) ∧ Below w.heap.size w W' := by
  cases ha : nm.checkB a
  · have HA := Lib.hid ha
    clear ha
    go_enter Tryz.func40, Tryz.ntmps40
    go_wp2_with (first | (go_at_call 38; refine (check_any _ _).mono ?_; rintro e w1 ⟨rfl, hB1⟩; rw [HA.out, okV_f]))
    go_ret
    refine ⟨?_, hB1⟩
    unfold nm.equalB
    rw [HA.out]
    rfl
  · cases hb : nm.checkB b
    · have HA := Lib.hid ha; have HB := Lib.hid hb
      clear ha hb
      go_enter Tryz.func40, Tryz.ntmps40
      go_wp2_with (first | (go_at_call 38; refine (check_any _ _).mono ?_; first | (rintro e w1 ⟨rfl, hB1⟩; rw [HA.out, okV_t]) | (rintro e w2 ⟨rfl, hB2⟩; rw [HB.out, okV_f])))
      go_ret
      refine ⟨?_, hB1.trans (hB2.mono hB1.size)⟩
      unfold nm.equalB
      rw [HA.out, HB.out]
      rfl
    · have hsa := checkB_size ha
      have hsb := checkB_size hb
      have HA := Lib.hid ha; have HB := Lib.hid hb
      clear ha hb
      go_enter Tryz.func40, Tryz.ntmps40
      go_wp2_with (first | (go_at_call 38; refine (check_any _ _).mono ?_; first | (rintro e w1 ⟨rfl, hB1⟩; rw [HA.out, okV_t]) | (rintro e w2 ⟨rfl, hB2⟩; rw [HB.out, okV_t])) | (go_at_call 52; refine (lower_any _ (by omega) _).mono ?_; rintro e w3 ⟨rfl, hB3⟩))
      go_ret
      rename_i w3a hB3a
      refine ⟨?_, ((hB1.trans (hB2.mono hB1.size)).trans (hB3a.mono (by have := hB1.size; have := hB2.size; omega))).trans (hB3.mono (by have := hB1.size; have := hB2.size; have := hB3a.size; omega))⟩
      unfold nm.equalB
      rw [HA.out, HB.out]
      rfl

namespace nm
def starHead : ByteArray := ⟨#[1, 42]⟩
end nm
end Go.Proofs.YtnloommafgnanaaGreat

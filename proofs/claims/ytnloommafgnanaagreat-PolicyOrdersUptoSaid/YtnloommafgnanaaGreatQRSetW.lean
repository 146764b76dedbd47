/-
  Sets, as the reference tells them.
-/
import Derived.Test.YtnloommafgnanaaGreatQOrdB
import Derived.Test.YtnloommafgnanaaGreatQRefU
import Derived.Test.YtnloommafgnanaaGreatQRefP
import Derived.Test.YtnloommafgnanaaGreatQRefC
import Derived.Deep.QuietTactic
namespace Go.Proofs.YtnloommafgnanaaGreat
open Go.RowKit Go.Shelf Go.Proofs.YtnloommafgnanaaGreat.nm Go.Proofs.YtnloommafgnanaaGreat.od

namespace rs
/-- A record that a zone may have. -/
def zonalB (x : Rec) : Bool := checkB x.owner && decide (x.cls = 1) && decide (0 ≤ x.ttl) && decide (x.ttl ≤ 2147483647) && decide (dt.chkI x.typ x.data = 0)
def headT (l : List Rec) : Int := (l.head?.map (·.typ)).getD 0
def okB (l : List Rec) (x : Rec) : Bool := zonalB x && decide (x.typ ≠ 46) && decide (x.typ = headT l) && equalB x.owner (po.headO l)
/-- What the reference calls a set. -/
def IsP (l : List Rec) : Prop := 0 < l.length ∧ ∀ k (hk : k < l.length), okB l l[k] = true ∧ ∀ i (hi : i < k), dt.foldD (l[k]).typ (l[k]).data ≠ dt.foldD (l[k]).typ (l[i]'(by omega)).data
theorem fds_iff (t : Int) : ∀ (l : List Rec) (acc : List ByteArray), (po.fds t l acc).length = acc.length + l.length ↔ (l.map fun x => dt.foldD t x.data).Nodup ∧ ∀ x ∈ l, dt.foldD t x.data ∉ acc
  | [], acc => by simp [po.fds]
  | x :: l, acc => by
    have h1 := po.fds_le t l (insK acc (dt.foldD t x.data))
    have h2 := po.ins_len acc (dt.foldD t x.data)
    have ih := fds_iff t l (insK acc (dt.foldD t x.data))
    simp only [po.fds, List.length_cons, List.map_cons, List.nodup_cons, List.mem_map, not_exists, not_and]
    by_cases hm : dt.foldD t x.data ∈ acc
    · rw [if_pos hm] at h2
      constructor
      · intro h; omega
      · intro h; exact absurd hm (h.2 x (List.mem_cons_self ..))
    · rw [if_neg hm] at h2
      constructor
      · intro h
        obtain ⟨h3, h4⟩ := ih.1 (by omega)
        refine ⟨⟨fun y hy he => h4 y hy (zn.mem_insK.2 (.inr he)), h3⟩, fun y hy => ?_⟩
        rcases List.mem_cons.1 hy with rfl | hy
        · exact hm
        · exact fun he => h4 y hy (zn.mem_insK.2 (.inl he))
      · rintro ⟨⟨h3, h4⟩, h5⟩
        have := ih.2 ⟨h4, fun y hy he => by
          rcases zn.mem_insK.1 he with h | h
          · exact h5 y (List.mem_cons_of_mem _ hy) h
          · exact h3 y hy h⟩
        omega
theorem ok_good {l : List Rec} {x : Rec} {t : Int} (ht : headT l = t) (h46 : t ≠ 46) : okB l x = po.goodS t (po.headO l) x := by
  unfold okB zonalB po.goodS
  rw [ht]
  by_cases h : x.typ = t
  · subst h
    simp [h46]
  · simp [h]
/-- The reference's sets of a type are the sets of that type. -/
theorem set_iff {l : List Rec} {t : Int} (h46 : t ≠ 46) : (IsP l ∧ headT l = t) ↔ po.setB t l = true := by
  have hf := fds_iff t l []
  simp only [List.length_nil, Nat.zero_add, List.not_mem_nil, not_false_eq_true, implies_true, and_true] at hf
  unfold po.setB
  simp only [Bool.and_eq_true, List.all_eq_true, decide_eq_true_eq]
  rw [hf]
  constructor
  · rintro ⟨⟨h0, h1⟩, ht⟩
    have hg : ∀ x ∈ l, po.goodS t (po.headO l) x = true := fun x hx => by
      obtain ⟨k, hk, rfl⟩ := List.getElem_of_mem hx
      rw [← ok_good ht h46]
      exact (h1 k hk).1
    have hty : ∀ x ∈ l, x.typ = t := fun x hx => by
      have := hg x hx
      unfold po.goodS at this
      simp only [Bool.and_eq_true, decide_eq_true_eq] at this
      exact this.1.1.2
    refine ⟨⟨hg, h0⟩, ?_⟩
    rw [List.nodup_iff_pairwise_ne, List.pairwise_map, List.pairwise_iff_getElem]
    intro i j hi hj hij he
    have := (h1 j hj).2 i hij
    rw [hty _ (List.getElem_mem hj)] at this
    exact this he.symm
  · rintro ⟨⟨hg, h0⟩, hnd⟩
    have hty : ∀ x ∈ l, x.typ = t := fun x hx => by
      have := hg x hx
      unfold po.goodS at this
      simp only [Bool.and_eq_true, decide_eq_true_eq] at this
      exact this.1.1.2
    have ht : headT l = t := by
      unfold headT
      cases l with
      | nil => simp at h0
      | cons y r => exact hty y (List.mem_cons_self ..)
    refine ⟨⟨h0, fun k hk => ⟨by rw [ok_good ht h46]; exact hg _ (List.getElem_mem hk), fun i hi he => ?_⟩⟩, ht⟩
    rw [hty _ (List.getElem_mem hk)] at he
    rw [List.nodup_iff_pairwise_ne, List.pairwise_map, List.pairwise_iff_getElem] at hnd
    exact hnd i k (by omega) hk hi he.symm
end rs
end Go.Proofs.YtnloommafgnanaaGreat

/-
  The reference's sets: the walks.
-/
namespace Go.Proofs.YtnloommafgnanaaGreat
open Go.RowKit Go.Shelf Go.Proofs.YtnloommafgnanaaGreat.nm Go.Proofs.YtnloommafgnanaaGreat.od

theorem recAt_below {w w' : World} {b off : Nat} {r : Rec} (h : RecAt w b off r) (hB : Below w.heap.size w w') (hb : b < w.heap.size) : RecAt w' b off r :=
  ⟨(hB.cell (p := ⟨b, off, none⟩) hb).trans h.1, (hB.cell (p := ⟨b, off + 1, none⟩) hb).trans h.2.1, (hB.cell (p := ⟨b, off + 2, none⟩) hb).trans h.2.2.1, (hB.cell (p := ⟨b, off + 3, none⟩) hb).trans h.2.2.2.1, (hB.cell (p := ⟨b, off + 4, none⟩) hb).trans h.2.2.2.2⟩
set_option maxRecDepth 100000 in
set_option maxHeartbeats 8000000 in
theorem rzonal_any (x : Rec) (ho : x.owner.size ≤ 1099511627776) (w : World) :
    Calls Tryz.prog 59 #[recV x] w fun e w' => e = .returned (.bool (rs.zonalB x)) ∧ Below w.heap.size w w' := by
  obtain ⟨zb, hzb⟩ : ∃ zb, zb = rs.zonalB x := ⟨_, rfl⟩
  rw [← hzb]
  have HZB := Lib.hid hzb
  obtain ⟨w1, hw1⟩ : ∃ X, X = w.alloc (.cells (recC x).toArray 42) := ⟨_, rfl⟩
  obtain ⟨hB1, hs1, hx1⟩ := rec_new w w1 x hw1
  obtain ⟨x0, x1, x2, x3, x4⟩ := hx1
  obtain ⟨xb, hxb⟩ : ∃ xb, xb = w.heap.size := ⟨_, rfl⟩
  rw [← hxb] at x0 x1 x2 x3 x4
  have hxl : xb < w1.heap.size := by omega
  have HX := Lib.hid (show RecAt w1 xb 0 x from ⟨x0, x1, x2, x3, x4⟩)
  have HB1 := Lib.hid hB1; have HW1 := Lib.hid hw1; have HXB := Lib.hid hxb; have HXL := Lib.hid hxl
  clear hzb hw1 hB1 hs1 hxb hxl x1 x2 x3 x4
  go_enter Tryz.func59, Tryz.ntmps59
  go_upto_region 1 with fail
  rw [← HW1.out, ← HXB.out]
  go_wp2_with fail
  refine (risname_any x.owner ho w1).mono ?_
  rintro e w2 ⟨rfl, hB2⟩
  obtain ⟨y0, y1, y2, y3, y4⟩ := recAt_below HX.out hB2 HXL.out
  have HB2 := Lib.hid (HB1.out.trans (hB2.mono HB1.out.size))
  clear hB2 x0 y0
  by_cases k1 : checkB x.owner = true
  · rw [k1]
    by_cases k2 : x.cls = 1
    · have f2 : (x.cls == 1) = true := by rw [beq_iff_eq]; exact k2
      by_cases k3 : 0 ≤ x.ttl
      · have f3 : decide (0 ≤ x.ttl) = true := decide_eq_true k3
        by_cases k4 : x.ttl ≤ 2147483647
        · have f4 : decide (x.ttl ≤ 2147483647) = true := decide_eq_true k4
          have HK2 := Lib.hid k2
          clear k2
          go_wp2_with fail
          refine (rcheck_any x.typ x.data w2).mono ?_
          rintro e w3 ⟨rfl, hB3⟩
          have HB3 := Lib.hid (HB2.out.trans (hB3.mono HB2.out.size))
          clear hB3 y1 y2 y3 y4
          by_cases k5 : dt.chkI x.typ x.data = 0
          · have f5 : (dt.chkI x.typ x.data == 0) = true := by rw [beq_iff_eq]; exact k5
            have HK5 := Lib.hid k5
            clear k5
            go_wp2_with fail
            go_ret
            exact ⟨ret_b (by rw [HZB.out]; unfold rs.zonalB; simp [k1,HK2.out,k3,k4,HK5.out]), HB3.out⟩
          · have f5 : (dt.chkI x.typ x.data == 0) = false := by rw [beq_eq_false_iff_ne]; exact k5
            go_wp2_with fail
            go_ret
            exact ⟨ret_b (by rw [HZB.out]; unfold rs.zonalB; simp [k5]), HB3.out⟩
        · have f4 : decide (x.ttl ≤ 2147483647) = false := decide_eq_false k4
          have KK := Lib.hid k4
          go_wp2_with fail
          go_ret
          exact ⟨ret_b (by rw [HZB.out]; unfold rs.zonalB; rw [decide_eq_false (show ¬ x.ttl ≤ 2147483647 by have := KK.out; omega)]; simp), HB2.out⟩
      · have f3 : decide (0 ≤ x.ttl) = false := decide_eq_false k3
        have KK := Lib.hid k3
        go_wp2_with fail
        go_ret
        exact ⟨ret_b (by rw [HZB.out]; unfold rs.zonalB; rw [decide_eq_false (show ¬ 0 ≤ x.ttl by have := KK.out; omega)]; simp), HB2.out⟩
    · have f2 : (x.cls == 1) = false := by rw [beq_eq_false_iff_ne]; exact k2
      go_wp2_with fail
      go_ret
      exact ⟨ret_b (by rw [HZB.out]; unfold rs.zonalB; simp [k2]), HB2.out⟩
  · have k1' : checkB x.owner = false := by simpa using k1
    rw [k1']
    go_wp2_with fail
    go_ret
    exact ⟨ret_b (by rw [HZB.out]; unfold rs.zonalB; simp [k1']), HB2.out⟩
end Go.Proofs.YtnloommafgnanaaGreat

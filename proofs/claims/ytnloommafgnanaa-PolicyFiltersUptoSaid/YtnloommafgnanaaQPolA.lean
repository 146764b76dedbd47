/-
  Rules in memory; policy.right and gazetteerref11.right.
-/
import Derived.Test.YtnloommafgnanaaQPolP
import Derived.Test.YtnloommafgnanaaQDataS
import Derived.Test.YtnloommafgnanaaQRefP
namespace Go.Proofs.Ytnloommafgnanaa
open Go.RowKit Go.Shelf Go.Proofs.Ytnloommafgnanaa.nm Go.Proofs.Ytnloommafgnanaa.od

@[reducible] def rulC (r : Rul) : List Value := [.string r.name, .bool r.below, .int .i64 r.kind, .int .i64 r.typ, .int .i64 r.ttl, .string r.data]
@[reducible] def rulV (r : Rul) : Value := .agg #[.string r.name, .bool r.below, .int .i64 r.kind, .int .i64 r.typ, .int .i64 r.ttl, .string r.data]
def RulAt (w : World) (b off : Nat) (r : Rul) : Prop :=
  w.cell? ⟨b, off, none⟩ = some (.string r.name) ∧ w.cell? ⟨b, off + 1, none⟩ = some (.bool r.below) ∧ w.cell? ⟨b, off + 2, none⟩ = some (.int .i64 r.kind) ∧
  w.cell? ⟨b, off + 3, none⟩ = some (.int .i64 r.typ) ∧ w.cell? ⟨b, off + 4, none⟩ = some (.int .i64 r.ttl) ∧ w.cell? ⟨b, off + 5, none⟩ = some (.string r.data)
/-- A slice of rules reads as l. -/
def RulsAt (w : World) (v : Value) (l : List Rul) : Prop :=
  ∃ a cap, v = .slice a l.length cap ∧ l.length ≤ cap ∧ ∀ k (hk : k < l.length), ∃ b off, a = some ⟨b, off, none⟩ ∧ b < w.heap.size ∧ RulAt w b (off + k * 6) l[k]
theorem RulAt.keep {w w' : World} {b off : Nat} {r : Rul} (h : RulAt w b off r) (hk : w'.heap[b]? = w.heap[b]?) : RulAt w' b off r := by
  have e : ∀ i, w'.cell? ⟨b, i, none⟩ = w.cell? ⟨b, i, none⟩ := fun i => World.cell?_of_block (w := w) (a := ⟨b, i, none⟩) hk
  exact ⟨(e _).trans h.1, (e _).trans h.2.1, (e _).trans h.2.2.1, (e _).trans h.2.2.2.1, (e _).trans h.2.2.2.2.1, (e _).trans h.2.2.2.2.2⟩
theorem RulsAt.below {w w' : World} {v : Value} {l : List Rul} (h : RulsAt w v l) (hb : Below w.heap.size w w') : RulsAt w' v l := by
  obtain ⟨a, cap, hv, hc, hr⟩ := h
  refine ⟨a, cap, hv, hc, fun k hk => ?_⟩
  obtain ⟨b, off, ha, hbl, hra⟩ := hr k hk
  exact ⟨b, off, ha, Nat.lt_of_lt_of_le hbl hb.size, hra.keep (hb.block b hbl)⟩
/-- A rule in a block of its own. -/
def RulB (w : World) (b : Nat) (r : Rul) : Prop :=
  w.cell? ⟨b, 0, none⟩ = some (.string r.name) ∧ w.cell? ⟨b, 1, none⟩ = some (.bool r.below) ∧ w.cell? ⟨b, 2, none⟩ = some (.int .i64 r.kind) ∧
  w.cell? ⟨b, 3, none⟩ = some (.int .i64 r.typ) ∧ w.cell? ⟨b, 4, none⟩ = some (.int .i64 r.ttl) ∧ w.cell? ⟨b, 5, none⟩ = some (.string r.data)
theorem RulB.below {w w' : World} {b : Nat} {r : Rul} (h : RulB w b r) (hl : b < w.heap.size) (hb : Below w.heap.size w w') : RulB w' b r := by
  have e : ∀ i, w'.cell? ⟨b, i, none⟩ = w.cell? ⟨b, i, none⟩ := fun i => World.cell?_of_block (w := w) (a := ⟨b, i, none⟩) (hb.block b hl)
  exact ⟨(e _).trans h.1, (e _).trans h.2.1, (e _).trans h.2.2.1, (e _).trans h.2.2.2.1, (e _).trans h.2.2.2.2.1, (e _).trans h.2.2.2.2.2⟩
theorem rul_new (w w1 : World) (r : Rul) (h : w1 = w.alloc (.cells (rulC r).toArray 51)) : Below w.heap.size w w1 ∧ w1.heap.size = w.heap.size + 1 ∧ RulB w1 w.heap.size r := by
  subst h
  refine ⟨(Below.refl _ w).alloc (Nat.le_refl _) _, by simp, ?_, ?_, ?_, ?_, ?_, ?_⟩ <;> (rw [heap_cell (heap_new_at rfl)]; rfl)

theorem pf.right_name {r : Rul} (h : checkB r.name = false) : pf.rightB r = false := by simp [pf.rightB, h]
theorem pf.right_lo {r : Rul} (h : r.kind < 0) : pf.rightB r = false := by simp [pf.rightB, show ¬ 0 ≤ r.kind by omega]
theorem pf.right_hi {r : Rul} (h : 4 < r.kind) : pf.rightB r = false := by simp [pf.rightB, show ¬ r.kind ≤ 4 by omega]
theorem pf.right_plain {r : Rul} (h : checkB r.name = true) (h1 : 0 ≤ r.kind) (h2 : r.kind ≤ 4) (h3 : r.kind ≠ 4) : pf.rightB r = true := by simp [pf.rightB, h, h1, h2, h3]
theorem pf.right_data {r : Rul} (h : r.kind = 4) (h3 : dt.chkI r.typ r.data ≠ 0) : pf.rightB r = false := by simp [pf.rightB, h, h3]
theorem pf.right_ttl0 {r : Rul} (h : r.kind = 4) (h3 : r.ttl < 0) : pf.rightB r = false := by simp [pf.rightB, h, show ¬ 0 ≤ r.ttl by omega]
theorem pf.right_ttl1 {r : Rul} (h : r.kind = 4) (h3 : 2147483647 < r.ttl) : pf.rightB r = false := by simp [pf.rightB, h, show ¬ r.ttl ≤ 2147483647 by omega]
theorem pf.right_say {r : Rul} (h : checkB r.name = true) (h1 : r.kind = 4) (h2 : dt.chkI r.typ r.data = 0) (h3 : 0 ≤ r.ttl) (h4 : r.ttl ≤ 2147483647) : pf.rightB r = true := by simp [pf.rightB, h, h1, h2, h3, h4]

set_option maxRecDepth 100000 in
set_option maxHeartbeats 4000000 in
theorem right_any (r : Rul) (w : World) : Calls Try.prog 19 #[rulV r] w fun e w' => e = .returned (.bool (pf.rightB r)) ∧ Below w.heap.size w w' := by
  obtain ⟨w1, hw1⟩ : ∃ X, X = w.alloc (.cells (rulC r).toArray 51) := ⟨_, rfl⟩
  obtain ⟨hB1, hs1, hx1⟩ := rul_new w w1 r hw1
  have hlt1 : w.heap.size < w1.heap.size := by omega
  have HS1 := Lib.hid hs1
  clear hs1
  obtain ⟨p0, p1, p2, p3, p4, p5⟩ := id hx1
  have HW1 := Lib.hid hw1; have HB1 := Lib.hid hB1; have HX1 := Lib.hid hx1
  clear hw1 hB1 hx1
  go_enter Try.func19, Try.ntmps19
  go_upto_region 1 with fail
  rw [← HW1.out]
  go_wp2_with fail
  refine (check_any _ _).mono ?_
  rintro e w2 ⟨rfl, hB2⟩
  have HX2 := Lib.hid (HX1.out.below hlt1 hB2)
  have HB2 := Lib.hid (HB1.out.trans (hB2.mono HB1.out.size))
  have hlt2 : w.heap.size < w2.heap.size := Nat.lt_of_lt_of_le hlt1 hB2.size
  clear hB2 p0 p1 p2 p3 p4 p5
  obtain ⟨p0, p1, p2, p3, p4, p5⟩ := id HX2.out
  cases hc : checkB r.name
  · have hr := pf.right_name hc
    rw [okV_f]
    clear hc
    have HR := Lib.hid hr
    clear hr
    go_wp2_with fail
    go_ret
    exact ⟨ret_b HR.out.symm, HB2.out⟩
  · rw [okV_t]
    by_cases k0 : r.kind < 0
    · have d0 : decide (r.kind < 0) = true := decide_eq_true k0
      have hr := pf.right_lo k0
      clear hc
      have HR := Lib.hid hr
      clear hr
      go_wp2_with fail
      go_ret
      exact ⟨ret_b HR.out.symm, HB2.out⟩
    · have d0 : decide (r.kind < 0) = false := decide_eq_false k0
      by_cases k4 : 4 < r.kind
      · have d1 : decide (4 < r.kind) = true := decide_eq_true k4
        have hr := pf.right_hi k4
        clear hc
        have HR := Lib.hid hr
        clear hr
        go_wp2_with fail
        go_ret
        exact ⟨ret_b HR.out.symm, HB2.out⟩
      · have d1 : decide (4 < r.kind) = false := decide_eq_false k4
        by_cases k5 : r.kind = 4
        · have d2 : (r.kind != 4) = false := by rw [bne_eq_false_iff_eq]; exact k5
          have HC := Lib.hid hc; have K5 := Lib.hid k5
          clear hc k5
          clear k0 k4
          go_wp2_with fail
          refine (dcheck_any _ _ _).mono ?_
          rintro e w3 ⟨rfl, hB3⟩
          have HX3 := Lib.hid (HX2.out.below hlt2 hB3)
          have HB3 := Lib.hid (HB2.out.trans (hB3.mono HB2.out.size))
          clear hB3 p0 p1 p2 p3 p4 p5
          obtain ⟨p0, p1, p2, p3, p4, p5⟩ := id HX3.out
          by_cases t0 : dt.chkI r.typ r.data = 0
          · have e0 : (dt.chkI r.typ r.data == 0) = true := by rw [beq_iff_eq]; exact t0
            by_cases l0 : 0 ≤ r.ttl
            · have f0 : decide (0 ≤ r.ttl) = true := decide_eq_true l0
              by_cases l1 : r.ttl ≤ 2147483647
              · have f1 : decide (r.ttl ≤ 2147483647) = true := decide_eq_true l1
                have hr := pf.right_say HC.out K5.out t0 l0 l1
                have T0 := Lib.hid t0
                clear t0
                have HR := Lib.hid hr
                clear hr
                go_wp2_with fail
                go_ret
                exact ⟨ret_b HR.out.symm, HB3.out⟩
              · have f1 : decide (r.ttl ≤ 2147483647) = false := decide_eq_false l1
                have hr := pf.right_ttl1 K5.out (show 2147483647 < r.ttl by omega)
                have T0 := Lib.hid t0
                clear t0
                have HR := Lib.hid hr
                clear hr
                go_wp2_with fail
                go_ret
                exact ⟨ret_b HR.out.symm, HB3.out⟩
            · have f0 : decide (0 ≤ r.ttl) = false := decide_eq_false l0
              have hr := pf.right_ttl0 K5.out (show r.ttl < 0 by omega)
              have T0 := Lib.hid t0
              clear t0
              have HR := Lib.hid hr
              clear hr
              go_wp2_with fail
              go_ret
              exact ⟨ret_b HR.out.symm, HB3.out⟩
          · have e0 : (dt.chkI r.typ r.data == 0) = false := by rw [beq_eq_false_iff_ne]; exact t0
            have hr := pf.right_data K5.out t0
            have T0 := Lib.hid t0
            clear t0
            have HR := Lib.hid hr
            clear hr
            go_wp2_with fail
            go_ret
            exact ⟨ret_b HR.out.symm, HB3.out⟩
        · have d2 : (r.kind != 4) = true := by rw [bne_iff_ne]; exact k5
          have hr := pf.right_plain hc (by omega) (by omega) k5
          have HC := Lib.hid hc; have K5 := Lib.hid k5
          clear hc k5
          have HR := Lib.hid hr
          clear hr
          go_wp2_with fail
          go_ret
          exact ⟨ret_b HR.out.symm, HB2.out⟩

set_option maxRecDepth 100000 in
set_option maxHeartbeats 4000000 in
theorem rright_any (r : Rul) (hn : r.name.size ≤ 1099511627776) (w : World) : Calls Try.prog 22 #[rulV r] w fun e w' => e = .returned (.bool (pf.rightB r)) ∧ Below w.heap.size w w' := by
  obtain ⟨w1, hw1⟩ : ∃ X, X = w.alloc (.cells (rulC r).toArray 51) := ⟨_, rfl⟩
  obtain ⟨hB1, hs1, hx1⟩ := rul_new w w1 r hw1
  have hlt1 : w.heap.size < w1.heap.size := by omega
  have HS1 := Lib.hid hs1
  clear hs1
  obtain ⟨p0, p1, p2, p3, p4, p5⟩ := id hx1
  have HW1 := Lib.hid hw1; have HB1 := Lib.hid hB1; have HX1 := Lib.hid hx1
  clear hw1 hB1 hx1
  go_enter Try.func22, Try.ntmps22
  go_upto_region 1 with fail
  rw [← HW1.out]
  go_wp2_with fail
  refine (risname_any _ hn _).mono ?_
  rintro e w2 ⟨rfl, hB2⟩
  have HX2 := Lib.hid (HX1.out.below hlt1 hB2)
  have HB2 := Lib.hid (HB1.out.trans (hB2.mono HB1.out.size))
  have hlt2 : w.heap.size < w2.heap.size := Nat.lt_of_lt_of_le hlt1 hB2.size
  clear hB2 p0 p1 p2 p3 p4 p5
  obtain ⟨p0, p1, p2, p3, p4, p5⟩ := id HX2.out
  cases hc : checkB r.name
  · have hr := pf.right_name hc
    clear hc
    by_cases k5 : r.kind = 4
    · have d2 : (r.kind == 4) = true := by rw [beq_iff_eq]; exact k5
      clear k5
      have HR := Lib.hid hr
      clear hr
      go_wp2_with fail
      go_ret
      exact ⟨ret_b HR.out.symm, HB2.out⟩
    · have d2 : (r.kind == 4) = false := by rw [beq_eq_false_iff_ne]; exact k5
      clear k5
      have HR := Lib.hid hr
      clear hr
      go_wp2_with fail
      go_ret
      exact ⟨ret_b HR.out.symm, HB2.out⟩
  · by_cases k0 : r.kind < 0
    · have d0 : decide (0 ≤ r.kind) = false := decide_eq_false (by omega)
      have d2 : (r.kind == 4) = false := by rw [beq_eq_false_iff_ne]; omega
      have hr := pf.right_lo k0
      clear hc
      have HR := Lib.hid hr
      clear hr
      go_wp2_with fail
      go_ret
      exact ⟨ret_b HR.out.symm, HB2.out⟩
    · have d0 : decide (0 ≤ r.kind) = true := decide_eq_true (by omega)
      by_cases k4 : 4 < r.kind
      · have d1 : decide (r.kind ≤ 4) = false := decide_eq_false (by omega)
        have d2 : (r.kind == 4) = false := by rw [beq_eq_false_iff_ne]; omega
        have hr := pf.right_hi k4
        clear hc
        have HR := Lib.hid hr
        clear hr
        go_wp2_with fail
        go_ret
        exact ⟨ret_b HR.out.symm, HB2.out⟩
      · have d1 : decide (r.kind ≤ 4) = true := decide_eq_true (by omega)
        by_cases k5 : r.kind = 4
        · have d2 : (r.kind == 4) = true := by rw [beq_iff_eq]; exact k5
          have HC := Lib.hid hc; have K5 := Lib.hid k5
          clear hc k5
          clear k0 k4
          go_wp2_with fail
          refine (rcheck_any _ _ _).mono ?_
          rintro e w3 ⟨rfl, hB3⟩
          have HX3 := Lib.hid (HX2.out.below hlt2 hB3)
          have HB3 := Lib.hid (HB2.out.trans (hB3.mono HB2.out.size))
          clear hB3 p0 p1 p2 p3 p4 p5
          obtain ⟨p0, p1, p2, p3, p4, p5⟩ := id HX3.out
          by_cases t0 : dt.chkI r.typ r.data = 0
          · have e0 : (dt.chkI r.typ r.data == 0) = true := by rw [beq_iff_eq]; exact t0
            by_cases l0 : 0 ≤ r.ttl
            · have f0 : decide (0 ≤ r.ttl) = true := decide_eq_true l0
              by_cases l1 : r.ttl ≤ 2147483647
              · have f1 : decide (r.ttl ≤ 2147483647) = true := decide_eq_true l1
                have hr := pf.right_say HC.out K5.out t0 l0 l1
                have T0 := Lib.hid t0
                clear t0
                have HR := Lib.hid hr
                clear hr
                go_wp2_with fail
                go_ret
                exact ⟨ret_b HR.out.symm, HB3.out⟩
              · have f1 : decide (r.ttl ≤ 2147483647) = false := decide_eq_false l1
                have hr := pf.right_ttl1 K5.out (show 2147483647 < r.ttl by omega)
                have T0 := Lib.hid t0
                clear t0
                have HR := Lib.hid hr
                clear hr
                go_wp2_with fail
                go_ret
                exact ⟨ret_b HR.out.symm, HB3.out⟩
            · have f0 : decide (0 ≤ r.ttl) = false := decide_eq_false l0
              have hr := pf.right_ttl0 K5.out (show r.ttl < 0 by omega)
              have T0 := Lib.hid t0
              clear t0
              have HR := Lib.hid hr
              clear hr
              go_wp2_with fail
              go_ret
              exact ⟨ret_b HR.out.symm, HB3.out⟩
          · have e0 : (dt.chkI r.typ r.data == 0) = false := by rw [beq_eq_false_iff_ne]; exact t0
            have hr := pf.right_data K5.out t0
            have T0 := Lib.hid t0
            clear t0
            have HR := Lib.hid hr
            clear hr
            go_wp2_with fail
            go_ret
            exact ⟨ret_b HR.out.symm, HB3.out⟩
        · have d2 : (r.kind == 4) = false := by rw [beq_eq_false_iff_ne]; exact k5
          have hr := pf.right_plain hc (by omega) (by omega) k5
          have HC := Lib.hid hc; have K5 := Lib.hid k5
          clear hc k5
          have HR := Lib.hid hr
          clear hr
          go_wp2_with fail
          go_ret
          exact ⟨ret_b HR.out.symm, HB2.out⟩
end Go.Proofs.Ytnloommafgnanaa

/-
  zone.Lint: the cut above a name, what is hidden, a record's target.
-/
import Derived.Test.YtpjoaghnciomeaaGreatZoneV
import Derived.Test.YtpjoaghnciomeaaGreatSerial
import Derived.Test.YtpjoaghnciomeaaGreatDataN
namespace Go.Proofs.YtpjoaghnciomeaaGreat
open Go.RowKit Go.Shelf Go.WideMaps Go.Proofs.YtpjoaghnciomeaaGreat.nm Go.Proofs.YtpjoaghnciomeaaGreat.od

namespace zn
/-- The topmost name at which another zone begins, as far as one has come. -/
def cutTo (c : Nat) (L : List Rec) (n : ByteArray) (m : Nat) : Option ByteArray :=
  (List.range m).findSome? fun j => if rowsS L (foldS (tailS n ((c + (j + 1) : Nat) : Int)), 2) ≠ [] then some (tailS n ((c + (j + 1) : Nat) : Int)) else none
def cutR (apex : ByteArray) (L : List Rec) (n : ByteArray) : Option ByteArray := cutTo (countI apex).toNat L n ((countI n).toNat - (countI apex).toNat)
theorem cutTo_next (c : Nat) (L : List Rec) (n : ByteArray) (m : Nat) : cutTo c L n (m + 1) = (cutTo c L n m).or (if rowsS L (foldS (tailS n ((c + (m + 1) : Nat) : Int)), 2) ≠ [] then some (tailS n ((c + (m + 1) : Nat) : Int)) else none) := by
  unfold cutTo
  rw [List.range_succ, List.findSome?_append]
  congr 1
  rw [List.findSome?_cons, List.findSome?_nil]
  by_cases h : rowsS L (foldS (tailS n ((c + (m + 1) : Nat) : Int)), 2) ≠ []
  · rw [if_pos h]
  · rw [if_neg h]
theorem cutTo_hit {c : Nat} {L : List Rec} {n s : ByteArray} {j : Nat} (h : cutTo c L n j = none) (hs : rowsS L (foldS s, 2) ≠ []) (e : tailS n ((c + (j + 1) : Nat) : Int) = s) : ∀ d, cutTo c L n (j + 1 + d) = some s
  | 0 => by rw [Nat.add_zero, cutTo_next, h, e, if_pos hs]; rfl
  | d + 1 => by rw [show j + 1 + (d + 1) = (j + 1 + d) + 1 by omega, cutTo_next, cutTo_hit h hs e d]; rfl
theorem cutTo_miss {c : Nat} {L : List Rec} {n s : ByteArray} {j : Nat} (h : cutTo c L n j = none) (hs : rowsS L (foldS s, 2) = []) (e : tailS n ((c + (j + 1) : Nat) : Int) = s) : cutTo c L n (j + 1) = none := by
  rw [cutTo_next, h, e, if_neg (fun h => h hs)]; rfl
/-- Does nobody find it? -/
def hiddenR (apex : ByteArray) (L : List Rec) (r : Rec) : Bool := match cutR apex L r.owner with
  | none => false
  | some c => !(signsB r || decide (r.typ = 1) || decide (r.typ = 28)) && (!equalB c r.owner || !([2, 43, 47, 46] : List Int).contains r.typ)
/-- What is unwise of a record's target. -/
def targetR (apex : ByteArray) (L : List Rec) (ty : Int) (n : ByteArray) : Int :=
  if withinB n apex = false ∨ rowsS L (foldS n, 1) ≠ [] ∨ rowsS L (foldS n, 28) ≠ [] then 0
  else if (findR apex L n 1).kind = 1 ∨ (findR apex L n 28).kind = 1 then 0
  else if (findR apex L n 1).kind = 2 then 2
  else if (findR apex L n 1).kind = 4 ∧ ty ≠ 2 ∨ n = ⟨#[0]⟩ ∧ ty ≠ 2 then 0 else 3
end zn

set_option maxRecDepth 100000 in
set_option maxHeartbeats 2000000 in
theorem cut_any (top z : Nat) (apex : ByteArray) (L : List Rec) (n : ByteArray) (hn : withinB n apex = true) (w : World) (hz : ZoneF w top z apex L) :
    Calls Tryz.prog 108 #[.pointer (some ⟨z, 0, none⟩), .string n] w fun e w' => e = .returned (.string ((zn.cutR apex L n).getD ByteArray.empty)) ∧ Below w.heap.size w w' := by
  obtain ⟨x, a, hx⟩ := zn.ask_in hn
  have hle := hx.le
  have hxl : x.length ≤ 255 := by have h := countI_le n; rw [count_of hx.q] at h; omega
  have hca : countI apex = (a.length : Int) := count_of hx.apex
  have hcn : countI n = (x.length : Int) := count_of hx.q
  obtain ⟨base, rg, cap, sb, tb, l0, _, hzc, _⟩ := hz.v.parts
  have z0 : w.cell? ⟨z, 0, none⟩ = some (.string apex) := by rw [heap_cell hzc]; rfl
  have hr : zn.cutR apex L n = zn.cutTo a.length L n (x.length - a.length) := by unfold zn.cutR; rw [hca, hcn, Int.toNat_natCast, Int.toNat_natCast]
  rw [hr]
  have HX := Lib.hid hx; have HCA := Lib.hid hca; have HCN := Lib.hid hcn; have HZ := Lib.hid hz
  clear hx hca hcn hzc hz hr hn
  go_enter Tryz.func108, Tryz.ntmps108
  go_wp2_with fail
  refine (count_any _ _).mono ?_
  rintro e w1 ⟨rfl, hB1⟩
  rw [HCA.out]
  have HB1 := Lib.hid hB1
  clear hB1 z0
  go_wp2_with fail
  go_loopw [5, 6] (fun kv _ wr => ∃ j : Nat, j ≤ x.length - a.length ∧ kv = .int .i64 ((a.length : Int) + 1 + (j : Int)) ∧ zn.cutTo a.length L n j = none ∧ Below w.heap.size w wr) (fun kv _ _ => x.length + 1 - (intOf kv).toNat)
  case atStart => exact ⟨0, Nat.zero_le _, by simp, rfl, HB1.out⟩
  case round =>
    obtain ⟨j, hj, rfl, hno, hB⟩ := hrel
    have HNO := Lib.hid hno; have HB := Lib.hid hB
    have hsr := hB.size
    clear hno hB
    go_wp2_with fail
    refine (count_any _ _).mono ?_
    rintro e w2 ⟨rfl, hB2⟩
    rw [HCN.out]
    have HB2 := Lib.hid (HB.out.trans (hB2.mono hsr))
    have hs2 := HB2.out.size
    clear hB2
    by_cases hlt : a.length + 1 + j ≤ x.length
    · have hlt' : (a.length : Int) + 1 + (j : Int) ≤ (x.length : Int) := by omega
      go_wp2_with fail
      refine (tail_any _ _ _).mono ?_
      rintro e w3 ⟨rfl, hB3⟩
      obtain ⟨s, hs⟩ : ∃ s, s = tailS n ((a.length : Int) + 1 + (j : Int)) := ⟨_, rfl⟩
      rw [← hs]
      have hsk : tailS n ((a.length + (j + 1) : Nat) : Int) = s := by rw [hs]; congr 1; omega
      have HSK := Lib.hid hsk; have HB3 := Lib.hid (HB2.out.trans (hB3.mono hs2))
      have hs3 := HB3.out.size
      clear hB3 hs hsk
      go_wp2_with fail
      refine (at_type top z apex L HZ.out.small s 2 rfl (by decide) _ (HZ.out.kept HB3.out).v).mono ?_
      rintro e w4 ⟨v4, rfl, hB4, hown4⟩
      obtain ⟨a4, cap4, rfl, _⟩ := ownsRow_len hown4
      obtain ⟨m, hm⟩ : ∃ m, m = (zn.rowsS L (foldS s, 2)).length := ⟨_, rfl⟩
      have hmL : m ≤ 2000 := by rw [hm]; exact Nat.le_trans (rowsS_len L _) HZ.out.small
      rw [← hm]
      have HB4 := Lib.hid (HB3.out.trans (hB4.mono hs3)); have HM := Lib.hid hm
      clear hB4 hown4 hm
      by_cases h0 : 0 < m
      · have h0' : (0 : Int) < (m : Int) := by omega
        have hr := zn.cutTo_hit HNO.out (show zn.rowsS L (foldS s, 2) ≠ [] from List.length_pos_iff.1 (by rw [← HM.out]; exact h0)) HSK.out (x.length - a.length - (j + 1))
        rw [show j + 1 + (x.length - a.length - (j + 1)) = x.length - a.length by omega] at hr
        have HR := Lib.hid hr
        clear hr h0
        go_wp2_with fail
        go_ret
        exact ⟨ret_s (by rw [HR.out]; rfl), HB4.out⟩
      · have h0' : (m : Int) ≤ 0 := by omega
        have hno2 := zn.cutTo_miss HNO.out (List.eq_nil_of_length_eq_zero (show (zn.rowsS L (foldS s, 2)).length = 0 by rw [← HM.out]; omega)) HSK.out
        have HNO2 := Lib.hid hno2
        clear hno2 h0
        go_wp2_with fail
        go_roundw
        case rel => exact ⟨j + 1, by omega, by simp only [Value.int.injEq, true_and]; omega, HNO2.out, HB4.out⟩
        case measure => simp [intOf]; omega
    · have hlt' : (x.length : Int) < (a.length : Int) + 1 + (j : Int) := by omega
      have hje : j = x.length - a.length := by omega
      have hno := HNO.out
      rw [hje] at hno
      have HN2 := Lib.hid hno
      clear hno hje hlt
      go_wp2_with fail
      go_ret
      exact ⟨ret_s (by rw [HN2.out]; rfl), HB2.out⟩

/-- A cut is a name. -/
theorem cutTo_name {c : Nat} {L : List Rec} {n s : ByteArray} {x : List (List UInt8)} (hx : rows n = some x) {m : Nat} (hm : c + m ≤ x.length) (h : zn.cutTo c L n m = some s) : s.size ≠ 0 := by
  unfold zn.cutTo at h
  obtain ⟨j, hj, e⟩ := List.exists_of_findSome?_eq_some h
  rw [List.mem_range] at hj
  split at e
  · cases e
    have h1 := (tail_row hx (k := ((c + (j + 1) : Nat) : Int)) (by omega) (by omega)).2
    intro h0
    have h2 := check_of h1
    have : tailS n ((c + (j + 1) : Nat) : Int) = ByteArray.empty := ByteArray.ext (Array.eq_empty_of_size_eq_zero h0)
    rw [this, zn.empty_check] at h2
    cases h2
  · cases e

set_option maxRecDepth 100000 in
set_option maxHeartbeats 2000000 in
theorem hidden_any (top z : Nat) (apex : ByteArray) (L : List Rec) (r : Rec) (hr : withinB r.owner apex = true) (w : World) (hz : ZoneF w top z apex L) :
    Calls Tryz.prog 72 #[.pointer (some ⟨z, 0, none⟩), recV r] w fun e w' => e = .returned (.bool (zn.hiddenR apex L r)) ∧ Below w.heap.size w w' := by
  obtain ⟨x, a, hx⟩ := zn.ask_in hr
  have hB1 := (Below.refl _ w).alloc (Nat.le_refl _) (.cells (recC r).toArray 53)
  have hb1 : (w.alloc (.cells (recC r).toArray 53)).heap[w.heap.size]? = some (.cells (recC r).toArray 53 (0, 0)) := heap_new_at rfl
  obtain ⟨x0, _⟩ := found_facts hb1
  have hcut : zn.cutR apex L r.owner = zn.cutTo a.length L r.owner (x.length - a.length) := by unfold zn.cutR; rw [count_of hx.q, count_of hx.apex, Int.toNat_natCast, Int.toNat_natCast]
  have hne : ∀ s, zn.cutR apex L r.owner = some s → s.size ≠ 0 := fun s h => by
    rw [hcut] at h
    exact cutTo_name hx.q (by have := hx.le; omega) h
  have HB1 := Lib.hid hB1; have Hb1 := Lib.hid hb1; have HNE := Lib.hid hne
  have HCUT := Lib.hid (cut_any top z apex L r.owner hr _ (hz.kept hB1))
  clear hz hr hx hcut hne hB1 hb1
  go_enter Tryz.func72, Tryz.ntmps72
  go_wp2_with fail
  refine HCUT.out.mono ?_
  rintro e w2 ⟨rfl, hB2⟩
  have hb2 := (hB2.block w.heap.size (by simp)).trans Hb1.out
  have HB2 := Lib.hid (HB1.out.trans (hB2.mono HB1.out.size)); have Hb2 := Lib.hid hb2
  have hs2 : w.heap.size < w2.heap.size := heap_lt hb2
  obtain ⟨y0, y1, y2, y3, y4, _, _, _, _, _⟩ := found_facts hb2
  clear hB2 hb2 x0
  rcases hc : zn.cutR apex L r.owner with _ | s
  · have hh : zn.hiddenR apex L r = false := by unfold zn.hiddenR; rw [hc]
    have HH := Lib.hid hh
    clear hh hc
    go_wp2_with fail
    go_ret
    exact ⟨ret_b HH.out.symm, HB2.out⟩
  · have hsz := HNE.out s hc
    have b1 := str_some hsz
    have hh : zn.hiddenR apex L r = (!(zn.signsB r || decide (r.typ = 1) || decide (r.typ = 28)) && (!equalB s r.owner || !([2, 43, 47, 46] : List Int).contains r.typ)) := by unfold zn.hiddenR; rw [hc]
    have HH := Lib.hid hh
    clear hh hc hsz
    go_wp2_with fail
    refine (signs_any r _).mono ?_
    rintro e w3 ⟨rfl, hB3⟩
    have hb3 := (hB3.block w.heap.size hs2).trans Hb2.out
    have HB3 := Lib.hid (HB2.out.trans (hB3.mono (by omega)))
    have hs3 : w.heap.size < w3.heap.size := heap_lt hb3
    obtain ⟨y0, y1, y2, y3, y4, _, _, _, _, _⟩ := found_facts hb3
    have Hb3 := Lib.hid hb3
    clear hB3 hb3
    cases hsg : zn.signsB r
    · have HSG := Lib.hid hsg
      clear hsg
      by_cases t1 : r.typ = 1
      · have d1 : (r.typ == 1) = true := by rw [beq_iff_eq]; exact t1
        have hh : zn.hiddenR apex L r = false := by rw [HH.out, HSG.out, decide_eq_true t1]; rfl
        have HF := Lib.hid hh
        clear hh t1
        go_wp2_with fail
        go_ret
        exact ⟨ret_b HF.out.symm, HB3.out⟩
      · have d1 : (r.typ == 1) = false := by rw [beq_eq_false_iff_ne]; exact t1
        by_cases t28 : r.typ = 28
        · have d28 : (r.typ == 28) = true := by rw [beq_iff_eq]; exact t28
          have hh : zn.hiddenR apex L r = false := by rw [HH.out, HSG.out, decide_eq_false t1, decide_eq_true t28]; rfl
          have HF := Lib.hid hh
          clear hh t1 t28
          go_wp2_with fail
          go_ret
          exact ⟨ret_b HF.out.symm, HB3.out⟩
        · have d28 : (r.typ == 28) = false := by rw [beq_eq_false_iff_ne]; exact t28
          have hh : zn.hiddenR apex L r = (!equalB s r.owner || !([2, 43, 47, 46] : List Int).contains r.typ) := by rw [HH.out, HSG.out, decide_eq_false t1, decide_eq_false t28]; rfl
          have HF := Lib.hid hh
          clear hh t1 t28
          go_wp2_with fail
          refine (equal_any _ _ _).mono ?_
          rintro e w4 ⟨rfl, hB4⟩
          have hb4 := (hB4.block w.heap.size hs3).trans Hb3.out
          obtain ⟨y0, y1, y2, y3, y4, _, _, _, _, _⟩ := found_facts hb4
          have HB4 := Lib.hid (HB3.out.trans (hB4.mono (by omega)))
          have hs4 : w.heap.size < w4.heap.size := heap_lt hb4
          have Hb4 := Lib.hid hb4
          clear hB4 hb4
          cases he : equalB s r.owner
          · have hh : zn.hiddenR apex L r = true := by rw [HF.out, he]; rfl
            have HT := Lib.hid hh
            clear hh he
            go_wp2_with fail
            go_ret
            exact ⟨ret_b HT.out.symm, HB4.out⟩
          · have hh : zn.hiddenR apex L r = !([2, 43, 47, 46] : List Int).contains r.typ := by rw [HF.out, he]; rfl
            have HT := Lib.hid hh
            clear hh he
            have HB5 := Lib.hid (HB4.out.alloc (by omega) (.cells #[.int .i64 2, .int .i64 43, .int .i64 47, .int .i64 46] 3))
            go_wp2_with fail
            refine (Tryz.slices_Contains_int w4.heap.size 0 4 4 [2, 43, 47, 46] r.typ _ (by decide) (by omega) (fun j hj => ?_)).mono ?_
            · rw [heap_cell (heap_new_at rfl), Nat.zero_add]
              have hj4 : j = 0 ∨ j = 1 ∨ j = 2 ∨ j = 3 := by simp at hj; omega
              rcases hj4 with rfl | rfl | rfl | rfl <;> rfl
            · rintro e w5 ⟨rfl, rfl⟩
              go_wp2_with fail
              go_ret
              exact ⟨ret_b (by rw [HT.out]; by_cases a2 : r.typ = 2 <;> by_cases a43 : r.typ = 43 <;> by_cases a47 : r.typ = 47 <;> by_cases a46 : r.typ = 46 <;> simp [a2, a43, a47, a46]), HB5.out⟩
    · have hh : zn.hiddenR apex L r = false := by rw [HH.out, hsg]; rfl
      have HF := Lib.hid hh
      clear hh hsg
      go_wp2_with fail
      go_ret
      exact ⟨ret_b HF.out.symm, HB3.out⟩

set_option maxRecDepth 100000 in
set_option maxHeartbeats 4000000 in
theorem target_any (top z : Nat) (apex : ByteArray) (L : List Rec) (r : Rec) (n : ByteArray) (w : World) (hz : ZoneF w top z apex L) :
    Calls Tryz.prog 74 #[.pointer (some ⟨z, 0, none⟩), recV r, .string n] w fun e w' => e = .returned (.int .i64 (zn.targetR apex L r.typ n)) ∧ Below w.heap.size w w' := by
  have hB1 := (Below.refl _ w).alloc (Nat.le_refl _) (.cells (recC r).toArray 53)
  have hb1 : (w.alloc (.cells (recC r).toArray 53)).heap[w.heap.size]? = some (.cells (recC r).toArray 53 (0, 0)) := heap_new_at rfl
  obtain ⟨w1, hw1⟩ : ∃ X, X = w.alloc (.cells (recC r).toArray 53) := ⟨_, rfl⟩
  rw [← hw1] at hB1 hb1
  have hz1 := hz.kept hB1
  obtain ⟨base, rg, cap, sb, tb, l0, _, hzc, _⟩ := hz1.v.parts
  have z0 : w1.cell? ⟨z, 0, none⟩ = some (.string apex) := by rw [heap_cell hzc]; rfl
  obtain ⟨m1, hm1⟩ : ∃ m, m = (zn.rowsS L (foldS n, 1)).length := ⟨_, rfl⟩
  obtain ⟨m28, hm28⟩ : ∃ m, m = (zn.rowsS L (foldS n, 28)).length := ⟨_, rfl⟩
  have l1 : m1 ≤ 2000 := by rw [hm1]; exact Nat.le_trans (rowsS_len L _) hz.small
  have l28 : m28 ≤ 2000 := by rw [hm28]; exact Nat.le_trans (rowsS_len L _) hz.small
  obtain ⟨bb, hbb⟩ : ∃ b, b = (!withinB n apex || decide (0 < m1) || decide (0 < m28)) := ⟨_, rfl⟩
  have hif : (withinB n apex = false ∨ zn.rowsS L (foldS n, 1) ≠ [] ∨ zn.rowsS L (foldS n, 28) ≠ []) ↔ bb = true := by
    rw [hbb, hm1, hm28]
    simp only [Bool.or_eq_true, Bool.not_eq_true', decide_eq_true_eq, List.length_pos_iff, or_assoc]
  have HW1 := Lib.hid hw1; have HB1 := Lib.hid hB1; have Hb1 := Lib.hid hb1; have HZ1 := Lib.hid hz1; have HM1 := Lib.hid hm1; have HM28 := Lib.hid hm28; have HBB := Lib.hid hbb; have HIF := Lib.hid hif
  have hs1 := hB1.size
  clear hw1 hB1 hb1 hz1 hz hzc hm1 hm28 hbb hif
  go_enter Tryz.func74, Tryz.ntmps74
  go_upto_region 1 with fail
  rw [← HW1.out]
  go_cut [29] (fun s wx => s = .bool bb ∧ Below w1.heap.size w1 wx)
  case first =>
    go_wp2_with fail
    refine (within_any _ _ _).mono ?_
    rintro e w2 ⟨rfl, hB2⟩
    have HB2 := Lib.hid hB2
    clear hB2 z0
    cases hwi : withinB n apex
    · have HWI := Lib.hid hwi
      clear hwi
      go_wp2_with fail
      go_meet
      exact ⟨by rw [HBB.out, HWI.out]; rfl, HB2.out⟩
    · have HWI := Lib.hid hwi
      clear hwi
      go_wp2_with fail
      refine (at_type top z apex L HZ1.out.small n 1 rfl (by decide) _ (HZ1.out.kept HB2.out).v).mono ?_
      rintro e w3 ⟨v3, rfl, hB3, hown3⟩
      obtain ⟨a3, cap3, rfl, -⟩ := ownsRow_len hown3
      rw [← HM1.out]
      have HB3 := Lib.hid (HB2.out.trans (hB3.mono HB2.out.size))
      clear hB3 hown3
      by_cases h1 : 0 < m1
      · have h1' : (0 : Int) < (m1 : Int) := by omega
        have H1 := Lib.hid h1
        clear h1
        go_wp2_with fail
        go_meet
        exact ⟨by rw [HBB.out, HWI.out, decide_eq_true H1.out]; rfl, HB3.out⟩
      · have h1' : (m1 : Int) ≤ 0 := by omega
        have H1 := Lib.hid h1
        clear h1
        go_wp2_with fail
        refine (at_type top z apex L HZ1.out.small n 28 rfl (by decide) _ (HZ1.out.kept HB3.out).v).mono ?_
        rintro e w4 ⟨v4, rfl, hB4, hown4⟩
        obtain ⟨a4, cap4, rfl, -⟩ := ownsRow_len hown4
        rw [← HM28.out]
        have HB4 := Lib.hid (HB3.out.trans (hB4.mono HB3.out.size))
        clear hB4 hown4
        by_cases h28 : 0 < m28
        · have h28' : (0 : Int) < (m28 : Int) := by omega
          have H28 := Lib.hid h28
          clear h28
          go_wp2_with fail
          go_meet
          exact ⟨by rw [HBB.out, HWI.out, decide_eq_false H1.out, decide_eq_true H28.out]; rfl, HB4.out⟩
        · have h28' : (m28 : Int) ≤ 0 := by omega
          have H28 := Lib.hid h28
          clear h28
          go_wp2_with fail
          go_meet
          exact ⟨by rw [HBB.out, HWI.out, decide_eq_false H1.out, decide_eq_false H28.out]; rfl, HB4.out⟩
  case rest =>
  obtain ⟨rfl, hB2⟩ := hcut
  have HB2 := Lib.hid hB2
  clear hB2 z0
  cases bb
  · have hno : ¬ (withinB n apex = false ∨ zn.rowsS L (foldS n, 1) ≠ [] ∨ zn.rowsS L (foldS n, 28) ≠ []) := fun h => by have := HIF.out.1 h; cases this
    have HNO := Lib.hid hno
    clear hno
    go_wp2_with fail
    refine (find_any top z apex L n 1 rfl _ (HZ1.out.kept HB2.out)).mono ?_
    rintro e w3 ⟨v3, rfl, hB3, _⟩
    obtain ⟨f4, hf4⟩ : ∃ f, f = zn.findR apex L n 1 := ⟨_, rfl⟩
    rw [← hf4]
    have hk4 := field_kind f4.kind f4.owner f4.encl f4.wild v3 w3
    have HB3 := Lib.hid (HB2.out.trans (hB3.mono HB2.out.size)); have HF4 := Lib.hid hf4
    clear hB3 hf4
    go_wp2_with fail
    refine (find_any top z apex L n 28 rfl _ (HZ1.out.kept HB3.out)).mono ?_
    rintro e w4 ⟨v4, rfl, hB4, _⟩
    obtain ⟨f6, hf6⟩ : ∃ f, f = zn.findR apex L n 28 := ⟨_, rfl⟩
    rw [← hf6]
    have hk6 := field_kind f6.kind f6.owner f6.encl f6.wild v4 w4
    have hb4 := ((HB3.out.trans (hB4.mono HB3.out.size)).block w.heap.size (heap_lt Hb1.out)).trans Hb1.out
    obtain ⟨y0, y1, y2, y3, y4, _, _, _, _, _⟩ := found_facts hb4
    have hBe := HB1.out.trans ((HB3.out.trans (hB4.mono HB3.out.size)).mono hs1)
    have HBE := Lib.hid hBe; have HF6 := Lib.hid hf6
    have hr : zn.targetR apex L r.typ n = if f4.kind = 1 ∨ f6.kind = 1 then 0 else if f4.kind = 2 then 2 else if f4.kind = 4 ∧ r.typ ≠ 2 ∨ n = ⟨#[0]⟩ ∧ r.typ ≠ 2 then 0 else 3 := by
      unfold zn.targetR
      rw [if_neg HNO.out, ← HF4.out, ← HF6.out]
    have HR := Lib.hid hr
    clear hB4 hf6 hb4 hBe hr hk4
    by_cases k1 : f4.kind = 1
    · have b1 : (f4.kind == 1) = true := by rw [beq_iff_eq]; exact k1
      have hr : zn.targetR apex L r.typ n = 0 := by rw [HR.out, if_pos (.inl k1)]
      have HRR := Lib.hid hr
      clear k1 hr
      go_wp2_with fail
      go_ret
      exact ⟨ret_i HRR.out.symm, HBE.out⟩
    · have b1 : (f4.kind == 1) = false := by rw [beq_eq_false_iff_ne]; exact k1
      by_cases k1' : f6.kind = 1
      · have b1' : (f6.kind == 1) = true := by rw [beq_iff_eq]; exact k1'
        have hr : zn.targetR apex L r.typ n = 0 := by rw [HR.out, if_pos (.inr k1')]
        have HRR := Lib.hid hr
        clear k1 k1' hr
        go_wp2_with fail
        go_ret
        exact ⟨ret_i HRR.out.symm, HBE.out⟩
      · have b1' : (f6.kind == 1) = false := by rw [beq_eq_false_iff_ne]; exact k1'
        have hr1 : zn.targetR apex L r.typ n = if f4.kind = 2 then 2 else if f4.kind = 4 ∧ r.typ ≠ 2 ∨ n = ⟨#[0]⟩ ∧ r.typ ≠ 2 then 0 else 3 := by rw [HR.out, if_neg (fun h => h.elim k1 k1')]
        have HR1 := Lib.hid hr1
        clear k1 k1' hr1
        by_cases k2 : f4.kind = 2
        · have b2 : (f4.kind == 2) = true := by rw [beq_iff_eq]; exact k2
          have hr : zn.targetR apex L r.typ n = 2 := by rw [HR1.out, if_pos k2]
          have HRR := Lib.hid hr
          clear k2 hr
          go_wp2_with fail
          go_ret
          exact ⟨ret_i HRR.out.symm, HBE.out⟩
        · have b2 : (f4.kind == 2) = false := by rw [beq_eq_false_iff_ne]; exact k2
          have hr2 : zn.targetR apex L r.typ n = if f4.kind = 4 ∧ r.typ ≠ 2 ∨ n = ⟨#[0]⟩ ∧ r.typ ≠ 2 then 0 else 3 := by rw [HR1.out, if_neg k2]
          have HR2 := Lib.hid hr2
          clear k2 hr2
          by_cases t2 : r.typ = 2
          · have d1 : (r.typ == 2) = true := by rw [beq_iff_eq]; exact t2
            have d2 : (r.typ != 2) = false := by rw [bne_eq_false_iff_eq]; exact t2
            have hr : zn.targetR apex L r.typ n = 3 := by rw [HR2.out, if_neg (fun h => h.elim (fun h => h.2 t2) (fun h => h.2 t2))]
            have HRR := Lib.hid hr
            clear t2 hr
            cases k4 : (f4.kind == 4)
            · cases kn : (n.toList == [0])
              · go_wp2_with fail
                go_ret
                exact ⟨ret_i HRR.out.symm, HBE.out⟩
              · go_wp2_with fail
                go_ret
                exact ⟨ret_i HRR.out.symm, HBE.out⟩
            · cases kn : (n.toList == [0])
              · go_wp2_with fail
                go_ret
                exact ⟨ret_i HRR.out.symm, HBE.out⟩
              · go_wp2_with fail
                go_ret
                exact ⟨ret_i HRR.out.symm, HBE.out⟩
          · have d1 : (r.typ == 2) = false := by rw [beq_eq_false_iff_ne]; exact t2
            have d2 : (r.typ != 2) = true := by rw [bne_iff_ne]; exact t2
            have hzero : (⟨#[0]⟩ : ByteArray).toList = [0] := by rw [ByteArray.toList_eq]
            by_cases k4 : f4.kind = 4
            · have b4 : (f4.kind == 4) = true := by rw [beq_iff_eq]; exact k4
              have hr : zn.targetR apex L r.typ n = 0 := by rw [HR2.out, if_pos (.inl ⟨k4, t2⟩)]
              have HRR := Lib.hid hr
              clear t2 k4 hr hzero
              go_wp2_with fail
              go_ret
              exact ⟨ret_i HRR.out.symm, HBE.out⟩
            · have b4 : (f4.kind == 4) = false := by rw [beq_eq_false_iff_ne]; exact k4
              by_cases hn : n = ⟨#[0]⟩
              · have bn : (n.toList == [0]) = true := by rw [← hzero]; exact str_eq.2 hn
                have hr : zn.targetR apex L r.typ n = 0 := by rw [HR2.out, if_pos (.inr ⟨hn, t2⟩)]
                have HRR := Lib.hid hr
                clear t2 k4 hr hn hzero
                go_wp2_with fail
                go_ret
                exact ⟨ret_i HRR.out.symm, HBE.out⟩
              · have bn : (n.toList == [0]) = false := by rw [← hzero]; exact str_ne hn
                have hr : zn.targetR apex L r.typ n = 3 := by rw [HR2.out, if_neg (fun h => h.elim (fun h => k4 h.1) (fun h => hn h.1))]
                have HRR := Lib.hid hr
                clear t2 k4 hr hn hzero
                go_wp2_with fail
                go_ret
                exact ⟨ret_i HRR.out.symm, HBE.out⟩
  · have hr : zn.targetR apex L r.typ n = 0 := by unfold zn.targetR; rw [if_pos (HIF.out.2 rfl)]
    have HRR := Lib.hid hr
    clear hr
    go_wp2_with fail
    go_ret
    exact ⟨ret_i HRR.out.symm, HB1.out.trans (HB2.out.mono hs1)⟩
end Go.Proofs.YtpjoaghnciomeaaGreat

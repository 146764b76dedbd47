/-
  The reference's zone: hidden.
-/
import Derived.Test.YtpjoaghnciomeaaGreatRzF
namespace Go.Proofs.YtpjoaghnciomeaaGreat
open Go.RowKit Go.Shelf Go.Proofs.YtpjoaghnciomeaaGreat.nm Go.Proofs.YtpjoaghnciomeaaGreat.od

namespace zn
theorem equal_tail {q : ByteArray} {x : List (List UInt8)} (hx : rows q = some x) {k : Nat} (hk : k ≤ x.length) : equalB (tailS q k) q = decide (k = x.length) := by
  obtain ⟨h1, h2, h3, _⟩ := tail_name hx hk
  have hq : checkB q = true := check_of hx
  by_cases e : k = x.length
  · rw [decide_eq_true e, h3.2 e]
    exact (equal_fold hq hq).2 rfl
  · rw [decide_eq_false e, Bool.eq_false_iff]
    intro he
    have h4 := (equal_fold h1 hq).1 he
    obtain ⟨y, hy⟩ := rows_check h1
    have c1 : countI (foldS (tailS q k)) = y.length := by rw [count_of (rows_fold hy), lowR_len]
    have c2 : countI (foldS q) = x.length := by rw [count_of (rows_fold hx), lowR_len]
    rw [h4, c2] at c1
    rw [count_of hy] at h2
    omega
theorem hidden_signs {apex : ByteArray} {L : List Rec} {r : Rec} (h : signsB r = true) : hiddenR apex L r = false := by
  unfold hiddenR
  split
  · rfl
  · rw [h]; rfl
end zn


set_option maxRecDepth 100000 in
set_option maxHeartbeats 4000000 in
theorem rhidden_any (z : Nat) (apex : ByteArray) (L : List Rec) (hva : zn.Valid apex L) (r : Rec) (hin : withinB r.owner apex = true) (w : World) (hz : RZone w z apex L) :
    Calls Tryz.prog 75 #[.pointer (some ⟨z, 0, none⟩), recV r] w fun e w' => e = .returned (.bool (zn.hiddenR apex L r)) ∧ Below w.heap.size w w' := by
  have hL := hva.small
  have hnm := hva.named
  have hapz : apex.size ≤ 1099511627776 := by have := checkB_size hva.ap; omega
  have hoz : r.owner.size ≤ 1099511627776 := by have := checkB_size (within_check hin).1; omega
  obtain ⟨x, a, hx⟩ := zn.ask_in hin
  have hle := hx.le
  have hxl : x.length ≤ 255 := by have h := countI_le r.owner; rw [count_of hx.q] at h; omega
  have hca : countI apex = (a.length : Int) := count_of hx.apex
  have hcq : countI r.owner = (x.length : Int) := count_of hx.q
  have hcut : zn.cutR apex L r.owner = zn.cutTo a.length L r.owner (x.length - a.length) := by unfold zn.cutR; rw [hca, hcq, Int.toNat_natCast, Int.toNat_natCast]
  obtain ⟨g, cap, hzc, hrec⟩ := hz
  have hsz : ∀ y ∈ L, y.owner.size ≤ 1099511627776 := fun y hy => by have := checkB_size (hnm y hy); omega
  obtain ⟨hB1, hz1, hx1⟩ := rec_new w _ r rfl
  obtain ⟨w1, hw1⟩ : ∃ W, W = w.alloc (.cells (recC r).toArray 53) := ⟨_, rfl⟩
  rw [← hw1] at hB1 hz1 hx1
  have hs1 := hB1.size
  have lt1 : w.heap.size < w1.heap.size := by omega
  have HC := Lib.hid (fun W (hB : Below w1.heap.size w1 W) => rz_cells hzc hrec (hB1.trans (hB.mono hs1)))
  have HHAS := Lib.hid (fun W (hB : Below w1.heap.size w1 W) n (hn : n.size ≤ 1099511627776) t => rhas_any L (by omega) hsz n hn t (.slice (some ⟨g, 0, none⟩) L.length cap) W (hrec.below (hB1.trans (hB.mono hs1))))
  have HXX := Lib.hid (fun W (hB : Below w1.heap.size w1 W) => hx1.keep (hB.block w.heap.size lt1))
  obtain ⟨x0, x1, x2, x3, x4⟩ := id hx1
  have HB1 := Lib.hid hB1; have HVA := Lib.hid hva; have HNM := Lib.hid hnm; have HCUT := Lib.hid hcut; have HX := Lib.hid hx; have HCA := Lib.hid hca; have HCQ := Lib.hid hcq; have HSZ := Lib.hid hsz; have HZC := Lib.hid hzc; have HREC := Lib.hid hrec; have HW1 := Lib.hid hw1; have HX1 := Lib.hid hx1
  clear hB1 hva hnm hcut hx hca hcq hsz hzc hrec hw1 hx1
  go_enter Tryz.func75, Tryz.ntmps75
  go_wp2_with fail
  rw [← HW1.out]
  refine (rcounts_any r _).mono ?_
  rintro e w2 ⟨rfl, hB2⟩
  have HB2 := Lib.hid hB2
  clear hB2 x0 x1 x2 x3 x4
  cases hs : zn.signsB r
  · have HS := Lib.hid hs
    clear hs
    have z0 := (HC.out w2 HB2.out).1
    go_wp2_with fail
    refine (rcount_any _ hapz _).mono ?_
    rintro e w3 ⟨rfl, hB3⟩
    rw [HCA.out]
    have HB3 := Lib.hid (HB2.out.trans (hB3.mono HB2.out.size))
    clear hB3 z0
    go_wp2_with fail
    go_loopw [5] (fun kv wr => ∃ j : Nat, j ≤ x.length - a.length ∧ kv = .int .i64 ((a.length : Int) + 1 + (j : Int)) ∧ zn.cutTo a.length L r.owner j = none ∧ Below w1.heap.size w1 wr) (fun kv _ => x.length + 1 - (intOf kv).toNat)
    case atStart => exact ⟨0, Nat.zero_le _, by simp, rfl, HB3.out⟩
    case round =>
      obtain ⟨j, hj, rfl, hno, hB⟩ := hrel
      have hsr := hB.size
      obtain ⟨y0, y1, y2, y3, y4⟩ := HXX.out wr hB
      have HNO := Lib.hid hno; have HB := Lib.hid hB
      clear hno hB
      go_wp2_with fail
      refine (rcount_any _ hoz _).mono ?_
      rintro e w6 ⟨rfl, hB6⟩
      rw [HCQ.out]
      have HB6 := Lib.hid (HB.out.trans (hB6.mono hsr))
      have hs6 := HB6.out.size
      clear hB6 y0 y1 y2 y3 y4
      by_cases hlt : a.length + 1 + j ≤ x.length
      · have hlt' : (a.length : Int) + 1 + (j : Int) ≤ (x.length : Int) := by omega
        obtain ⟨n, hn⟩ : ∃ n, n = tailS r.owner ((a.length : Int) + 1 + (j : Int)) := ⟨_, rfl⟩
        have hnk : tailS r.owner ((a.length + (j + 1) : Nat) : Int) = n := by rw [hn]; congr 1; omega
        have hnn := zn.tail_name HX.out.q (k := a.length + (j + 1)) (by omega)
        have heq := zn.equal_tail HX.out.q (k := a.length + (j + 1)) (by omega)
        rw [hnk] at hnn heq
        have hns : n.size ≤ 1099511627776 := by have := hnn.2.2.2; omega
        have hr2 := zn.has_rows (l := L) HNM.out hnn.1 2
        have hall : ∀ X : World, Below w1.heap.size w1 X → Below w1.heap.size w1 X ∧ X.cell? ⟨z, 1, none⟩ = some (.slice (some ⟨g, 0, none⟩) L.length cap) ∧ X.cell? ⟨w.heap.size, 0, none⟩ = some (.string r.owner) := fun X hX => ⟨hX, (HC.out X hX).2.1, (HXX.out X hX).1⟩
        obtain ⟨z0, z1, _, hcap⟩ := HC.out w6 HB6.out
        have htl := fun W => rtail_any r.owner hoz ((a.length : Int) + 1 + (j : Int)) W
        rw [← hn] at htl
        obtain ⟨b2, hb2⟩ : ∃ b, b = zn.hasB L n 2 := ⟨_, rfl⟩
        have hhas := fun W (hB : Below w1.heap.size w1 W) => HHAS.out W hB n hns 2
        rw [← hb2] at hhas
        have HN := Lib.hid hn; have HNK := Lib.hid hnk; have HNN := Lib.hid hnn; have HEQ := Lib.hid heq; have HR2 := Lib.hid hr2; have HALL := Lib.hid hall; have HTL := Lib.hid htl
        clear hn hnk hnn heq hr2 hall htl
        have HHAS_ := Lib.hid hhas; have HB2_ := Lib.hid hb2
        clear hhas hb2
        clear z0
        go_upto_region 6 with fail
        go_cut [30] (fun s wx => s = .bool b2 ∧ Below w1.heap.size w1 wx)
        case first =>
          clear z1
          go_region_held3 (fun X => Below w1.heap.size w1 X ∧ X.cell? ⟨z, 1, none⟩ = some (.slice (some ⟨g, 0, none⟩) L.length cap) ∧ X.cell? ⟨w.heap.size, 0, none⟩ = some (.string r.owner))
            (first | assumption | exact HALL.out _ HB6.out.drew | (go_split_ands; exact HALL.out _ (by assumption)))
            (first
              | (go_at_call 59; (with_reducible refine (HTL.out _).mono ?_); rintro e wA ⟨rfl, hbA⟩; go_split_ands; have hbA2 := Below.trans (B := w1.heap.size) (a := w1) (by assumption) (hbA.mono (Below.size (by assumption))))
              | (go_at_call 50; (with_reducible refine (HHAS_.out _ (by assumption)).mono ?_); rintro e wB ⟨rfl, hbB⟩; have hbB2 := Below.trans (B := w1.heap.size) (a := w1) (by assumption) (hbB.mono (Below.size (by assumption)))))
          all_goals
            go_wp2_with fail
            go_meet
            exact ⟨rfl, hbB2⟩
        case rest =>
        obtain ⟨rfl, hBc⟩ := hcut
        have HBC := Lib.hid hBc
        have hsc := hBc.size
        clear hBc z1
        cases b2
        · have hno2 := zn.cutTo_miss HNO.out (Classical.byContradiction fun h => by have := HR2.out.2 h; rw [← HB2_.out] at this; cases this) HNK.out
          have HNO2 := Lib.hid hno2
          clear hno2
          go_wp2_with fail
          go_roundw
          case rel => exact ⟨j + 1, by omega, by simp only [Value.int.injEq, true_and]; omega, HNO2.out, HBC.out⟩
          case measure => simp [intOf]; omega
        · have hhit := zn.cutTo_hit HNO.out (HR2.out.1 HB2_.out.symm) HNK.out (x.length - a.length - (j + 1))
          rw [show j + 1 + (x.length - a.length - (j + 1)) = x.length - a.length by omega] at hhit
          have hh : zn.hiddenR apex L r = (!(false || decide (r.typ = 1) || decide (r.typ = 28)) && (!decide (a.length + (j + 1) = x.length) || !([2, 43, 47, 46] : List Int).contains r.typ)) := by
            unfold zn.hiddenR
            rw [HCUT.out, hhit]
            simp only [HS.out, HEQ.out]
          clear hhit
          have HH := Lib.hid hh
          clear hh
          obtain ⟨y0, y1, y2, y3, y4⟩ := HXX.out wc HBC.out
          by_cases t1 : r.typ = 1
          · have d1 : (r.typ == 1) = true := by rw [beq_iff_eq]; exact t1
            have ht : zn.hiddenR apex L r = false := by rw [HH.out, decide_eq_true t1]; simp
            have HT := Lib.hid ht
            clear ht
            clear t1
            go_wp2_with fail
            go_ret
            exact ⟨ret_b (by first | exact HT.out.symm | (rw [HT.out]; exact decide_eq_false (by omega))), HB1.out.trans (HBC.out.mono hs1)⟩
          · have d1 : (r.typ == 1) = false := by rw [beq_eq_false_iff_ne]; exact t1
            by_cases t28 : r.typ = 28
            · have d28 : (r.typ == 28) = true := by rw [beq_iff_eq]; exact t28
              have ht : zn.hiddenR apex L r = false := by rw [HH.out, decide_eq_true t28]; simp
              have HT := Lib.hid ht
              clear ht
              clear t1 t28
              go_wp2_with fail
              go_ret
              exact ⟨ret_b (by first | exact HT.out.symm | (rw [HT.out]; exact decide_eq_false (by omega))), HB1.out.trans (HBC.out.mono hs1)⟩
            · have d28 : (r.typ == 28) = false := by rw [beq_eq_false_iff_ne]; exact t28
              have hh2 : zn.hiddenR apex L r = (!decide (a.length + (j + 1) = x.length) || !([2, 43, 47, 46] : List Int).contains r.typ) := by rw [HH.out, decide_eq_false t1, decide_eq_false t28]; simp
              have HH2 := Lib.hid hh2
              clear hh2
              clear t1 t28
              go_wp2_with fail
              refine (rcount_any _ hoz _).mono ?_
              rintro e w8 ⟨rfl, hB8⟩
              rw [HCQ.out]
              have hB8' := HBC.out.trans (hB8.mono hsc)
              have HB8 := Lib.hid hB8'
              clear y0 y1 y2 y3 y4
              obtain ⟨y0, y1, y2, y3, y4⟩ := HXX.out w8 hB8'
              clear hB8 hB8'
              by_cases hk : a.length + (j + 1) = x.length
              · have hk' : (x.length : Int) ≤ (a.length : Int) + 1 + (j : Int) := by omega
                have hh3 : zn.hiddenR apex L r = !([2, 43, 47, 46] : List Int).contains r.typ := by rw [HH2.out, decide_eq_true hk]; rfl
                have HH3 := Lib.hid hh3
                clear hh3
                clear hk
                by_cases t2 : r.typ = 2
                · have n2 : (r.typ != 2) = false := by rw [bne_eq_false_iff_eq]; exact t2
                  have ht : zn.hiddenR apex L r = false := by rw [HH3.out, t2]; rfl
                  have HT := Lib.hid ht
                  clear ht
                  clear t2
                  go_wp2_with fail
                  go_ret
                  exact ⟨ret_b (by first | exact HT.out.symm | (rw [HT.out]; exact decide_eq_false (by omega))), HB1.out.trans (HB8.out.mono hs1)⟩
                · have n2 : (r.typ != 2) = true := by rw [bne_iff_ne]; exact t2
                  by_cases t43 : r.typ = 43
                  · have n43 : (r.typ != 43) = false := by rw [bne_eq_false_iff_eq]; exact t43
                    have ht : zn.hiddenR apex L r = false := by rw [HH3.out, t43]; rfl
                    have HT := Lib.hid ht
                    clear ht
                    clear t2 t43
                    go_wp2_with fail
                    go_ret
                    exact ⟨ret_b (by first | exact HT.out.symm | (rw [HT.out]; exact decide_eq_false (by omega))), HB1.out.trans (HB8.out.mono hs1)⟩
                  · have n43 : (r.typ != 43) = true := by rw [bne_iff_ne]; exact t43
                    by_cases t47 : r.typ = 47
                    · have n47 : (r.typ != 47) = false := by rw [bne_eq_false_iff_eq]; exact t47
                      have ht : zn.hiddenR apex L r = false := by rw [HH3.out, t47]; rfl
                      have HT := Lib.hid ht
                      clear ht
                      clear t2 t43 t47
                      go_wp2_with fail
                      go_ret
                      exact ⟨ret_b (by first | exact HT.out.symm | (rw [HT.out]; exact decide_eq_false (by omega))), HB1.out.trans (HB8.out.mono hs1)⟩
                    · have n47 : (r.typ != 47) = true := by rw [bne_iff_ne]; exact t47
                      by_cases t46 : r.typ = 46
                      · have n46 : (r.typ != 46) = false := by rw [bne_eq_false_iff_eq]; exact t46
                        have ht : zn.hiddenR apex L r = false := by rw [HH3.out, t46]; rfl
                        have HT := Lib.hid ht
                        clear ht
                        clear t2 t43 t47 t46
                        go_wp2_with fail
                        go_ret
                        exact ⟨ret_b (by first | exact HT.out.symm | (rw [HT.out]; exact decide_eq_false (by omega))), HB1.out.trans (HB8.out.mono hs1)⟩
                      · have n46 : (r.typ != 46) = true := by rw [bne_iff_ne]; exact t46
                        have ht : zn.hiddenR apex L r = true := by rw [HH3.out]; simp [t2, t43, t47, t46]
                        have HT := Lib.hid ht
                        clear ht
                        clear t2 t43 t47 t46
                        go_wp2_with fail
                        go_ret
                        exact ⟨ret_b (by first | exact HT.out.symm | (rw [HT.out]; exact decide_eq_false (by omega))), HB1.out.trans (HB8.out.mono hs1)⟩
              · have hk' : (a.length : Int) + 1 + (j : Int) < (x.length : Int) := by omega
                have ht : zn.hiddenR apex L r = true := by rw [HH2.out, decide_eq_false hk]; rfl
                have HT := Lib.hid ht
                clear ht
                clear hk
                go_wp2_with fail
                go_ret
                exact ⟨ret_b (by first | exact HT.out.symm | (rw [HT.out]; exact decide_eq_false (by omega))), HB1.out.trans (HB8.out.mono hs1)⟩
      · have hlt' : (x.length : Int) < (a.length : Int) + 1 + (j : Int) := by omega
        have ht : zn.hiddenR apex L r = false := by
          have hje : j = x.length - a.length := by omega
          unfold zn.hiddenR
          rw [HCUT.out, ← hje, HNO.out]
        have HT := Lib.hid ht
        clear ht
        clear hlt
        go_wp2_with fail
        go_ret
        exact ⟨ret_b (by first | exact HT.out.symm | (rw [HT.out]; exact decide_eq_false (by omega))), HB1.out.trans (HB6.out.mono hs1)⟩
  · have ht : zn.hiddenR apex L r = false := zn.hidden_signs hs
    have HT := Lib.hid ht; have HS := Lib.hid hs
    clear ht hs
    go_wp2_with fail
    go_ret
    exact ⟨ret_b (by first | exact HT.out.symm | (rw [HT.out]; exact decide_eq_false (by omega))), HB1.out.trans (HB2.out.mono hs1)⟩
end Go.Proofs.YtpjoaghnciomeaaGreat

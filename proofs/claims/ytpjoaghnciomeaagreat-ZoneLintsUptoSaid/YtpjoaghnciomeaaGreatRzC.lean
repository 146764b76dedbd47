/-
  The reference's zone: Find, plainly.
-/
import Derived.Test.YtpjoaghnciomeaaGreatRzA
namespace Go.Proofs.YtpjoaghnciomeaaGreat
open Go.RowKit Go.Shelf Go.Proofs.YtpjoaghnciomeaaGreat.nm Go.Proofs.YtpjoaghnciomeaaGreat.od

namespace zn
theorem rthere_there {apex : ByteArray} {L : List Rec} (hv : Valid apex L) {n : ByteArray} (hc : checkB n = true → countI apex ≤ countI n) : thereB (countI apex).toNat L n = rthereB L n := by
  cases h : checkB n
  · rw [there_none hv.named h]
    symm
    rw [Bool.eq_false_iff]
    intro h2
    obtain ⟨r, _, _, hw⟩ := rthere_iff.1 h2
    have := (within_check hw).2
    rw [h] at this
    cases this
  · rw [Bool.eq_iff_iff, there_iff (fun r hr => ⟨(hv.each r hr).1, (hv.each r hr).2.2⟩) h (hc h), rthere_iff]
theorem soa_rec {apex : ByteArray} {L : List Rec} (hv : Valid apex L) : ∃ r ∈ L, r.typ = 6 ∧ signsB r = false ∧ foldS r.owner = foldS apex := by
  obtain ⟨_, h2, h3, _⟩ := rules_parts hv.rules
  have h4 : ∃ r ∈ L, r.typ = 6 := Classical.byContradiction fun h => h3 (soaC_zero.2 fun r hr h6 => h ⟨r, hr, h6⟩)
  obtain ⟨r, hr, h6⟩ := h4
  refine ⟨r, hr, h6, ?_, (equal_fold (hv.named r hr) hv.ap).1 ((soa_iff.1 h2).2 r hr h6)⟩
  unfold signsB
  rw [h6]
  rfl
/-- The apex is there, by whatever letters. -/
theorem rthere_apex {apex : ByteArray} {L : List Rec} (hv : Valid apex L) {n : ByteArray} (hn : checkB n = true) (he : foldS n = foldS apex) : rthereB L n = true := by
  obtain ⟨r, hr, _, hs, hf⟩ := soa_rec hv
  exact rthere_iff.2 ⟨r, hr, hs, equal_within (hv.named r hr) hn (hf.trans he.symm)⟩
theorem tail_apex {apex q : ByteArray} {x a : List (List UInt8)} (hw : withinB q apex = true) (h : AskIn apex q x a) : checkB (tailS q a.length) = true ∧ foldS (tailS q a.length) = foldS apex := by
  unfold withinB at hw
  rw [count_of h.apex] at hw
  simp only [Bool.and_eq_true] at hw
  obtain ⟨c1, c2⟩ := equal_check hw.2
  exact ⟨c1, (equal_fold c1 c2).1 hw.2⟩
theorem tail_name {q : ByteArray} {x : List (List UInt8)} (hx : rows q = some x) {k : Nat} (hk : k ≤ x.length) : checkB (tailS q k) = true ∧ countI (tailS q k) = k ∧ (tailS q k = q ↔ k = x.length) ∧ (tailS q k).size ≤ 255 := by
  have h1 := (tail_row hx (k := (k : Int)) (by omega) (by omega)).2
  have h2 := count_tail hx (k := (k : Int)) (by omega) (by omega)
  refine ⟨check_of h1, h2, ⟨fun e => ?_, fun e => by rw [e]; exact tail_self hx⟩, checkB_size (check_of h1)⟩
  rw [e, count_of hx] at h2
  omega
theorem encl_of {apex q : ByteArray} {L : List Rec} {x a : List (List UInt8)} (hv : Valid apex L) (h : AskIn apex q x a) {k : Nat} (h1 : a.length ≤ k) (h2 : k ≤ x.length) (ht : rthereB L (tailS q k) = true) (hno : ∀ j, k < j → j ≤ x.length → rthereB L (tailS q j) = false) :
    enclTo a.length L q (x.length - a.length) = tailS q k := by
  have hc := count_of h.apex
  have eq : ∀ j, a.length ≤ j → j ≤ x.length → thereB a.length L (tailS q j) = rthereB L (tailS q j) := fun j hj hj2 => by
    have := rthere_there hv (n := tailS q j) (fun _ => by rw [hc, (tail_name h.q hj2).2.1]; omega)
    rw [hc, Int.toNat_natCast] at this
    exact this
  obtain ⟨k', e1, e2, e3, e4⟩ := encl_spec a.length L q (x.length - a.length)
  rw [e2]
  have hk : a.length + k' = k := by
    rcases Nat.lt_trichotomy (a.length + k') k with hlt | heq | hgt
    · have h5 := e3 (k - a.length) (by omega) (by omega)
      rw [show a.length + (k - a.length) = k by omega, eq k h1 h2, ht] at h5
      cases h5
    · exact heq
    · rcases e4 with h0 | h0
      · omega
      · rw [eq _ (by omega) (by omega), hno _ hgt (by omega)] at h0
        cases h0
  rw [hk]
theorem find_there {apex q : ByteArray} {L : List Rec} {x a : List (List UInt8)} (hv : Valid apex L) (h : AskIn apex q x a) (ht : rthereB L q = true) (t : Int) : restR a.length L q t (enclTo a.length L q (x.length - a.length)) = standsR L q t q q false := by
  have hs := tail_self h.q
  rw [encl_of hv h h.le (Nat.le_refl _) (by rw [hs]; exact ht) (fun j h1 h2 => by omega), hs]
  unfold restR
  rw [if_pos rfl]
theorem find_away {apex q : ByteArray} {L : List Rec} {x a : List (List UInt8)} (hv : Valid apex L) (h : AskIn apex q x a) {k : Nat} (h1 : a.length ≤ k) (h2 : k < x.length) (ht : rthereB L (tailS q k) = true) (hno : ∀ j, k < j → j ≤ x.length → rthereB L (tailS q j) = false) (t : Int) :
    restR a.length L q t (enclTo a.length L q (x.length - a.length)) = if rthereB L (starS (tailS q k)) = true then { standsR L (starS (tailS q k)) t (starS (tailS q k)) (tailS q k) true with recs := owned q (standsR L (starS (tailS q k)) t (starS (tailS q k)) (tailS q k) true).recs } else ⟨6, q, tailS q k, false, []⟩ := by
  rw [encl_of hv h h1 (by omega) ht hno]
  have hc := count_of h.apex
  have hne : ¬ tailS q k = q := fun e => by have := (tail_name h.q (k := k) (by omega)).2.2.1.1 e; omega
  have hst := rthere_there hv (n := starS (tailS q k)) (fun hcs => by
    obtain ⟨y, hy⟩ := rows_check (tail_name h.q (k := k) (by omega)).1
    have h3 := star_rows hy rfl hcs
    rw [h3, hc, (tail_name h.q (k := k) (by omega)).2.1]
    omega)
  rw [hc, Int.toNat_natCast] at hst
  unfold restR
  rw [if_neg hne, hst]
theorem find_out {apex q : ByteArray} {L : List Rec} {x a : List (List UInt8)} {t : Int} (hw : withinB q apex = true ∧ 1 ≤ t ∧ t ≤ 65535) (h : AskIn apex q x a) (hno : findTo a.length L q t (x.length - a.length) = none) : findR apex L q t = restR a.length L q t (enclTo a.length L q (x.length - a.length)) := findR_miss hw h hno
end zn
end Go.Proofs.YtpjoaghnciomeaaGreat
/-
  The reference's zone: Find.
-/
namespace Go.Proofs.YtpjoaghnciomeaaGreat
open Go.RowKit Go.Shelf Go.Proofs.YtpjoaghnciomeaaGreat.nm Go.Proofs.YtpjoaghnciomeaaGreat.od

abbrev Z5 : Array Value := #[.int .i64 0, .string ⟨#[]⟩, .string ⟨#[]⟩, .bool false, .slice none 0 0]
/-- The two blocks of Find: what it answers, and what it has. -/
def FB (w W : World) (v : Array Value) : Prop :=
  Below w.heap.size w W ∧ W.heap[w.heap.size]? = some (.cells Z5 48 (0, 0)) ∧ W.heap[w.heap.size + 1]? = some (.cells v 48 (0, 0))
theorem FB.lt {w W : World} {v : Array Value} (h : FB w W v) : w.heap.size + 1 < W.heap.size := heap_lt h.2.2
theorem FB.below {w W W' : World} {v : Array Value} (h : FB w W v) (hb : Below W.heap.size W W') : FB w W' v :=
  ⟨h.1.trans (hb.mono h.1.size), (hb.block _ (heap_lt h.2.1)).trans h.2.1, (hb.block _ (heap_lt h.2.2)).trans h.2.2⟩
theorem FB.set {w W : World} {v : Array Value} (h : FB w W v) (i : Nat) (u : Value) : FB w (W.setCell ⟨w.heap.size + 1, i, none⟩ u) (v.setIfInBounds i u) :=
  ⟨h.1.setCell (by show w.heap.size ≤ w.heap.size + 1; omega) _, heap_set_keep h.2.1 (by show w.heap.size ≠ w.heap.size + 1; omega) _, heap_set_at h.2.2 i u⟩

/-- How Find ends, from a block that is filled. -/
theorem rfound_end {w W : World} {v0 v1 v2 v3 v4 : Value} {a0 a1 a2 a3 a4 : Value} {T : TypeId} {f : zn.Fnd} {sl : Value} (h : W.heap[w.heap.size]? = some (.cells #[a0, a1, a2, a3, a4] T (0, 0))) (hB : Below w.heap.size w W) (base : Nat) (hb : w.heap.size < base)
    (hown : W.ownsRow base 53 5 sl f.recs.length (recsC f.recs)) :
    (((((W.setCell ⟨w.heap.size, 0, none⟩ v0).setCell ⟨w.heap.size, 1, none⟩ v1).setCell ⟨w.heap.size, 2, none⟩ v2).setCell ⟨w.heap.size, 3, none⟩ v3).setCell ⟨w.heap.size, 4, none⟩ v4).ownsRow w.heap.size 53 5 sl f.recs.length (recsC f.recs) := by
  obtain ⟨_, _, x3⟩ := fnd_store h hB (Nat.le_refl _) v0 v1 v2 v3 v4
  refine ownsRow_base (ownsRow_keepOne hown fun b hb' => ?_) (Nat.le_of_lt hb)
  have := (hown.lt b hb').1
  exact x3 b (by omega)


set_option maxRecDepth 100000 in
set_option maxHeartbeats 8000000 in
theorem rfind_any (z : Nat) (apex : ByteArray) (hapz : apex.size ≤ 1099511627776) (L : List Rec) (hva : zn.Valid apex L) (q : ByteArray) (hq : q.size ≤ 1099511627776) (t : Int) (w : World) (hz : RZone w z apex L) :
    Calls Tryz.prog 28 #[.pointer (some ⟨z, 0, none⟩), .string q, .int .i64 t] w fun e w' => NewFnd (zn.findR apex L q t) w e w' := by
  have hL := hva.small
  have hnm := hva.named
  have hRZ := fun W (hB : Below w.heap.size w W) => hz.below hB
  obtain ⟨g, cap, hzc, hrec⟩ := hz
  have hzl := heap_lt hzc
  have hsz : ∀ r ∈ L, r.owner.size ≤ 1099511627776 := fun r hr => by have := checkB_size (hnm r hr); omega
  have HC := Lib.hid (fun W (hB : Below w.heap.size w W) => rz_cells hzc hrec hB)
  have HRZ := Lib.hid (fun W (hB : Below w.heap.size w W) => (show RZone w z apex L from ⟨g, cap, hzc, hrec⟩).below hB)
  have hhas := fun W (hB : Below w.heap.size w W) n hn t => rhas_any L (by omega) hsz n hn t (.slice (some ⟨g, 0, none⟩) L.length cap) W (hrec.below hB)
  obtain ⟨w1, hw1⟩ : ∃ W, W = (w.alloc (.cells Z5 48)).alloc (.cells Z5 48) := ⟨_, rfl⟩
  have hF1 : FB w w1 Z5 := by
    rw [hw1]
    refine ⟨((Below.refl _ _).alloc (Nat.le_refl _) _).alloc (by simp) _, heap_alloc_keep (heap_new_at rfl) _, heap_new_at (by simp)⟩
  obtain ⟨z0, z1, _, _⟩ := HC.out w (Below.refl _ _)
  have hs1 := hF1.lt
  have lta : w.heap.size < w1.heap.size := by omega
  unfold Z5 at hw1
  have HW1 := Lib.hid hw1; have HF1 := Lib.hid hF1; have HZC := Lib.hid hzc; have HREC := Lib.hid hrec; have HHAS := Lib.hid hhas; have HSZ := Lib.hid hsz; have HNM := Lib.hid hnm
  clear hw1 hF1 hzc hrec hhas hsz hnm
  clear hRZ
  go_enter Tryz.func28, Tryz.ntmps28
  go_wp2_with fail
  rw [← HW1.out]
  refine (rwithin_any _ _ hq hapz _).mono ?_
  rintro e w2 ⟨rfl, hB2⟩
  have HF2 := Lib.hid (HF1.out.below hB2)
  clear hB2 z0 z1
  by_cases hin : withinB q apex = true ∧ 1 ≤ t ∧ t ≤ 65535
  · obtain ⟨x, a, hx⟩ := zn.ask_in hin.1
    have hle := hx.le
    have hxl : x.length ≤ 255 := by have h := countI_le q; rw [count_of hx.q] at h; omega
    have hca : countI apex = (a.length : Int) := count_of hx.apex
    have hcq : countI q = (x.length : Int) := count_of hx.q
    have hw1' := hin.1
    have ht1 := hin.2.1
    have ht2 := hin.2.2
    rw [hw1']
    have HIN := Lib.hid hin; have HX := Lib.hid hx; have HCA := Lib.hid hca; have HCQ := Lib.hid hcq; have HW1' := Lib.hid hw1'; have HVA := Lib.hid hva
    clear hin hx hca hcq hw1' hva
    obtain ⟨z0, z1, _, hcap⟩ := HC.out w2 HF2.out.1
    go_wp2_with fail
    refine (rcount_any _ hapz _).mono ?_
    rintro e w3 ⟨rfl, hB3⟩
    rw [HCA.out]
    have HF3 := Lib.hid (HF2.out.below hB3)
    clear hB3 z0 z1
    go_wp2_with fail
    go_loopw [8, 9] (fun kv _ wr => ∃ j : Nat, j ≤ x.length - a.length ∧ kv = .int .i64 ((a.length : Int) + 1 + (j : Int)) ∧ zn.findTo a.length L q t j = none ∧ FB w wr Z5) (fun kv _ _ => x.length + 1 - (intOf kv).toNat)
    case atStart => exact ⟨0, Nat.zero_le _, by simp, rfl, HF3.out⟩
    case round =>
      obtain ⟨j, hj, rfl, hno, hF⟩ := hrel
      have HNO := Lib.hid hno; have HF := Lib.hid hF
      have hltr := hF.lt
      clear hno hF
      go_wp2_with fail
      refine (rcount_any _ hq _).mono ?_
      rintro e w6 ⟨rfl, hB6⟩
      rw [HCQ.out]
      have HF6 := Lib.hid (HF.out.below hB6)
      clear hB6
      by_cases hlt : a.length + 1 + j ≤ x.length
      · have hlt' : (a.length : Int) + 1 + (j : Int) ≤ (x.length : Int) := by omega
        go_wp2_with fail
        refine (rtail_any q hq _ _).mono ?_
        rintro e w7 ⟨rfl, hB7⟩
        obtain ⟨n, hn⟩ : ∃ n, n = tailS q ((a.length : Int) + 1 + (j : Int)) := ⟨_, rfl⟩
        rw [← hn]
        have hnk : tailS q ((a.length + (j + 1) : Nat) : Int) = n := by rw [hn]; congr 1; omega
        have hnn := zn.tail_name HX.out.q (k := a.length + (j + 1)) (by omega)
        rw [hnk] at hnn
        have hns : n.size ≤ 1099511627776 := by have := hnn.2.2.2; omega
        have hnq : n = q ↔ a.length + (j + 1) = x.length := hnn.2.2.1
        have hr2 := zn.has_rows (l := L) HNM.out hnn.1 2
        have hr39 := zn.has_rows (l := L) HNM.out hnn.1 39
        have HF7 := Lib.hid (HF6.out.below hB7)
        obtain ⟨z0, z1, _, hcap⟩ := HC.out w7 HF7.out.1
        have HNK := Lib.hid hnk; have HNQ := Lib.hid hnq; have HR2 := Lib.hid hr2; have HR39 := Lib.hid hr39; have HNN := Lib.hid hnn
        clear hnk hnq hr2 hr39 hnn
        clear hB7 hn
        obtain ⟨b2, hb2⟩ : ∃ b, b = (zn.hasB L n 2 && (!decide (n = q) || !decide (t = 43))) := ⟨_, rfl⟩
        have HB2 := Lib.hid hb2
        clear hb2
        go_upto_region 8 with fail
        go_cut [60] (fun s wx => s = .bool b2 ∧ FB w wx Z5)
        case first =>
          go_wp2_with fail
          refine (HHAS.out w7 HF7.out.1 n hns 2).mono ?_
          rintro e w8 ⟨rfl, hB8⟩
          have HF8 := Lib.hid (HF7.out.below hB8)
          clear hB8 z0 z1
          cases h2 : zn.hasB L n 2
          · have H2 := Lib.hid h2
            clear h2
            go_wp2_with fail
            go_meet
            exact ⟨by rw [HB2.out, H2.out]; rfl, HF8.out⟩
          · have H2 := Lib.hid h2
            clear h2
            go_wp2_with fail
            refine (rcount_any _ hq _).mono ?_
            rintro e w9 ⟨rfl, hB9⟩
            rw [HCQ.out]
            have HF9 := Lib.hid (HF8.out.below hB9)
            clear hB9
            by_cases hk : a.length + (j + 1) = x.length
            · have bk : ((a.length : Int) + 1 + (j : Int) == (x.length : Int)) = true := by rw [beq_iff_eq]; omega
              by_cases h43 : t = 43
              · have b43 : (t == 43) = true := by rw [beq_iff_eq]; exact h43
                have HK := Lib.hid hk; have H43 := Lib.hid h43
                clear hk h43
                go_wp2_with fail
                go_meet
                exact ⟨by rw [HB2.out, H2.out, decide_eq_true (HNQ.out.2 HK.out), decide_eq_true H43.out]; rfl, HF9.out⟩
              · have b43 : (t == 43) = false := by rw [beq_eq_false_iff_ne]; exact h43
                have HK := Lib.hid hk; have H43 := Lib.hid h43
                clear hk h43
                go_wp2_with fail
                go_meet
                exact ⟨by rw [HB2.out, H2.out, decide_eq_true (HNQ.out.2 HK.out), decide_eq_false H43.out]; rfl, HF9.out⟩
            · have bk : ((a.length : Int) + 1 + (j : Int) == (x.length : Int)) = false := by rw [beq_eq_false_iff_ne]; omega
              have HK := Lib.hid hk
              clear hk
              go_wp2_with fail
              go_meet
              exact ⟨by rw [HB2.out, H2.out, decide_eq_false (fun h => HK.out (HNQ.out.1 h))]; rfl, HF9.out⟩
        case rest =>
        obtain ⟨rfl, hFc⟩ := hcut
        have HFC := Lib.hid hFc
        clear hFc
        cases b2
        · have hno4 : ¬ (zn.rowsS L (foldS n, 2) ≠ [] ∧ (n ≠ q ∨ t ≠ 43)) := fun h => by
            have h1 := HB2.out
            rw [HR2.out.2 h.1] at h1
            rcases h.2 with h2 | h2
            · rw [decide_eq_false h2] at h1; cases h1
            · rw [decide_eq_false h2] at h1; simp at h1
          have HNO4 := Lib.hid hno4
          clear hno4
          obtain ⟨z0, z1, _, hcap⟩ := HC.out wc HFC.out.1
          obtain ⟨b3, hb3⟩ : ∃ b, b = (zn.hasB L n 39 && !decide (n = q)) := ⟨_, rfl⟩
          have HB3 := Lib.hid hb3
          clear hb3
          obtain ⟨wd, hwd⟩ : ∃ wd : World, wd = wc := ⟨_, rfl⟩
          subst hwd
          go_upto_region 10 with fail
          go_cut [77] (fun s wx => s = .bool b3 ∧ FB w wx Z5)
          case first =>
            go_wp2_with fail
            refine (HHAS.out wd HFC.out.1 n hns 39).mono ?_
            rintro e w9 ⟨rfl, hB9⟩
            have HF9 := Lib.hid (HFC.out.below hB9)
            clear hB9 z0 z1
            cases h2 : zn.hasB L n 39
            · have H2 := Lib.hid h2
              clear h2
              go_wp2_with fail
              go_meet
              exact ⟨by rw [HB3.out, H2.out]; rfl, HF9.out⟩
            · have H2 := Lib.hid h2
              clear h2
              go_wp2_with fail
              refine (rcount_any _ hq _).mono ?_
              rintro e w10 ⟨rfl, hB10⟩
              rw [HCQ.out]
              have HF10 := Lib.hid (HF9.out.below hB10)
              clear hB10
              by_cases hk : a.length + (j + 1) = x.length
              · have bk : (x.length : Int) ≤ (a.length : Int) + 1 + (j : Int) := by omega
                have HK := Lib.hid hk
                clear hk
                go_wp2_with fail
                go_meet
                exact ⟨by rw [HB3.out, H2.out, decide_eq_true (HNQ.out.2 HK.out)]; first | rfl | (rw [decide_eq_false (by omega)]; rfl), HF10.out⟩
              · have bk : (a.length : Int) + 1 + (j : Int) < (x.length : Int) := by omega
                have HK := Lib.hid hk
                clear hk
                go_wp2_with fail
                go_meet
                exact ⟨by rw [HB3.out, H2.out, decide_eq_false (fun h => HK.out (HNQ.out.1 h))]; rfl, HF10.out⟩
          case rest =>
          obtain ⟨rfl, hFc⟩ := hcut
          have HFD := Lib.hid hFc
          clear hFc
          cases b3
          · have hst : zn.stopAt L q t (a.length + (j + 1)) = none := by
              unfold zn.stopAt
              rw [HNK.out, if_neg HNO4.out, if_neg]
              intro h
              have h1 := HB3.out
              rw [HR39.out.2 h.1, decide_eq_false h.2] at h1
              cases h1
            have hno2 := zn.findTo_miss HNO.out hst
            have HST := Lib.hid hst; have HNO2 := Lib.hid hno2
            clear hst hno2
            go_wp2_with fail
            go_roundw
            case rel => exact ⟨j + 1, by omega, by simp only [Value.int.injEq, true_and]; omega, HNO2.out, HFD.out⟩
            case measure => simp [intOf]; omega
          · have hst : zn.stopAt L q t (a.length + (j + 1)) = some ⟨3, n, ByteArray.empty, false, zn.rowsS L (foldS n, 39)⟩ := by
              unfold zn.stopAt
              rw [HNK.out, if_neg HNO4.out, if_pos]
              have h1 := HB3.out
              simp only [Bool.true_eq, Bool.and_eq_true, Bool.not_eq_true', decide_eq_false_iff_not] at h1
              exact ⟨HR39.out.1 h1.1, h1.2⟩
            have hfr : zn.findR apex L q t = ⟨3, n, ByteArray.empty, false, zn.rowsS L (foldS n, 39)⟩ := by
              have h1 := zn.findTo_hit HNO.out hst (x.length - a.length - (j + 1))
              rw [show j + 1 + (x.length - a.length - (j + 1)) = x.length - a.length by omega] at h1
              exact zn.findR_hit HIN.out HX.out h1
            have HST := Lib.hid hst; have HFR := Lib.hid hfr
            clear hst hfr
            go_wp2_with fail
            refine (rset_any z apex L hL HNM.out n hns 39 _ (HRZ.out _ HFD.out.1)).mono ?_
            rintro e w11 ⟨v11, rfl, hB11, hown11⟩
            obtain ⟨a11, c11, rfl, _⟩ := ownsRow_len hown11
            have HF11 := Lib.hid (HFD.out.below hB11)
            have hltd := HFD.out.lt
            obtain ⟨c0, c1, c2, c3, c4, f0, f1, f2, f3, f4⟩ := found_facts HF11.out.2.1
            obtain ⟨m, hm⟩ : ∃ m, m = (zn.rowsS L (foldS n, 39)).length := ⟨_, rfl⟩
            rw [← hm] at hown11 ⊢
            have HM := Lib.hid hm; have HOWN11 := Lib.hid hown11
            clear hm hown11
            clear hB11
            go_wp2_with fail
            obtain ⟨x1, x2, _⟩ := fnd_store HF11.out.2.1 HF11.out.1 (Nat.le_refl _) (.int .i64 3) (.string n) (.string ⟨#[]⟩) (.bool false) (.slice a11 m c11)
            refine found_ret rfl rfl rfl x1 ?_
            rw [HFR.out]
            refine ⟨_, rfl, x2, ?_⟩
            rw [← HM.out]
            refine ownsRow_base (ownsRow_keepOne HOWN11.out fun b hb => ?_) (show w.heap.size ≤ _ by omega)
            have hb2 := (HOWN11.out.lt b hb).1
            exact (fnd_store HF11.out.2.1 HF11.out.1 (Nat.le_refl _) _ _ _ _ _).2.2 b (by omega)
        · have hst : zn.stopAt L q t (a.length + (j + 1)) = some ⟨4, n, ByteArray.empty, false, zn.rowsS L (foldS n, 2)⟩ := by
            unfold zn.stopAt
            rw [HNK.out, if_pos]
            have h1 := HB2.out
            simp only [Bool.true_eq, Bool.and_eq_true, Bool.or_eq_true, Bool.not_eq_true', decide_eq_false_iff_not] at h1
            exact ⟨HR2.out.1 h1.1, h1.2⟩
          have hfr : zn.findR apex L q t = ⟨4, n, ByteArray.empty, false, zn.rowsS L (foldS n, 2)⟩ := by
            have h1 := zn.findTo_hit HNO.out hst (x.length - a.length - (j + 1))
            rw [show j + 1 + (x.length - a.length - (j + 1)) = x.length - a.length by omega] at h1
            exact zn.findR_hit HIN.out HX.out h1
          have HST := Lib.hid hst; have HFR := Lib.hid hfr
          clear hst hfr
          go_wp2_with fail
          refine (rset_any z apex L hL HNM.out n hns 2 _ (HRZ.out _ HFC.out.1)).mono ?_
          rintro e w11 ⟨v11, rfl, hB11, hown11⟩
          obtain ⟨a11, c11, rfl, _⟩ := ownsRow_len hown11
          have HF11 := Lib.hid (HFC.out.below hB11)
          have hltd := HFC.out.lt
          obtain ⟨c0, c1, c2, c3, c4, f0, f1, f2, f3, f4⟩ := found_facts HF11.out.2.1
          obtain ⟨m, hm⟩ : ∃ m, m = (zn.rowsS L (foldS n, 2)).length := ⟨_, rfl⟩
          rw [← hm] at hown11 ⊢
          have HM := Lib.hid hm; have HOWN11 := Lib.hid hown11
          clear hm hown11
          clear hB11
          go_wp2_with fail
          obtain ⟨x1, x2, _⟩ := fnd_store HF11.out.2.1 HF11.out.1 (Nat.le_refl _) (.int .i64 4) (.string n) (.string ⟨#[]⟩) (.bool false) (.slice a11 m c11)
          refine found_ret rfl rfl rfl x1 ?_
          rw [HFR.out]
          refine ⟨_, rfl, x2, ?_⟩
          rw [← HM.out]
          refine ownsRow_base (ownsRow_keepOne HOWN11.out fun b hb => ?_) (show w.heap.size ≤ _ by omega)
          have hb2 := (HOWN11.out.lt b hb).1
          exact (fnd_store HF11.out.2.1 HF11.out.1 (Nat.le_refl _) _ _ _ _ _).2.2 b (by omega)
      · have hje : j = x.length - a.length := by omega
        have hlt' : (x.length : Int) < (a.length : Int) + 1 + (j : Int) := by omega
        have hfr : zn.findR apex L q t = zn.restR a.length L q t (zn.enclTo a.length L q (x.length - a.length)) := zn.find_out HIN.out HX.out (by rw [← hje]; exact HNO.out)
        have HFR := Lib.hid hfr; have HJE := Lib.hid hje
        clear hfr hje
        cases hth : zn.rthereB L q
        · have hmiss : zn.rthereB L (tailS q x.length) = false := by rw [tail_self HX.out.q]; exact hth
          have HTH := Lib.hid hth; have HMISS := Lib.hid hmiss
          clear hth hmiss
          go_wp2_with fail
          refine (rthere_any z apex L hL HNM.out q hq _ (HRZ.out _ HF6.out.1)).mono ?_
          rintro e w7 ⟨rfl, hB7⟩
          rw [HTH.out]
          have HF7 := Lib.hid (HF6.out.below hB7)
          clear hB7
          go_wp2_with fail
          refine (rcount_any _ hq _).mono ?_
          rintro e w8 ⟨rfl, hB8⟩
          rw [HCQ.out]
          have HF8 := Lib.hid (HF7.out.below hB8)
          clear hB8
          obtain ⟨t1, t2⟩ := zn.tail_apex HIN.out.1 HX.out
          have htop := zn.rthere_apex HVA.out t1 t2
          have HTOP := Lib.hid htop
          clear htop
          clear t1 t2
          go_wp2_with fail
          go_loopw [10] (fun kv wr => ∃ k : Nat, a.length ≤ k ∧ k ≤ x.length ∧ kv = .int .i64 (k : Int) ∧ (∀ j, k < j → j ≤ x.length → zn.rthereB L (tailS q j) = false) ∧ FB w wr Z5) (fun kv _ => (intOf kv).toNat)
          case atStart => exact ⟨x.length, hle, Nat.le_refl _, rfl, (fun j h1 h2 => by omega), HF8.out⟩
          case round =>
            obtain ⟨k, hka, hkx, rfl, hab, hF⟩ := hrel
            have hltr := hF.lt
            have HAB := Lib.hid hab; have HF := Lib.hid hF
            clear hab hF
            have hk0 : (0 : Int) ≤ (k : Int) := by omega
            have hnn := zn.tail_name HX.out.q hkx
            have hns : (tailS q (k : Int)).size ≤ 1099511627776 := by have := hnn.2.2.2; omega
            go_wp2_with fail
            refine (rtail_any q hq _ _).mono ?_
            rintro e w9 ⟨rfl, hB9⟩
            have HF9 := Lib.hid (HF.out.below hB9)
            clear hB9
            go_wp2_with fail
            refine (rthere_any z apex L hL HNM.out (tailS q (k : Int)) hns _ (HRZ.out _ HF9.out.1)).mono ?_
            rintro e w10 ⟨rfl, hB10⟩
            have HF10 := Lib.hid (HF9.out.below hB10)
            clear hB10
            cases htk : zn.rthereB L (tailS q (k : Int))
            · have hk1 : a.length < k := by
                rcases Nat.lt_or_ge a.length k with h | h
                · exact h
                · obtain rfl : k = a.length := by omega
                  rw [HTOP.out] at htk
                  cases htk
              have hab2 : ∀ j, k - 1 < j → j ≤ x.length → zn.rthereB L (tailS q j) = false := fun j h1 h2 => by
                rcases Nat.lt_or_ge k j with h | h
                · exact HAB.out j h h2
                · obtain rfl : j = k := by omega
                  exact htk
              have hkk : (k : Int) - 1 = ((k - 1 : Nat) : Int) := by omega
              have HTK := Lib.hid htk; have HAB2 := Lib.hid hab2; have HKK := Lib.hid hkk; have HNN := Lib.hid hnn
              clear htk hab2 hkk hnn
              go_wp2_with fail
              rw [HKK.out]
              go_roundw
              case rel => exact ⟨k - 1, by omega, by omega, rfl, HAB2.out, HF10.out⟩
              case measure => simp [intOf]; omega
            · have hkl : k < x.length := by
                rcases Nat.lt_or_ge k x.length with h | h
                · exact h
                · obtain rfl : k = x.length := by omega
                  rw [HMISS.out] at htk
                  cases htk
              have hfr2 : zn.findR apex L q t = if zn.rthereB L (starS (tailS q k)) = true then { zn.standsR L (starS (tailS q k)) t (starS (tailS q k)) (tailS q k) true with recs := zn.owned q (zn.standsR L (starS (tailS q k)) t (starS (tailS q k)) (tailS q k) true).recs } else ⟨6, q, tailS q k, false, []⟩ := by
                rw [HFR.out]
                exact zn.find_away HVA.out HX.out hka hkl htk HAB.out t
              have HFR2 := Lib.hid hfr2; have HNN := Lib.hid hnn; have HTK := Lib.hid htk
              clear hfr2 hnn htk
              go_wp2_with fail
              refine (rtail_any q hq _ _).mono ?_
              rintro e w11 ⟨rfl, hB11⟩
              obtain ⟨n, hn⟩ : ∃ n, n = tailS q (k : Int) := ⟨_, rfl⟩
              rw [← hn] at HFR2 hns ⊢
              have HF11 := Lib.hid (HF10.out.below hB11)
              obtain ⟨c0, c1, c2, c3, c4, f0, f1, f2, f3, f4⟩ := found_facts HF11.out.2.2
              clear hB11 hn
              have HF12 := Lib.hid (show FB w (w11.setCell ⟨w.heap.size + 1, 2, none⟩ (.string n)) #[.int .i64 0, .string ⟨#[]⟩, .string n, .bool false, .slice none 0 0] from HF11.out.set 2 (.string n))
              go_wp2_with fail
              obtain ⟨w12, hw12⟩ : ∃ W, W = w11.setCell ⟨w.heap.size + 1, 2, none⟩ (.string n) := ⟨_, rfl⟩
              rw [← hw12] at HF12 ⊢
              clear hw12 c0 c1 c2 c3 c4 f0 f1 f2 f3 f4
              refine (rstar_any n hns _).mono ?_
              rintro e w13 ⟨rfl, hB13⟩
              obtain ⟨st, hst⟩ : ∃ s, s = starS n := ⟨_, rfl⟩
              have hss : st.size ≤ 1099511627776 := by rw [hst]; have := star_size n; omega
              rw [← hst] at HFR2 ⊢
              have HF13 := Lib.hid (HF12.out.below hB13)
              clear hB13 hst
              go_wp2_with fail
              refine (rthere_any z apex L hL HNM.out st hss _ (HRZ.out _ HF13.out.1)).mono ?_
              rintro e w14 ⟨rfl, hB14⟩
              have HF14 := Lib.hid (HF13.out.below hB14)
              obtain ⟨c0, c1, c2, c3, c4, f0, f1, f2, f3, f4⟩ := found_facts HF14.out.2.2
              obtain ⟨d0, d1, d2, d3, d4, g0, g1, g2, g3, g4⟩ := found_facts HF14.out.2.1
              clear hB14
              cases hts : zn.rthereB L st
              · have hfr3 : zn.findR apex L q t = ⟨6, q, n, false, []⟩ := by rw [HFR2.out, hts]; rfl
                have HTS := Lib.hid hts; have HFR3 := Lib.hid hfr3
                clear hts hfr3
                have HF15 := Lib.hid (((HF14.out.set 3 (.bool false)).set 0 (.int .i64 6)).set 1 (.string q))
                go_wp2_with fail
                obtain ⟨x1, x2, _⟩ := fnd_store HF15.out.2.1 HF15.out.1 (Nat.le_refl _) (.int .i64 6) (.string q) (.string n) (.bool false) (.slice none 0 0)
                refine found_ret rfl rfl rfl x1 ?_
                rw [HFR3.out]
                exact ⟨_, rfl, x2, World.ownsRow_nil _ _ _ _⟩
              · obtain ⟨f, hf⟩ : ∃ f, f = zn.standsR L st t st n true := ⟨_, rfl⟩
                have hfr3 : zn.findR apex L q t = { f with recs := zn.owned q f.recs } := by rw [HFR2.out, hts, if_pos rfl, hf]
                obtain ⟨k1, k2, k3, _⟩ := zn.stands_kind L st t st n true
                rw [← hf] at k1 k2 k3
                have HF15 := Lib.hid (show FB w ((w14.setCell ⟨w.heap.size + 1, 3, none⟩ (.bool true)).setCell ⟨w.heap.size + 1, 1, none⟩ (.string st)) #[.int .i64 0, .string st, .string n, .bool true, .slice none 0 0] from (HF14.out.set 3 (.bool true)).set 1 (.string st))
                have HF_ := Lib.hid hf
                clear hf
                have HTS := Lib.hid hts; have HFR3 := Lib.hid hfr3; have K1 := Lib.hid k1; have K2 := Lib.hid k2; have K3 := Lib.hid k3
                clear hts hfr3 k1 k2 k3
                go_wp2_with fail
                obtain ⟨w15, hw15⟩ : ∃ W, W = (w14.setCell ⟨w.heap.size + 1, 3, none⟩ (.bool true)).setCell ⟨w.heap.size + 1, 1, none⟩ (.string st) := ⟨_, rfl⟩
                rw [← hw15] at HF15 ⊢
                clear hw15 c0 c1 c2 c3 c4 f0 f1 f2 f3 f4 d0 d1 d2 d3 d4 g0 g1 g2 g3 g4
                refine (rstands_any z apex L HVA.out st hss t st n true _ (HRZ.out _ HF15.out.1)).mono ?_
                rintro e w16 ⟨v16, rfl, hB16, hown16⟩
                rw [← HF_.out] at hown16 ⊢
                obtain ⟨a16, c16, rfl, _⟩ := ownsRow_len hown16
                obtain ⟨m, hm⟩ : ∃ m, m = f.recs.length := ⟨_, rfl⟩
                have hmL : m ≤ 2000 := by rw [hm, HF_.out]; exact Nat.le_trans (stands_len L st t st n true) hL
                rw [← hm] at hown16 ⊢
                have HF16 := Lib.hid (HF15.out.below hB16)
                have hlt15 := HF15.out.lt
                obtain ⟨c0, c1, c2, c3, c4, f0, f1, f2, f3, f4⟩ := found_facts HF16.out.2.2
                have HF17 := Lib.hid (show FB w ((w16.setCell ⟨w.heap.size + 1, 0, none⟩ (.int .i64 f.kind)).setCell ⟨w.heap.size + 1, 4, none⟩ (.slice a16 m c16)) #[.int .i64 f.kind, .string st, .string n, .bool true, .slice a16 m c16] from (HF16.out.set 0 (.int .i64 f.kind)).set 4 (.slice a16 m c16))
                have HOWN17 := Lib.hid (show ((w16.setCell ⟨w.heap.size + 1, 0, none⟩ (.int .i64 f.kind)).setCell ⟨w.heap.size + 1, 4, none⟩ (.slice a16 m c16)).ownsRow w15.heap.size 53 5 (.slice a16 m c16) m (recsC f.recs) from ownsRow_keepOne hown16 fun b hb => by
                  have := (hown16.lt b hb).1
                  rw [Below.heap_setCell _ _ _ _ (by show b ≠ w.heap.size + 1; omega), Below.heap_setCell _ _ _ _ (by show b ≠ w.heap.size + 1; omega)])
                have HM := Lib.hid hm; have HOWN16 := Lib.hid hown16
                clear hm hown16
                clear hB16
                go_wp2_with fail
                obtain ⟨w17, hw17⟩ : ∃ W, W = (w16.setCell ⟨w.heap.size + 1, 0, none⟩ (.int .i64 f.kind)).setCell ⟨w.heap.size + 1, 4, none⟩ (.slice a16 m c16) := ⟨_, rfl⟩
                rw [← hw17] at HF17 HOWN17 ⊢
                clear hw17 c0 c1 c2 c3 c4 f0 f1 f2 f3 f4
                go_loopw [143, 12] (fun kv _ wr => ∃ k : Nat, k ≤ m ∧ kv = .int .i64 (k : Int) ∧ wr.ownsRow w15.heap.size 53 5 (.slice a16 m c16) m (recsC (zn.ownTo q f.recs k)) ∧ FB w wr #[.int .i64 f.kind, .string st, .string n, .bool true, .slice a16 m c16]) (fun kv _ _ => m - (intOf kv).toNat)
                case atStart => exact ⟨0, Nat.zero_le _, rfl, by rw [zn.ownTo_zero]; exact HOWN17.out, HF17.out⟩
                case round =>
                  obtain ⟨i, hi, rfl, hown, hF⟩ := hrel
                  have hltr := hF.lt
                  obtain ⟨c0, c1, c2, c3, c4, f0, f1, f2, f3, f4⟩ := found_facts hF.2.2
                  by_cases him : i < m
                  · obtain ⟨g', capg, hv, hbg, hgl⟩ := hown.form (by omega)
                    simp only [Value.slice.injEq, true_and] at hv
                    obtain ⟨rfl, rfl⟩ := hv
                    have hrec := owns_recs (l := zn.ownTo q f.recs i) (by rw [zn.ownTo_len, ← HM.out]; exact hown)
                    obtain ⟨a', cap', hv, hcap', hr⟩ := hrec
                    simp only [Value.slice.injEq] at hv
                    obtain ⟨rfl, hv2, rfl⟩ := hv
                    clear hv2
                    rw [zn.ownTo_len, ← HM.out] at hcap'
                    obtain ⟨b, off, hbo, _, r0, _⟩ := hr i (by rw [zn.ownTo_len, ← HM.out]; exact him)
                    simp only [Option.some.injEq, Addr.mk.injEq, and_true] at hbo
                    obtain ⟨rfl, rfl⟩ := hbo
                    have hfz : wr.frozen? ⟨g', i * 5, none⟩ = false := by
                      rcases hown.2 with ⟨h1, _⟩ | ⟨g'', cap', cur, h1, _, h2, _⟩
                      · cases h1
                      · simp only [Value.slice.injEq, Option.some.injEq, Addr.mk.injEq, and_true, true_and] at h1
                        rw [h1.1]
                        exact heap_frozen h2 _
                    simp only [Nat.zero_add] at r0
                    have hown2 := ownsRow_owner hown (show i < f.recs.length by rw [← HM.out]; exact him) HM.out
                    have hF2 : FB w (wr.setCell ⟨g', i * 5, none⟩ (.string q)) #[.int .i64 f.kind, .string st, .string n, .bool true, .slice (some ⟨g', 0, none⟩) m c16] := ⟨hF.1.setCell (by show w.heap.size ≤ g'; omega) _, heap_set_keep hF.2.1 (by show w.heap.size ≠ g'; omega) _, heap_set_keep hF.2.2 (by show w.heap.size + 1 ≠ g'; omega) _⟩
                    have HOWN := Lib.hid hown; have HF := Lib.hid hF; have HOWN2 := Lib.hid hown2; have HF2 := Lib.hid hF2
                    clear hown hF hown2 hF2
                    clear hr
                    go_wp2_with fail
                    go_roundw
                    case rel => exact ⟨i + 1, by omega, by go_num, HOWN2.out, HF2.out⟩
                    case measure => simp [intOf]; omega
                  · have hke : i = m := by omega
                    obtain ⟨d0, d1, d2, d3, d4, g0, g1, g2, g3, g4⟩ := found_facts hF.2.1
                    have hkm' : (m : Int) ≤ (i : Int) := by omega
                    have HKE := Lib.hid hke; have HOWN := Lib.hid hown; have HF := Lib.hid hF
                    clear hke hown hF
                    clear him
                    go_wp2_with fail
                    obtain ⟨x1, x2, x3⟩ := fnd_store HF.out.2.1 HF.out.1 (Nat.le_refl _) (.int .i64 f.kind) (.string st) (.string n) (.bool true) (.slice a16 m c16)
                    refine found_ret rfl rfl rfl x1 ?_
                    rw [HFR3.out]
                    refine ⟨_, by show _ = Ending.returned (.agg #[.int .i64 f.kind, .string f.owner, .string f.encl, .bool f.wild, _]); rw [K1.out, K2.out, K3.out], x2, ?_⟩
                    have hown := HOWN.out
                    rw [HKE.out, HM.out, zn.ownTo_all, ← HM.out] at hown
                    have hl : (zn.owned q f.recs).length = m := by rw [HM.out]; unfold zn.owned; simp
                    show World.ownsRow _ _ _ _ _ (zn.owned q f.recs).length (recsC (zn.owned q f.recs))
                    rw [hl]
                    refine ownsRow_base (ownsRow_keepOne hown fun b hb => ?_) (show w.heap.size ≤ w15.heap.size by omega)
                    have hb2 := (hown.lt b hb).1
                    exact x3 b (by omega)
        · have hfr2 : zn.findR apex L q t = zn.standsR L q t q q false := by rw [HFR.out]; exact zn.find_there HVA.out HX.out hth t
          have HTH := Lib.hid hth; have HFR2 := Lib.hid hfr2
          clear hth hfr2
          go_wp2_with fail
          refine (rthere_any z apex L hL HNM.out q hq _ (HRZ.out _ HF6.out.1)).mono ?_
          rintro e w7 ⟨rfl, hB7⟩
          rw [HTH.out]
          have HF7 := Lib.hid (HF6.out.below hB7)
          clear hB7
          obtain ⟨c0, c1, c2, c3, c4, f0, f1, f2, f3, f4⟩ := found_facts HF7.out.2.2
          go_wp2_with fail
          have HF8 := Lib.hid ((HF7.out.set 1 (.string q)).set 2 (.string q))
          obtain ⟨w8, hw8⟩ : ∃ W, W = (w7.setCell ⟨w.heap.size + 1, 1, none⟩ (.string q)).setCell ⟨w.heap.size + 1, 2, none⟩ (.string q) := ⟨_, rfl⟩
          have HF8 := Lib.hid (show FB w _ #[.int .i64 0, .string q, .string q, .bool false, .slice none 0 0] from HF8.out)
          rw [← hw8] at HF8 ⊢
          clear hw8 c0 c1 c2 c3 c4 f0 f1 f2 f3 f4
          refine (rstands_any z apex L HVA.out q hq t q q false _ (HRZ.out _ HF8.out.1)).mono ?_
          rintro e w9 ⟨v9, rfl, hB9, hown9⟩
          obtain ⟨f, hf⟩ : ∃ f, f = zn.standsR L q t q q false := ⟨_, rfl⟩
          rw [← hf] at hown9 ⊢
          obtain ⟨a9, c9, rfl, _⟩ := ownsRow_len hown9
          have HF9 := Lib.hid (HF8.out.below hB9)
          have hlt8 := HF8.out.lt
          obtain ⟨c0, c1, c2, c3, c4, f0, f1, f2, f3, f4⟩ := found_facts HF9.out.2.2
          obtain ⟨d0, d1, d2, d3, d4, g0, g1, g2, g3, g4⟩ := found_facts HF9.out.2.1
          obtain ⟨k1, k2, k3, _⟩ := zn.stands_kind L q t q q false
          rw [← hf] at k1 k2 k3
          have HF_ := Lib.hid hf
          clear hf
          have HOWN9 := Lib.hid hown9; have K1 := Lib.hid k1; have K2 := Lib.hid k2; have K3 := Lib.hid k3
          clear hown9 k1 k2 k3
          clear hB9
          have HF10 := Lib.hid ((HF9.out.set 0 (.int .i64 f.kind)).set 4 (.slice a9 f.recs.length c9))
          go_wp2_with fail
          obtain ⟨x1, x2, x3⟩ := fnd_store HF10.out.2.1 HF10.out.1 (Nat.le_refl _) (.int .i64 f.kind) (.string q) (.string q) (.bool false) (.slice a9 f.recs.length c9)
          refine found_ret rfl rfl rfl x1 ?_
          rw [HFR2.out, ← HF_.out]
          refine ⟨_, by show _ = Ending.returned (.agg #[.int .i64 f.kind, .string f.owner, .string f.encl, .bool f.wild, _]); rw [K1.out, K2.out, K3.out], x2, ?_⟩
          refine ownsRow_base (ownsRow_keepOne HOWN9.out fun b hb => ?_) (show w.heap.size ≤ w8.heap.size by omega)
          have hb2 := (HOWN9.out.lt b hb).1
          rw [x3 b (by omega), Below.heap_setCell _ _ _ _ (by show b ≠ w.heap.size + 1; omega), Below.heap_setCell _ _ _ _ (by show b ≠ w.heap.size + 1; omega)]
  · have hr : zn.findR apex L q t = zn.noFnd := zn.findR_out hin
    obtain ⟨c0, c1, c2, c3, c4, f0, f1, f2, f3, f4⟩ := found_facts HF2.out.2.2
    obtain ⟨d0, d1, d2, d3, d4, g0, g1, g2, g3, g4⟩ := found_facts HF2.out.2.1
    have hend : NewFnd (zn.findR apex L q t) w (.returned (.agg #[.int .i64 0, .string ⟨#[]⟩, .string ⟨#[]⟩, .bool false, .slice none 0 0])) (((((w2.setCell ⟨w.heap.size, 0, none⟩ (.int .i64 0)).setCell ⟨w.heap.size, 1, none⟩ (.string ⟨#[]⟩)).setCell ⟨w.heap.size, 2, none⟩ (.string ⟨#[]⟩)).setCell ⟨w.heap.size, 3, none⟩ (.bool false)).setCell ⟨w.heap.size, 4, none⟩ (.slice none 0 0)) := by
      obtain ⟨_, x2, _⟩ := fnd_store HF2.out.2.1 HF2.out.1 (Nat.le_refl _) (.int .i64 0) (.string ⟨#[]⟩) (.string ⟨#[]⟩) (.bool false) (.slice none 0 0)
      rw [hr]
      exact ⟨_, rfl, x2, World.ownsRow_nil _ _ _ _⟩
    have HR := Lib.hid hr; have HEND := Lib.hid hend
    clear hr hend
    cases hwi : withinB q apex
    · have HWI := Lib.hid hwi
      clear hwi
      clear hin
      go_wp2_with fail
      obtain ⟨x1, _, _⟩ := fnd_store HF2.out.2.1 HF2.out.1 (Nat.le_refl _) (.int .i64 0) (.string ⟨#[]⟩) (.string ⟨#[]⟩) (.bool false) (.slice none 0 0)
      exact found_ret rfl rfl rfl x1 HEND.out
    · by_cases h1 : 1 ≤ t
      · have h2 : 65535 < t := by
          rcases Int.lt_or_le 65535 t with h | h
          · exact h
          · exact absurd ⟨hwi, h1, h⟩ hin
        have HWI := Lib.hid hwi
        clear hwi
        clear hin
        go_wp2_with fail
        obtain ⟨x1, _, _⟩ := fnd_store HF2.out.2.1 HF2.out.1 (Nat.le_refl _) (.int .i64 0) (.string ⟨#[]⟩) (.string ⟨#[]⟩) (.bool false) (.slice none 0 0)
        exact found_ret rfl rfl rfl x1 HEND.out
      · have h1' : t < 1 := by omega
        have HWI := Lib.hid hwi
        clear hwi
        clear hin
        go_wp2_with fail
        obtain ⟨x1, _, _⟩ := fnd_store HF2.out.2.1 HF2.out.1 (Nat.le_refl _) (.int .i64 0) (.string ⟨#[]⟩) (.string ⟨#[]⟩) (.bool false) (.slice none 0 0)
        exact found_ret rfl rfl rfl x1 HEND.out
end Go.Proofs.YtpjoaghnciomeaaGreat

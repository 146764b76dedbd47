/-
  gazetteerlaw11.PolicyFilters, walked.
-/
import Derived.Test.YtnloommafgnanaaQFilC
import Derived.Test.YtnloommafgnanaaQMsgF
import Derived.Test.YtnloommafgnanaaQTwoT
import Derived.Test.YtnloommafgnanaaQLimL
import Derived.Test.YtnloommafgnanaaQRowP
namespace Go.Proofs.Ytnloommafgnanaa
open Go.RowKit Go.Shelf Go.Proofs.Ytnloommafgnanaa.nm Go.Proofs.Ytnloommafgnanaa.od

/-- The message of an answer, or none. -/
def outM (res : Option Msg) : Msg := res.getD ⟨hd0, [], [], [], []⟩
theorem filt_out {res : Option Msg} {w w' : World} {e : Ending} (h : FiltPost res w e w') : ∃ q a u d, e = .returned (.tuple #[msgV (outM res).h q a u d, .bool res.isSome]) ∧ Below w.heap.size w w' ∧ QnsAt w' q (outM res).qs ∧ Loose w.heap.size w' q a u d (outM res).qs.length (outM res).an (outM res).au (outM res).ad := by
  cases res with
  | none =>
    obtain ⟨rfl, hB⟩ := h
    exact ⟨_, _, _, _, rfl, hB, owns_qns (base := 0) (World.ownsRow_nil _ _ _ _), ⟨[], World.ownsRow_nil _ _ _ _⟩, World.ownsRow_nil _ _ _ _, World.ownsRow_nil _ _ _ _, World.ownsRow_nil _ _ _ _, nofun, nofun, nofun, nofun, nofun, nofun, hB.size⟩
  | some A =>
    obtain ⟨q, a, u, d, rfl, hB, h1, h2⟩ := h
    exact ⟨q, a, u, d, rfl, hB, h1, h2⟩
theorem rfilt_out {res : Option Msg} {w w' : World} {e : Ending} (h : RFiltPost res w e w') : ∃ q a u d, e = .returned (.tuple #[msgV (outM res).h q a u d, .bool res.isSome]) ∧ Below w.heap.size w w' ∧ QnsAt w' q (outM res).qs ∧ RecsAt w' a (outM res).an ∧ RecsAt w' u (outM res).au ∧ RecsAt w' d (outM res).ad := by
  cases res with
  | none =>
    obtain ⟨rfl, hB⟩ := h
    exact ⟨_, _, _, _, rfl, hB, owns_qns (base := 0) (World.ownsRow_nil _ _ _ _), owns_recs (base := 0) (World.ownsRow_nil _ _ _ _), owns_recs (base := 0) (World.ownsRow_nil _ _ _ _), owns_recs (base := 0) (World.ownsRow_nil _ _ _ _)⟩
  | some A =>
    obtain ⟨q, a, u, d, rfl, hB, h1, h2, h3, h4⟩ := h
    exact ⟨q, a, u, d, rfl, hB, h1, h2, h3, h4⟩
theorem filt_lens {rules : List Rul} {qs : List Qn} {A : Msg} {n : Nat} (h0 : 1 ≤ n) (h1 : A.qs.length ≤ n) (h2 : A.an.length ≤ n) (h3 : A.au.length ≤ n) (h4 : A.ad.length ≤ n) :
    (outM (pf.filt rules qs A)).qs.length ≤ n ∧ (outM (pf.filt rules qs A)).an.length ≤ n ∧ (outM (pf.filt rules qs A)).au.length ≤ n ∧ (outM (pf.filt rules qs A)).ad.length ≤ n := by
  unfold pf.filt
  split
  · exact ⟨h1, h2, h3, h4⟩
  · split
    · exact ⟨h1, h2, h3, h4⟩
    · split
      · exact ⟨Nat.zero_le _, Nat.zero_le _, Nat.zero_le _, Nat.zero_le _⟩
      · refine ⟨h1, ?_, Nat.zero_le _, ?_⟩
        · show (pf.told _ _ _).an.length ≤ n
          unfold pf.told
          dsimp only
          split <;> simp [h0]
        · show (pf.told _ _ _).ad.length ≤ n
          unfold pf.told
          dsimp only
          exact Nat.le_trans (List.length_filter_le _ _) h4
/-- A twin of a message that lies in a block is handed over as a message. -/
theorem TM.fit {w : World} {base b : Nat} {M : Msg} (h : TM w base b M) : ∃ q ga ca gu cu gd cd, MsgB w b M.h q (.slice (some ⟨ga, 0, none⟩) M.an.length ca) (.slice (some ⟨gu, 0, none⟩) M.au.length cu) (.slice (some ⟨gd, 0, none⟩) M.ad.length cd) ∧
    SliceForm q ∧ QnsAt w q M.qs ∧ TwinAt w base ga ca M.an ∧ TwinAt w base gu cu M.au ∧ TwinAt w base gd cd M.ad := by
  obtain ⟨q, ga, ca, gu, cu, gd, cd, hm, r, t1, t2, t3⟩ := h
  exact ⟨q, ga, ca, gu, cu, gd, cd, hm, owns_form r, owns_qns r, t1, t2, t3⟩
set_option maxRecDepth 100000 in
set_option maxHeartbeats 16000000 in
theorem filters_any (rules : List Rul) (hrl : rules.length ≤ 1048576) (hrn : ∀ r ∈ rules, r.name.size ≤ 1099511627776) (rv : Value) (names : List ByteArray) (hnl : names.length ≤ 1048576) (hnn : ∀ n ∈ names, n.size ≤ 1099511627776) (nv : Value)
    (M A : Msg) (mq ma mu md q a u d : Value) (hM : MsgFit M mq ma mu md) (hA : MsgFit A q a u d) (hmn : ∀ q ∈ M.qs, q.name.size ≤ 1099511627776) (w : World) (hrv : RulsAt w rv rules) (hnv : StrsR w nv names) (hm : MsgIn w M mq ma mu md) (ha : MsgIn w A q a u d) :
    Calls Try.prog 3 #[rv, nv, msgV M.h mq ma mu md, msgV A.h q a u d] w fun e w' => e = .returned (.bool true) ∧ Below w.heap.size w w' := by
  obtain ⟨nva, nvc, rfl, -⟩ := id hnv
  obtain ⟨w1, hw1⟩ : ∃ X, X = w.alloc (.cells (msgC M.h mq ma mu md).toArray 27) := ⟨_, rfl⟩
  obtain ⟨w2, hw2⟩ : ∃ X, X = w1.alloc (.cells (msgC A.h q a u d).toArray 27) := ⟨_, rfl⟩
  obtain ⟨hB1, hs1, hm1⟩ := msg_new hw1
  obtain ⟨hB2, hs2, hm2⟩ := msg_new hw2
  have HM2 := Lib.hid (hm1.below hB2); have HA2 := Lib.hid hm2
  have HB2 := Lib.hid (hB1.trans (hB2.mono hB1.size))
  obtain ⟨bm, hbm⟩ : ∃ n, n = w.heap.size := ⟨_, rfl⟩
  obtain ⟨ba, hba⟩ : ∃ n, n = w1.heap.size := ⟨_, rfl⟩
  have e1 : w.heap.size + 1 = ba := by omega
  rw [← hbm] at HM2
  rw [← hba] at HA2
  clear hm1 hm2 hB1 hB2 hs1 hs2
  have HMF := Lib.hid hM; have HAF := Lib.hid hA; have HMI := Lib.hid hm; have HAI := Lib.hid ha
  clear hM hA hm ha
  have HW1 := Lib.hid hw1; have HW2 := Lib.hid hw2; have HBM := Lib.hid hbm; have HBA := Lib.hid hba; have E1 := Lib.hid e1; have HRN := Lib.hid hrn; have HNN := Lib.hid hnn; have HMN := Lib.hid hmn; have HRV := Lib.hid hrv; have HNV := Lib.hid hnv
  clear hw1 hw2 hbm hba e1 hrn hnn hmn hrv hnv
  go_enter Try.func3, Try.ntmps3
  go_upto_region 1 with fail
  rw [← HW1.out, ← HW2.out, E1.out, ← HBM.out]
  go_wp2_with fail
  refine (alive_any w2).mono ?_
  rintro e w3 ⟨rfl, hB3⟩
  have HB3 := Lib.hid (HB2.out.trans (hB3.mono HB2.out.size))
  have HM3 := Lib.hid (HM2.out.below hB3); have HA3 := Lib.hid (HA2.out.below hB3)
  clear hB3
  go_wp2_with fail
  go_loopw [21, 10] (fun kv _ wr => ∃ k : Nat, k ≤ names.length ∧ kv = .int .i64 (k : Int) ∧ Below w3.heap.size w3 wr) (fun kv _ _ => names.length - (intOf kv).toNat)
  case atStart => exact ⟨0, Nat.zero_le _, rfl, Below.refl _ _⟩
  case round =>
    obtain ⟨k, hk, rfl, hB⟩ := hrel
    have HBW := Lib.hid (HB3.out.trans (hB.mono HB3.out.size))
    have hsr := hB.size
    by_cases hlt : k < names.length
    · obtain ⟨_, _, hv, hr⟩ := HNV.out.below HBW.out
      simp only [Value.slice.injEq] at hv
      obtain ⟨rfl, -, rfl⟩ := hv
      obtain ⟨nb, off, rfl, _, c0⟩ := hr k hlt
      obtain ⟨n, hn⟩ : ∃ n, n = names[k] := ⟨_, rfl⟩
      have hnz : n.size ≤ 1099511627776 := HNN.out n (by rw [hn]; exact List.getElem_mem hlt)
      rw [← hn] at c0
      have hki : (k : Int) < (names.length : Int) := by omega
      clear hr
      have HN := Lib.hid hn; have HB := Lib.hid hB; have HNZ := Lib.hid hnz
      clear hn hB hnz
      go_wp2_with fail
      clear c0
      refine (rule_any rules (by omega) n _ wr (HRV.out.below HBW.out)).mono ?_
      rintro e w4 ⟨rfl, hB4⟩
      have HB4 := Lib.hid (HB.out.trans (hB4.mono hsr))
      have HC4 := Lib.hid (HBW.out.trans (hB4.mono HBW.out.size))
      obtain ⟨x, hx⟩ : ∃ x, x = pf.optI (pf.ruleO rules n) := ⟨_, rfl⟩
      rw [← hx]
      clear hB4
      have HX := Lib.hid hx
      clear hx
      go_wp2_with fail
      refine (rrule_any rules (by omega) HRN.out n HNZ.out _ w4 (HRV.out.below HC4.out)).mono ?_
      rintro e w5 ⟨rfl, hB5⟩
      have HB5 := Lib.hid (HB4.out.trans (hB5.mono HB4.out.size))
      rw [← HX.out]
      have hxx : (x != x) = false := by rw [bne_eq_false_iff_eq]
      clear hB5
      go_wp2_with fail
      go_roundw
      case rel => exact ⟨k + 1, by omega, by go_num, HB5.out⟩
      case measure => simp [intOf]; omega
    · obtain rfl : names.length = k := by omega
      obtain ⟨w4, hw4⟩ : ∃ X : World, X = wr := ⟨_, rfl⟩
      subst hw4
      have HM4 := Lib.hid (HM3.out.below hB); have HA4 := Lib.hid (HA3.out.below hB)
      have HB4 := Lib.hid (HB3.out.trans (hB.mono HB3.out.size))
      have hb0 := HB4.out.size
      have HTM := Lib.hid (fun (X : World) (hX : Below w4.heap.size w4 X) => twin_of HMF.out X (HMI.out.below (HB4.out.trans (hX.mono hb0))))
      have HTA := Lib.hid (fun (X : World) (hX : Below w4.heap.size w4 X) => twin_of HAF.out X (HAI.out.below (HB4.out.trans (hX.mono hb0))))
      have HALL := Lib.hid (fun (X : World) (hX : Below w4.heap.size w4 X) => (⟨hX, (HM4.out.below hX).facts, (HA4.out.below hX).facts⟩ : Below w4.heap.size w4 X ∧ _ ∧ _))
      clear hsr hb0
      go_upto_region 9 with fail
      go_cut [11, 12] (fun p1 p2 wx => ∃ b1 b2, p1 = .pointer (some ⟨b1, 0, none⟩) ∧ p2 = .pointer (some ⟨b2, 0, none⟩) ∧ TM wx w4.heap.size b1 M ∧ TM wx w4.heap.size b2 A ∧ Below w4.heap.size w4 wx)
      case first =>
        refine tt.twins_region (M := M) (A := A) rfl rfl (Nat.le_of_ble_eq_true rfl) HM4.out HA4.out HTM.out HTA.out ?_
        intro v0 v1 v2 v3 b1 b2 X hx1 hx2 hx3
        simp only [Act.put, List.setIfInBounds_toArray, List.set_cons_zero, List.set_cons_succ]
        have hpost : ∃ c1 c2, ptrB b1 = .pointer (some ⟨c1, 0, none⟩) ∧ ptrB b2 = .pointer (some ⟨c2, 0, none⟩) ∧ TM X w4.heap.size c1 M ∧ TM X w4.heap.size c2 A ∧ Below w4.heap.size w4 X := ⟨b1, b2, rfl, rfl, hx1, hx2, hx3⟩
        have HX1 := Lib.hid hx1; have HX2 := Lib.hid hx2; have HX3 := Lib.hid hx3; have HPOST := Lib.hid hpost
        clear hx1 hx2 hx3 hpost
        go_wp2_with fail
        go_meet
        exact HPOST.out
      case rest =>
        obtain ⟨b1, b2, rfl, rfl, ht1, ht2, hB5⟩ := hcut
        obtain ⟨q1, ga1, ca1, gu1, cu1, gd1, cd1, hx, fq1, qq1, ta1, tu1, td1⟩ := ht1.fit
        obtain ⟨q2, ga2, ca2, gu2, cu2, gd2, cd2, hy, fq2, qq2, ta2, tu2, td2⟩ := ht2.fit
        obtain ⟨w5, hw5⟩ : ∃ X : World, X = wc := ⟨_, rfl⟩
        subst hw5
        have HX5 := Lib.hid hx; have HY5 := Lib.hid hy
        have HM5 := Lib.hid (HM4.out.below hB5); have HA5 := Lib.hid (HA4.out.below hB5)
        have HMI5 := Lib.hid (HMI.out.below (HB4.out.trans (hB5.mono HB4.out.size))); have HAI5 := Lib.hid (HAI.out.below (HB4.out.trans (hB5.mono HB4.out.size)))
        have HRV5 := Lib.hid (HRV.out.below (HB4.out.trans (hB5.mono HB4.out.size)))
        have HB5 := Lib.hid (HB4.out.trans (hB5.mono HB4.out.size))
        obtain ⟨hf1, hf2, hf3, hf4⟩ := filt_lens (rules := rules) (qs := M.qs) (n := 1048576) (by omega) HAF.out.nq HAF.out.na HAF.out.nu HAF.out.nd
        obtain ⟨R, hR⟩ : ∃ R, R = outM (pf.filt rules M.qs A) := ⟨_, rfl⟩
        obtain ⟨ok, hok⟩ : ∃ ok, ok = (pf.filt rules M.qs A).isSome := ⟨_, rfl⟩
        rw [← hR] at hf1 hf2 hf3 hf4
        clear hB5 ht1 ht2
        have HX := Lib.hid hx; have HY := Lib.hid hy; have FQ1 := Lib.hid fq1; have QQ1 := Lib.hid qq1; have TA1 := Lib.hid ta1; have TU1 := Lib.hid tu1; have TD1 := Lib.hid td1; have FQ2 := Lib.hid fq2; have QQ2 := Lib.hid qq2; have TA2 := Lib.hid ta2; have TU2 := Lib.hid tu2; have TD2 := Lib.hid td2; have HR := Lib.hid hR; have HOK := Lib.hid hok
        clear hx hy fq1 qq1 ta1 tu1 td1 fq2 qq2 ta2 tu2 td2 hR hok
        have ek : (ok != ok) = false := by cases ok <;> rfl
        obtain ⟨x0, x1, x2, x3, x4, x5, x6, x7, x8, x9, x10, x11, x12, x13⟩ := MsgB.facts HX5.out
        obtain ⟨y0, y1, y2, y3, y4, y5, y6, y7, y8, y9, y10, y11, y12, y13⟩ := MsgB.facts HY5.out
        go_wp2_with fail
        refine (filter_any rules (by omega) _ M.h M.qs (by have := HMF.out.nq; omega) q1 _ _ _ A (by have := HAF.out.nq; omega) (by have := HAF.out.na; omega) (by have := HAF.out.nu; omega) (by have := HAF.out.nd; omega) q2 _ _ _ FQ2.out (.inr ⟨_, _, _, _, rfl⟩) (.inr ⟨_, _, _, _, rfl⟩) (.inr ⟨_, _, _, _, rfl⟩) w5 HRV5.out QQ1.out QQ2.out TA2.out.recs TU2.out.recs TD2.out.recs).mono ?_
        rintro e w6 hp
        obtain ⟨qa, aa, ua, da, rfl, hB6, hq6, hl6⟩ := filt_out hp
        rw [← HR.out] at hq6 hl6
        obtain ⟨fa1, fa2, rfl, -⟩ := id hq6
        obtain ⟨fb1, fb2, rfl, -⟩ := ownsRow_len hl6.ra
        obtain ⟨fc1, fc2, rfl, -⟩ := ownsRow_len hl6.ru
        obtain ⟨fd1, fd2, rfl, -⟩ := ownsRow_len hl6.rd
        rw [← HR.out, ← HOK.out]
        obtain ⟨w7, hw7⟩ : ∃ X, X = w6.alloc (.cells (msgC R.h (.slice fa1 R.qs.length fa2) (.slice fb1 R.an.length fb2) (.slice fc1 R.au.length fc2) (.slice fd1 R.ad.length fd2)).toArray 27) := ⟨_, rfl⟩
        obtain ⟨hB7, hs7, hn7⟩ := msg_new hw7
        have HC7 := Lib.hid (hB6.trans (hB7.mono hB6.size))
        have HN7 := Lib.hid hn7
        have HD7 := Lib.hid hB7
        have HZ6 := Lib.hid hB6.size
        obtain ⟨n1, hn1⟩ : ∃ n, n = w6.heap.size := ⟨_, rfl⟩
        rw [← hn1] at HN7
        clear hp hB7 hs7 hn7 x0 x1 x2 x3 x4 x5 x6 x7 x8 x9 x10 x11 x12 x13 y0 y1 y2 y3 y4 y5 y6 y7 y8 y9 y10 y11 y12 y13
        have HB6 := Lib.hid hB6; have HQ6 := Lib.hid hq6; have HL6 := Lib.hid hl6; have HW7 := Lib.hid hw7; have HN1 := Lib.hid hn1
        clear hB6 hq6 hl6 hw7 hn1
        go_upto_region 11 with fail
        rw [← HW7.out, ← HN1.out]
        have HM7 := Lib.hid (HM5.out.below HC7.out); have HA7 := Lib.hid (HA5.out.below HC7.out)
        have HMI7 := Lib.hid (HMI5.out.below HC7.out); have HAI7 := Lib.hid (HAI5.out.below HC7.out)
        obtain ⟨x0, x1, x2, x3, x4, x5, x6, x7, x8, x9, x10, x11, x12, x13⟩ := MsgB.facts HM7.out
        obtain ⟨y0, y1, y2, y3, y4, y5, y6, y7, y8, y9, y10, y11, y12, y13⟩ := MsgB.facts HA7.out
        go_wp2_with fail
        refine (rfilter_any rules (by omega) HRN.out _ M.h M.qs (by have := HMF.out.nq; omega) HMN.out mq ma mu md A (by have := HAF.out.nd; omega) q a u d w7 (HRV5.out.below HC7.out) HMI7.out.rq HAI7.out.rq HAI7.out.ra HAI7.out.ru HAI7.out.rd).mono ?_
        rintro e w8 hp
        obtain ⟨qb, ab, ub, db, rfl, hB8, rq8, ra8, ru8, rd8⟩ := rfilt_out hp
        rw [← HR.out] at rq8 ra8 ru8 rd8
        obtain ⟨ga1', ga2', rfl, -⟩ := id rq8
        obtain ⟨gb1', gb2', rfl, -⟩ := id ra8
        obtain ⟨gc1', gc2', rfl, -⟩ := id ru8
        obtain ⟨gd1', gd2', rfl, -⟩ := id rd8
        rw [← HR.out, ← HOK.out]
        obtain ⟨w9, hw9⟩ : ∃ X, X = w8.alloc (.cells (msgC R.h (.slice ga1' R.qs.length ga2') (.slice gb1' R.an.length gb2') (.slice gc1' R.au.length gc2') (.slice gd1' R.ad.length gd2')).toArray 27) := ⟨_, rfl⟩
        obtain ⟨hB9, hs9, hn9⟩ := msg_new hw9
        have HC9 := Lib.hid (HC7.out.trans ((hB8.trans (hB9.mono hB8.size)).mono HC7.out.size))
        have HD9 := Lib.hid (HD7.out.trans ((hB8.trans (hB9.mono hB8.size)).mono HD7.out.size))
        have HN9 := Lib.hid (HN7.out.below (hB8.trans (hB9.mono hB8.size)))
        have HO9 := Lib.hid hn9
        obtain ⟨n2, hn2⟩ : ∃ n, n = w8.heap.size := ⟨_, rfl⟩
        rw [← hn2] at HO9
        have RQ9 := Lib.hid (rq8.below hB9); have RA9 := Lib.hid (ra8.below hB9); have RU9 := Lib.hid (ru8.below hB9); have RD9 := Lib.hid (rd8.below hB9)
        clear hp hB8 hB9 hs9 hn9 rq8 ra8 ru8 rd8 x0 x1 x2 x3 x4 x5 x6 x7 x8 x9 x10 x11 x12 x13 y0 y1 y2 y3 y4 y5 y6 y7 y8 y9 y10 y11 y12 y13
        have HW9 := Lib.hid hw9; have HN2 := Lib.hid hn2
        clear hw9 hn2
        go_upto_region 12 with fail
        rw [← HW9.out, ← HN2.out]
        obtain ⟨x0, x1, x2, x3, x4, x5, x6, x7, x8, x9, x10, x11, x12, x13⟩ := MsgB.facts HN9.out
        obtain ⟨y0, y1, y2, y3, y4, y5, y6, y7, y8, y9, y10, y11, y12, y13⟩ := MsgB.facts HO9.out
        have HL9 := Lib.hid (HL6.out.below HD9.out)
        go_wp2_with fail
        refine (messages_same R.h R.qs R.an R.au R.ad (by omega) (by omega) (by omega) (by omega) (.slice fa1 R.qs.length fa2) (.slice fb1 R.an.length fb2) (.slice fc1 R.au.length fc2) (.slice fd1 R.ad.length fd2) (.slice ga1' R.qs.length ga2') (.slice gb1' R.an.length gb2') (.slice gc1' R.au.length gc2') (.slice gd1' R.ad.length gd2') w9 (HQ6.out.below HD9.out) RQ9.out (owns_recs HL9.out.ra) RA9.out (owns_recs HL9.out.ru) RU9.out (owns_recs HL9.out.rd) RD9.out).mono ?_
        rintro e w10 ⟨rfl, hB10⟩
        have HC10 := Lib.hid (HC9.out.trans (hB10.mono HC9.out.size))
        have HD10 := Lib.hid (HD9.out.trans (hB10.mono HD9.out.size))
        have HB10 := Lib.hid hB10
        clear hB10 x0 x1 x2 x3 x4 x5 x6 x7 x8 x9 x10 x11 x12 x13 y0 y1 y2 y3 y4 y5 y6 y7 y8 y9 y10 y11 y12 y13
        have HN10 := Lib.hid (HN9.out.below HB10.out)
        have HX10 := Lib.hid (HX5.out.below HC10.out); have HM10 := Lib.hid (HM5.out.below HC10.out)
        obtain ⟨x0, x1, x2, x3, x4, x5, x6, x7, x8, x9, x10, x11, x12, x13⟩ := MsgB.facts HX10.out
        obtain ⟨y0, y1, y2, y3, y4, y5, y6, y7, y8, y9, y10, y11, y12, y13⟩ := MsgB.facts HM10.out
        go_wp2_with fail
        refine (wholeMessage_any _ M.h M.qs M.an M.au M.ad (by have := HMF.out.nq; omega) (by have := HMF.out.na; omega) (by have := HMF.out.nu; omega) (by have := HMF.out.nd; omega) q1 ga1 ca1 gu1 cu1 gd1 cd1 _ _ _ _ w10 (QQ1.out.below HC10.out) (TA1.out.below HC10.out) (TU1.out.below HC10.out) (TD1.out.below HC10.out) (HMI5.out.below HC10.out).rq (HMI5.out.below HC10.out).ra (HMI5.out.below HC10.out).ru (HMI5.out.below HC10.out).rd).mono ?_
        rintro e w11 ⟨rfl, hB11⟩
        have HC11 := Lib.hid (HC10.out.trans (hB11.mono HC10.out.size))
        have HD11 := Lib.hid (HD10.out.trans (hB11.mono HD10.out.size))
        have HN11 := Lib.hid (HN10.out.below hB11)
        clear hB11 x0 x1 x2 x3 x4 x5 x6 x7 x8 x9 x10 x11 x12 x13 y0 y1 y2 y3 y4 y5 y6 y7 y8 y9 y10 y11 y12 y13
        have HX11 := Lib.hid (HY5.out.below HC11.out); have HM11 := Lib.hid (HA5.out.below HC11.out)
        obtain ⟨x0, x1, x2, x3, x4, x5, x6, x7, x8, x9, x10, x11, x12, x13⟩ := MsgB.facts HX11.out
        obtain ⟨y0, y1, y2, y3, y4, y5, y6, y7, y8, y9, y10, y11, y12, y13⟩ := MsgB.facts HM11.out
        go_wp2_with fail
        refine (wholeMessage_any _ A.h A.qs A.an A.au A.ad (by have := HAF.out.nq; omega) (by have := HAF.out.na; omega) (by have := HAF.out.nu; omega) (by have := HAF.out.nd; omega) q2 ga2 ca2 gu2 cu2 gd2 cd2 _ _ _ _ w11 (QQ2.out.below HC11.out) (TA2.out.below HC11.out) (TU2.out.below HC11.out) (TD2.out.below HC11.out) (HAI5.out.below HC11.out).rq (HAI5.out.below HC11.out).ra (HAI5.out.below HC11.out).ru (HAI5.out.below HC11.out).rd).mono ?_
        rintro e w12 ⟨rfl, hB12⟩
        have HC12 := Lib.hid (HC11.out.trans (hB12.mono HC11.out.size))
        have HD12 := Lib.hid (HD11.out.trans (hB12.mono HD11.out.size))
        have HN12 := Lib.hid (HN11.out.below hB12)
        clear hB12 x0 x1 x2 x3 x4 x5 x6 x7 x8 x9 x10 x11 x12 x13 y0 y1 y2 y3 y4 y5 y6 y7 y8 y9 y10 y11 y12 y13
        obtain ⟨x0, x1, x2, x3, x4, x5, x6, x7, x8, x9, x10, x11, x12, x13⟩ := MsgB.facts HN12.out
        go_wp2_with fail
        refine (markMessage_any w5.heap.size R.h (.slice fa1 R.qs.length fa2) (.slice fb1 R.an.length fb2) (.slice fc1 R.au.length fc2) (.slice fd1 R.ad.length fd2) R.qs.length R.an R.au R.ad (by omega) (by omega) (by omega) (by omega) w12 (HL6.out.below HD12.out)).mono ?_
        rintro e w13 ⟨rfl, hB13⟩
        have HC13 := Lib.hid (HC12.out.trans hB13)
        clear hB13 x0 x1 x2 x3 x4 x5 x6 x7 x8 x9 x10 x11 x12 x13
        have HX13 := Lib.hid (HX5.out.below HC13.out); have HM13 := Lib.hid (HM5.out.below HC13.out)
        obtain ⟨x0, x1, x2, x3, x4, x5, x6, x7, x8, x9, x10, x11, x12, x13⟩ := MsgB.facts HX13.out
        obtain ⟨y0, y1, y2, y3, y4, y5, y6, y7, y8, y9, y10, y11, y12, y13⟩ := MsgB.facts HM13.out
        go_wp2_with fail
        refine (wholeMessage_any _ M.h M.qs M.an M.au M.ad (by have := HMF.out.nq; omega) (by have := HMF.out.na; omega) (by have := HMF.out.nu; omega) (by have := HMF.out.nd; omega) q1 ga1 ca1 gu1 cu1 gd1 cd1 _ _ _ _ w13 (QQ1.out.below HC13.out) (TA1.out.below HC13.out) (TU1.out.below HC13.out) (TD1.out.below HC13.out) (HMI5.out.below HC13.out).rq (HMI5.out.below HC13.out).ra (HMI5.out.below HC13.out).ru (HMI5.out.below HC13.out).rd).mono ?_
        rintro e w14 ⟨rfl, hB14⟩
        have HC14 := Lib.hid (HC13.out.trans (hB14.mono HC13.out.size))
        clear hB14 x0 x1 x2 x3 x4 x5 x6 x7 x8 x9 x10 x11 x12 x13 y0 y1 y2 y3 y4 y5 y6 y7 y8 y9 y10 y11 y12 y13
        have HX14 := Lib.hid (HY5.out.below HC14.out); have HM14 := Lib.hid (HA5.out.below HC14.out)
        obtain ⟨x0, x1, x2, x3, x4, x5, x6, x7, x8, x9, x10, x11, x12, x13⟩ := MsgB.facts HX14.out
        obtain ⟨y0, y1, y2, y3, y4, y5, y6, y7, y8, y9, y10, y11, y12, y13⟩ := MsgB.facts HM14.out
        go_wp2_with fail
        refine (wholeMessage_any _ A.h A.qs A.an A.au A.ad (by have := HAF.out.nq; omega) (by have := HAF.out.na; omega) (by have := HAF.out.nu; omega) (by have := HAF.out.nd; omega) q2 ga2 ca2 gu2 cu2 gd2 cd2 _ _ _ _ w14 (QQ2.out.below HC14.out) (TA2.out.below HC14.out) (TU2.out.below HC14.out) (TD2.out.below HC14.out) (HAI5.out.below HC14.out).rq (HAI5.out.below HC14.out).ra (HAI5.out.below HC14.out).ru (HAI5.out.below HC14.out).rd).mono ?_
        rintro e w15 ⟨rfl, hB15⟩
        have HC15 := Lib.hid (HC14.out.trans (hB15.mono HC14.out.size))
        clear hB15 x0 x1 x2 x3 x4 x5 x6 x7 x8 x9 x10 x11 x12 x13 y0 y1 y2 y3 y4 y5 y6 y7 y8 y9 y10 y11 y12 y13
        have HB15 := Lib.hid (HB5.out.trans (HC15.out.mono HB5.out.size))
        go_wp2_with fail
        go_ret
        exact ⟨rfl, HB15.out⟩
end Go.Proofs.Ytnloommafgnanaa

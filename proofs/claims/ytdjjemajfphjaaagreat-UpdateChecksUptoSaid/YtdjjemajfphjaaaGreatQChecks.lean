import Derived.Test.YtdjjemajfphjaaaGreatQUpdL
import Derived.Test.YtdjjemajfphjaaaGreatQRChk
import Derived.Test.YtdjjemajfphjaaaGreatQMsgF
namespace Go.Proofs.YtdjjemajfphjaaaGreat
open Go.RowKit Go.Shelf Go.WideMaps Go.Proofs.YtdjjemajfphjaaaGreat.nm Go.Proofs.YtdjjemajfphjaaaGreat.od
set_option maxRecDepth 100000 in
set_option maxHeartbeats 8000000 in
theorem checks_any (top : ByteArray) (htop : top.size ≤ 1099511627776) (l : List Rec) (hok : ∀ r ∈ l, (Lit.int .i64 r.typ).wf = true) (hsz : ∀ r ∈ l, r.owner.size ≤ 1099511627776) (v : Value) (hf : SliceForm v) (M : Msg) (q a u d : Value) (fit : MsgFit M q a u d)
    (sq : ∀ x ∈ M.qs, x.name.size ≤ 1099511627776) (sa : ∀ x ∈ M.an, x.owner.size ≤ 1099511627776) (su : ∀ x ∈ M.au, x.owner.size ≤ 1099511627776) (sd : ∀ x ∈ M.ad, x.owner.size ≤ 1099511627776)
    (w : World) (hrv : RecsAt w v l) (hin : MsgIn w M q a u d) :
    Calls Tryz.prog 3 #[.string top, v, msgV M.h q a u d] w fun e w' => e = .returned (.bool true) ∧ Below w.heap.size w w' := by
  obtain ⟨w1, hw1⟩ : ∃ X, X = w.alloc (.cells (msgC M.h q a u d).toArray 25) := ⟨_, rfl⟩
  obtain ⟨hB1, hs1, hm1⟩ := msg_new hw1
  obtain ⟨bm, hbm⟩ : ∃ b, b = w.heap.size := ⟨_, rfl⟩
  rw [← hbm] at hm1
  have HN := Lib.hid (both_any top htop l hok hsz v hf w1 (hrv.below hB1))
  have HM := Lib.hid hm1; have HW1 := Lib.hid hw1; have HBM := Lib.hid hbm; have HB1 := Lib.hid hB1
  have HI := Lib.hid (show ∀ X, Below w1.heap.size w1 X → MsgIn X M q a u d from fun X hX => (hin.below hB1).below hX)
  have HF := Lib.hid fit; have SQ := Lib.hid sq; have SA := Lib.hid sa; have SU := Lib.hid su; have SD := Lib.hid sd; have HT := Lib.hid htop
  obtain ⟨qa, qc, rfl, -⟩ := id hin.rq
  obtain ⟨aa, ac, rfl, -⟩ := id hin.ra
  obtain ⟨ua, uc, rfl, -⟩ := id hin.ru
  obtain ⟨da, dc, rfl, -⟩ := id hin.rd
  clear hw1 hB1 hs1 hm1 hbm hrv hin fit sq sa su sd hok hsz
  go_enter Tryz.func3, Tryz.ntmps3
  go_upto_region 1 with fail
  rw [← HW1.out, ← HBM.out]
  go_wp2_with fail
  refine HN.out.mono ?_
  rintro e w2 ⟨hB2, ⟨-, rfl⟩ | ⟨-, z, y, L, hs, rfl, hva, tz, hzf, hy⟩⟩
  · have HB2 := Lib.hid (HB1.out.trans (hB2.mono HB1.out.size))
    clear hB2
    go_wp2_with fail
    refine (alive_any w2).mono ?_
    rintro e w3 ⟨rfl, hB3⟩
    have HB3 := Lib.hid (HB2.out.trans (hB3.mono HB2.out.size))
    clear hB3
    go_wp2_with fail
    go_ret
    exact ⟨rfl, HB3.out⟩
  · have HB2 := Lib.hid hB2
    have HZ := Lib.hid hzf; have HY := Lib.hid hy; have HVA := Lib.hid hva
    clear hB2 hs hzf hy hva
    go_wp2_with fail
    refine (alive_any w2).mono ?_
    rintro e w3 ⟨rfl, hB3⟩
    have HB3 := Lib.hid (HB2.out.trans (hB3.mono HB2.out.size)); have HZ3 := Lib.hid (HZ.out.kept hB3); have HY3 := Lib.hid (HY.out.below hB3)
    clear hB3
    obtain ⟨m0, m1, m2, m3, m4, m5, m6, m7, m8, m9, m10, m11, m12, m13⟩ := (HM.out.below HB3.out).facts
    go_wp2_with fail
    refine (twin_of HF.out w3 (HI.out w3 HB3.out)).mono ?_
    rintro e w4 ⟨q', ga, ca, gu, cu, gd, cd, rfl, hB4, hq4, ha4, hu4, hd4⟩
    obtain ⟨qa', qc', rfl, -⟩ := ownsRow_len hq4
    obtain ⟨w5, hw5⟩ : ∃ X, X = w4.alloc (.cells (msgC M.h (.slice qa' M.qs.length qc') (.slice (some ⟨ga, 0, none⟩) M.an.length ca) (.slice (some ⟨gu, 0, none⟩) M.au.length cu) (.slice (some ⟨gd, 0, none⟩) M.ad.length cd)).toArray 25) := ⟨_, rfl⟩
    obtain ⟨hB5, hs5, hm5⟩ := msg_new hw5
    obtain ⟨bo, hbo⟩ : ∃ b, b = w4.heap.size := ⟨_, rfl⟩
    rw [← hbo] at hm5
    have HW5 := Lib.hid hw5; have HBO := Lib.hid hbo
    have HB35 := Lib.hid (hB4.trans (hB5.mono hB4.size))
    have HB5 := Lib.hid (HB3.out.trans (HB35.out.mono HB3.out.size))
    have HQT := Lib.hid (show QnsAt w5 (.slice qa' M.qs.length qc') M.qs from (owns_qns hq4).below hB5)
    have HTA := Lib.hid (ha4.below hB5); have HTU := Lib.hid (hu4.below hB5); have HTD := Lib.hid (hd4.below hB5)
    have HM5 := Lib.hid hm5
    clear hw5 hbo hB4 hB5 hs5 hm5 hq4 ha4 hu4 hd4 m0 m1 m2 m3 m4 m5 m6 m7 m8 m9 m10 m11 m12 m13
    go_upto_region 7 with fail
    rw [← HW5.out, ← HBO.out]
    obtain ⟨cs, hcs⟩ : ∃ cs, cs = up.checkI top L M.h M.qs M.an M.au M.ad := ⟨_, rfl⟩
    have n1 := HF.out.nq; have n2 := HF.out.na; have n3 := HF.out.nu; have n4 := HF.out.nd
    have CC : Hid (∀ p, Calls Tryz.prog 9 #[.pointer (some ⟨z, 0, none⟩), msgV M.h (.slice qa' M.qs.length qc') (.slice (some ⟨ga, 0, none⟩) M.an.length ca) (.slice (some ⟨gu, 0, none⟩) M.au.length cu) (.slice (some ⟨gd, 0, none⟩) M.ad.length cd)] (gw w5 p) fun e w'' => e = .returned (.int .i64 cs) ∧ ∃ p', w'' = gw w5 p') := Lib.hid fun p => by
      rw [hcs]
      exact calls_gw (ucheck_any tz z top L HVA.out M.h M.qs M.an M.au M.ad (by omega) (by omega) (by omega) (by omega) _ _ _ _ (gw w5 p) (HZ3.out.kept (HB35.out.trans ((gw_below w5 p).mono HB35.out.size))) (HQT.out.below (gw_below w5 p)) (HTA.out.recs.below (gw_below w5 p)) (HTU.out.recs.below (gw_below w5 p)) (HTD.out.recs.below (gw_below w5 p)))
    have CR : Hid (∀ p, Calls Tryz.prog 10 #[.pointer (some ⟨y, 0, none⟩), msgV M.h (.slice qa M.qs.length qc) (.slice aa M.an.length ac) (.slice ua M.au.length uc) (.slice da M.ad.length dc)] (gw w5 p) fun e w'' => e = .returned (.int .i64 cs) ∧ ∃ p', w'' = gw w5 p') := Lib.hid fun p => by
      rw [hcs]
      have hi := HI.out (gw w5 p) (HB5.out.trans ((gw_below w5 p).mono HB5.out.size))
      exact calls_gw (rcheck6_any y top HT.out L HVA.out M.h M.qs M.an M.au M.ad (by omega) (by omega) (by omega) (by omega) _ _ _ _ (gw w5 p) SQ.out SA.out SU.out SD.out (HY3.out.below (HB35.out.trans ((gw_below w5 p).mono HB35.out.size))) hi.rq hi.ra hi.ru hi.rd)
    have CH : Hid (∀ p, Calls Tryz.prog 11 #[msgV M.h (.slice qa' M.qs.length qc') (.slice (some ⟨ga, 0, none⟩) M.an.length ca) (.slice (some ⟨gu, 0, none⟩) M.au.length cu) (.slice (some ⟨gd, 0, none⟩) M.ad.length cd), msgV M.h (.slice qa M.qs.length qc) (.slice aa M.an.length ac) (.slice ua M.au.length uc) (.slice da M.ad.length dc)] (gw w5 p) fun e w'' => e = .returned (.bool true) ∧ ∃ p', w'' = gw w5 p') := Lib.hid fun p => by
      have hi := HI.out (gw w5 p) (HB5.out.trans ((gw_below w5 p).mono HB5.out.size))
      exact calls_gw (wholeMessage_any _ M.h M.qs M.an M.au M.ad (by omega) (by omega) (by omega) (by omega) _ _ _ _ _ _ _ _ _ _ _ (gw w5 p) (HQT.out.below (gw_below w5 p)) (HTA.out.below (gw_below w5 p)) (HTU.out.below (gw_below w5 p)) (HTD.out.below (gw_below w5 p)) hi.rq hi.ra hi.ru hi.rd)
    clear hcs n1 n2 n3 n4
    obtain ⟨m0, m1, m2, m3, m4, m5, m6, m7, m8, m9, m10, m11, m12, m13⟩ := (HM.out.below HB5.out).facts
    obtain ⟨o0, o1, o2, o3, o4, o5, o6, o7, o8, o9, o10, o11, o12, o13⟩ := HM5.out.facts
    have km0 := gw_cell m0; have km1 := gw_cell m1; have km2 := gw_cell m2; have km3 := gw_cell m3; have km4 := gw_cell m4; have km5 := gw_cell m5; have km6 := gw_cell m6; have km7 := gw_cell m7; have km8 := gw_cell m8; have km9 := gw_cell m9; have km10 := gw_cell m10; have km11 := gw_cell m11; have km12 := gw_cell m12; have km13 := gw_cell m13
    have ko0 := gw_cell o0; have ko1 := gw_cell o1; have ko2 := gw_cell o2; have ko3 := gw_cell o3; have ko4 := gw_cell o4; have ko5 := gw_cell o5; have ko6 := gw_cell o6; have ko7 := gw_cell o7; have ko8 := gw_cell o8; have ko9 := gw_cell o9; have ko10 := gw_cell o10; have ko11 := gw_cell o11; have ko12 := gw_cell o12; have ko13 := gw_cell o13
    clear m0 m1 m2 m3 m4 m5 m6 m7 m8 m9 m10 m11 m12 m13 o0 o1 o2 o3 o4 o5 o6 o7 o8 o9 o10 o11 o12 o13
    have hee : (cs == cs) = true := by rw [beq_iff_eq]
    refine wp_region_gw (by kernel_rfl) (by kernel_rfl) ?_
    repeat (with_reducible refine wpQuiet_step (fun K hK => ?_); go_simp; (try simp only [undef]); first | (with_reducible refine hK _ ?_; clear hK K) | (apply Exists.intro; refine ⟨fun _ => ?_, hK _ ?_⟩; (first | (go_at_call 9; with_reducible exact CC.out _) | (go_at_call 10; with_reducible exact CR.out _) | (go_at_call 11; with_reducible exact CH.out _)); clear hK K) | (with_reducible refine ⟨fun _ h => (by cases h), ?_⟩; with_reducible refine hK _ ?_; clear hK K))
    refine wpQuiet_nil ?_
    (try simp only [show Value.tuple #[] = undef from rfl])
    intro U hU
    have hBU : Below w5.heap.size w5 U := by obtain ⟨g, rfl⟩ := hU; exact gw_below _ g
    clear hU
    have HBU := Lib.hid (HB1.out.trans ((HB5.out.trans (hBU.mono HB5.out.size)).mono HB1.out.size))
    clear hBU km0 km1 km2 km3 km4 km5 km6 km7 km8 km9 km10 km11 km12 km13 ko0 ko1 ko2 ko3 ko4 ko5 ko6 ko7 ko8 ko9 ko10 ko11 ko12 ko13
    go_wp2_with fail
    go_ret
    exact ⟨rfl, HBU.out⟩
end Go.Proofs.YtdjjemajfphjaaaGreat

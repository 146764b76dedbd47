/-
  gazetteerref11.Filter.
-/
import Derived.Test.YtnloommafgnanaaQFilB
import Derived.Test.YtnloommafgnanaaQPolC
namespace Go.Proofs.Ytnloommafgnanaa
open Go.RowKit Go.Shelf Go.Proofs.Ytnloommafgnanaa.nm Go.Proofs.Ytnloommafgnanaa.od

/-- What the reference's Filter answers. -/
def RFiltPost (res : Option Msg) (w : World) (e : Ending) (w' : World) : Prop :=
  match res with
  | none => e = .returned (.tuple #[msgV hd0 (.slice none 0 0) (.slice none 0 0) (.slice none 0 0) (.slice none 0 0), .bool false]) ∧ Below w.heap.size w w'
  | some A => ∃ q a u d, e = .returned (.tuple #[msgV A.h q a u d, .bool true]) ∧ Below w.heap.size w w' ∧ QnsAt w' q A.qs ∧ RecsAt w' a A.an ∧ RecsAt w' u A.au ∧ RecsAt w' d A.ad
theorem recs_nil (w : World) : RecsAt w (.slice none 0 0) [] := ⟨none, 0, rfl, Nat.le_refl _, fun _ hk => absurd hk (Nat.not_lt_zero _)⟩
theorem recs_single {w : World} {b : Nat} {r : Rec} (h : RecAt w b 0 r) (hb : b < w.heap.size) : RecsAt w (.slice (some ⟨b, 0, none⟩) 1 1) [r] :=
  ⟨some ⟨b, 0, none⟩, 1, rfl, Nat.le_refl _, fun k hk => by
    have hk0 : k = 0 := by simpa using hk
    subst hk0
    exact ⟨b, 0, rfl, hb, h⟩⟩
theorem QnsAt.one {w w' : World} {v : Value} {l : List Qn} {b : Nat} (h : QnsAt w v l) (hg : w.grownBy w' (some b)) (hne : l ≠ [] → v.ownBlock ≠ some b) : QnsAt w' v l :=
  qns_keepOne h hg.size fun hl c hc => hg.block c (qns_off h hl c hc) (fun e => hne hl (by rw [hc]; exact e))
theorem RecsAt.one {w w' : World} {v : Value} {l : List Rec} {b : Nat} (h : RecsAt w v l) (hg : w.grownBy w' (some b)) (hne : l ≠ [] → v.ownBlock ≠ some b) : RecsAt w' v l :=
  recs_keepOne h hg.size fun hl c hc => hg.block c (recs_off h hl c hc) (fun e => hne hl (by rw [hc]; exact e))
theorem recs_not {w : World} {v : Value} {l : List Rec} {b : Nat} (h : RecsAt w v l) (hb : w.heap.size ≤ b) : l ≠ [] → v.ownBlock ≠ some b := fun hl e => by have := recs_off h hl b e; omega
theorem qns_not {w : World} {v : Value} {l : List Qn} {b : Nat} (h : QnsAt w v l) (hb : w.heap.size ≤ b) : l ≠ [] → v.ownBlock ≠ some b := fun hl e => by have := qns_off h hl b e; omega
theorem rfilt_drop_end {res : Option Msg} {w W : World} (hr : res = none) (hB : Below w.heap.size w W) : RFiltPost res w (.returned (.tuple #[msgV hd0 (.slice none 0 0) (.slice none 0 0) (.slice none 0 0) (.slice none 0 0), .bool false])) W := by
  subst hr
  exact ⟨rfl, hB⟩
theorem rfilt_end {res : Option Msg} {A : Msg} {w W W' : World} {rb : Nat} {h : Hd} {q a u d : Value} (hr : res = some A) (hh : A.h = h) (hB : Below w.heap.size w W) (hg : W.grownBy W' (some rb)) (hrb : w.heap.size ≤ rb)
    (rq : QnsAt W q A.qs) (ra : RecsAt W a A.an) (ru : RecsAt W u A.au) (rd : RecsAt W d A.ad)
    (fq : A.qs ≠ [] → q.ownBlock ≠ some rb) (fa : A.an ≠ [] → a.ownBlock ≠ some rb) (fu : A.au ≠ [] → u.ownBlock ≠ some rb) (fd : A.ad ≠ [] → d.ownBlock ≠ some rb) :
    RFiltPost res w (.returned (.tuple #[msgV h q a u d, .bool true])) W' := by
  subst hr hh
  exact ⟨q, a, u, d, rfl, hB.grown hg hB.size (fun j hj => by simp only [Option.some.injEq] at hj; omega), rq.one hg fq, ra.one hg fa, ru.one hg fu, rd.one hg fd⟩
set_option maxRecDepth 100000 in
set_option maxHeartbeats 16000000 in
theorem rfilter_any (rules : List Rul) (hrl : rules.length ≤ 1000000000000) (hrn : ∀ r ∈ rules, r.name.size ≤ 1099511627776) (rv : Value) (mh : Hd) (mqs : List Qn) (hmq : mqs.length ≤ 1000000000000) (hmn : ∀ q ∈ mqs, q.name.size ≤ 1099511627776) (mq ma mu md : Value) (A : Msg)
    (hd : A.ad.length * 56 ≤ 1099511627776) (q a u d : Value)
    (w : World) (hrv : RulsAt w rv rules) (hmqs : QnsAt w mq mqs) (rq : QnsAt w q A.qs) (ra : RecsAt w a A.an) (ru : RecsAt w u A.au) (rd : RecsAt w d A.ad) :
    Calls Try.prog 10 #[rv, msgV mh mq ma mu md, msgV A.h q a u d] w fun e w' => RFiltPost (pf.filt rules mqs A) w e w' := by
  obtain ⟨ra0, rcap, rfl, -⟩ := id hrv
  obtain ⟨mqa, mqc, rfl, -⟩ := id hmqs
  obtain ⟨qa0, qc0, rfl, -⟩ := id rq
  obtain ⟨aa0, ac0, rfl, -⟩ := id ra
  obtain ⟨ua0, uc0, rfl, -⟩ := id ru
  obtain ⟨da0, dc0, rfl, -⟩ := id rd
  obtain ⟨h, hh⟩ : ∃ x, x = A.h := ⟨_, rfl⟩
  rw [← hh]
  obtain ⟨w1, hw1⟩ : ∃ X, X = w.alloc (.cells (msgC mh (.slice mqa mqs.length mqc) ma mu md).toArray 27) := ⟨_, rfl⟩
  obtain ⟨w2, hw2⟩ : ∃ X, X = w1.alloc (.cells (msgC h (.slice qa0 A.qs.length qc0) (.slice aa0 A.an.length ac0) (.slice ua0 A.au.length uc0) (.slice da0 A.ad.length dc0)).toArray 27) := ⟨_, rfl⟩
  obtain ⟨w3, hw3⟩ : ∃ X, X = w2.alloc (.cells (msgC hd0 (.slice none 0 0) (.slice none 0 0) (.slice none 0 0) (.slice none 0 0)).toArray 27) := ⟨_, rfl⟩
  obtain ⟨hB1, hs1, hm1⟩ := msg_new hw1
  obtain ⟨hB2, hs2, hm2⟩ := msg_new hw2
  obtain ⟨hB3, hs3, hm3⟩ := msg_new hw3
  have hm1' := (hm1.below hB2).below hB3
  have hm2' := hm2.below hB3
  have hB13 := hB1.trans ((hB2.trans (hB3.mono hB2.size)).mono hB1.size)
  obtain ⟨mb, hmb⟩ : ∃ n, n = w.heap.size := ⟨_, rfl⟩
  obtain ⟨nb, hnb⟩ : ∃ n, n = w1.heap.size := ⟨_, rfl⟩
  obtain ⟨rb, hrb⟩ : ∃ n, n = w2.heap.size := ⟨_, rfl⟩
  have hrbs : rb < w3.heap.size := by omega
  have hnbs : nb < w3.heap.size := by omega
  have hmbs : mb < w3.heap.size := by omega
  have hne1 : mb ≠ rb := by omega
  have hne2 : nb ≠ rb := by omega
  have hrlt : w.heap.size ≤ rb := by omega
  have e1 : w.heap.size + 1 = nb := by omega
  have e2 : w.heap.size + 2 = rb := by omega
  have e3 : w.heap.size + 1 + 1 = rb := by omega
  rw [← hmb] at hm1'
  rw [← hnb] at hm2'
  rw [← hrb] at hm3
  obtain ⟨x0, x1, x2, x3, x4, x5, x6, x7, x8, x9, x10, x11, x12, x13⟩ := hm1'.facts
  have HM1 := Lib.hid hm1'; have HM2 := Lib.hid hm2'; have HM3 := Lib.hid hm3
  clear hm1 hm2 hm3 hm1' hm2' hB1 hB2 hB3 hs1 hs2 hs3
  have HHRV := Lib.hid hrv
  have HW1 := Lib.hid hw1; have HW2 := Lib.hid hw2; have HW3 := Lib.hid hw3; have HB13 := Lib.hid hB13; have HMB := Lib.hid hmb; have HNB := Lib.hid hnb; have HRB := Lib.hid hrb; have E1 := Lib.hid e1; have E2 := Lib.hid e2; have E3 := Lib.hid e3; have HH := Lib.hid hh; have HMQS := Lib.hid hmqs; have RQ := Lib.hid rq; have RA := Lib.hid ra; have RU := Lib.hid ru; have RD := Lib.hid rd; have HRLT := Lib.hid hrlt; have HNE1 := Lib.hid hne1; have HNE2 := Lib.hid hne2; have HRN := Lib.hid hrn; have HMN := Lib.hid hmn
  clear hw1 hw2 hw3 hB13 hmb hnb hrb e1 e2 e3 hh hmqs rq ra ru rd hrlt hne1 hne2 hrn hmn
  clear hrv
  go_enter Try.func10, Try.ntmps10
  go_upto_region 1 with fail
  rw [← HW1.out, ← HW2.out, ← HW3.out, E3.out, E1.out, ← HMB.out]
  by_cases h1 : mqs.length = 1
  · have hb1 : ((mqs.length : Int) != 1) = false := by rw [bne_eq_false_iff_eq]; omega
    have hl0 : 0 < mqs.length := by omega
    obtain ⟨_, _, hv, _, hr⟩ := HMQS.out.below HB13.out
    simp only [Value.slice.injEq] at hv
    obtain ⟨rfl, -, rfl⟩ := hv
    obtain ⟨qb, qo, rfl, _, c0, c1, c2⟩ := hr 0 hl0
    rw [Nat.zero_mul, Nat.add_zero] at c0 c1 c2
    have hq00 : mqs[0]! = mqs[0] := getElem!_pos mqs 0 hl0
    have hq0n := HMN.out mqs[0] (List.getElem_mem hl0)
    have ho2 : pf.pickO rules mqs = pf.ruleO rules mqs[0].name := by unfold pf.pickO; rw [if_pos h1, hq00]
    obtain ⟨q0, hq0⟩ : ∃ x, x = mqs[0] := ⟨_, rfl⟩
    rw [← hq0] at c0 c1 c2 hq00 hq0n ho2
    have hli : (0 : Int) < (mqs.length : Int) := by omega
    obtain ⟨w4, hw4⟩ : ∃ X, X = w3.alloc (.cells (qnC q0).toArray 57) := ⟨_, rfl⟩
    obtain ⟨hB4, hs4, k0, k1, k2⟩ := qn_new w3 w4 q0 hw4
    obtain ⟨lq, hlq⟩ : ∃ n, n = w3.heap.size := ⟨_, rfl⟩
    rw [← hlq] at k0 k1 k2
    obtain ⟨o, ho⟩ : ∃ o, o = pf.ruleO rules q0.name := ⟨_, rfl⟩
    rw [← ho] at ho2
    have HB4 := Lib.hid (HB13.out.trans (hB4.mono HB13.out.size))
    have HM4 := Lib.hid (HM2.out.below hB4); have HRB4 := Lib.hid (HM3.out.below hB4)
    have hlq4 : lq < w4.heap.size := World.block_lt_of_cell? _ _ k0
    have hq4 : QnAt w4 lq 0 q0 := ⟨k0, k1, k2⟩
    have HQ4 := Lib.hid hq4
    clear hq4
    have hnl : nb ≠ lq := by omega
    have hrl2 : rb ≠ lq := by omega
    clear hr h1 hq0 hl0
    have HW4 := Lib.hid hw4; have HS4 := Lib.hid hs4; have HLQ := Lib.hid hlq; have HQ00 := Lib.hid hq00; have HQ0N := Lib.hid hq0n; have HO2 := Lib.hid ho2; have HO := Lib.hid ho; have HNL := Lib.hid hnl; have HRL2 := Lib.hid hrl2
    clear hw4 hs4 hlq hq00 hq0n ho2 ho hnl hrl2
    clear hB4
    go_upto_region 4 with fail
    rw [← HW4.out, ← HLQ.out]
    clear c0 c1 c2 x0 x1 x2 x3 x4 x5 x6 x7 x8 x9 x10 x11 x12 x13
    go_wp2_with fail
    refine (rrule_any rules hrl HRN.out q0.name HQ0N.out _ w4 (HHRV.out.below HB4.out)).mono ?_
    rintro e w5 ⟨rfl, hB5⟩
    rw [← HO.out]
    have HB5 := Lib.hid (HB4.out.trans (hB5.mono HB4.out.size))
    have HM5 := Lib.hid (HM4.out.below hB5); have HRB5 := Lib.hid (HRB4.out.below hB5)
    have HQ5 := Lib.hid (HQ4.out.keep (hB5.block lq hlq4))
    have hs5 := hB5.size
    have HRV5 := Lib.hid (HHRV.out.below HB5.out)
    clear k0 k1 k2 hB5
    cases o with
    | none =>
      have hrs := pf.filt_none (A := A) HO2.out
      rw [pf.optI_none]
      have hst := msg_stored HRB5.out h (.slice qa0 A.qs.length qc0) (.slice aa0 A.an.length ac0) (.slice ua0 A.au.length uc0) (.slice da0 A.ad.length dc0)
      have hpost : RFiltPost (pf.filt rules mqs A) w (.returned (.tuple #[msgV h (.slice qa0 A.qs.length qc0) (.slice aa0 A.an.length ac0) (.slice ua0 A.au.length uc0) (.slice da0 A.ad.length dc0), .bool true])) _ := rfilt_end hrs HH.out.symm HB5.out hst.2 HRLT.out (RQ.out.below HB5.out) (RA.out.below HB5.out) (RU.out.below HB5.out) (RD.out.below HB5.out) (qns_not RQ.out HRLT.out) (recs_not RA.out HRLT.out) (recs_not RU.out HRLT.out) (recs_not RD.out HRLT.out)
      have HST := Lib.hid hst.1
      have HPOST := Lib.hid hpost; have HRS := Lib.hid hrs
      clear hpost hrs
      clear hst
      obtain ⟨x0, x1, x2, x3, x4, x5, x6, x7, x8, x9, x10, x11, x12, x13⟩ := MsgB.facts HM5.out
      have g0 := MsgB.free HM5.out 0; have g1 := MsgB.free HM5.out 1; have g2 := MsgB.free HM5.out 2; have g3 := MsgB.free HM5.out 3; have g4 := MsgB.free HM5.out 4; have g5 := MsgB.free HM5.out 5; have g6 := MsgB.free HM5.out 6; have g7 := MsgB.free HM5.out 7; have g8 := MsgB.free HM5.out 8; have g9 := MsgB.free HM5.out 9; have g10 := MsgB.free HM5.out 10; have g11 := MsgB.free HM5.out 11; have g12 := MsgB.free HM5.out 12; have g13 := MsgB.free HM5.out 13
      obtain ⟨y0, y1, y2, y3, y4, y5, y6, y7, y8, y9, y10, y11, y12, y13⟩ := MsgB.facts HRB5.out
      have f0 := MsgB.free HRB5.out 0; have f1 := MsgB.free HRB5.out 1; have f2 := MsgB.free HRB5.out 2; have f3 := MsgB.free HRB5.out 3; have f4 := MsgB.free HRB5.out 4; have f5 := MsgB.free HRB5.out 5; have f6 := MsgB.free HRB5.out 6; have f7 := MsgB.free HRB5.out 7; have f8 := MsgB.free HRB5.out 8; have f9 := MsgB.free HRB5.out 9; have f10 := MsgB.free HRB5.out 10; have f11 := MsgB.free HRB5.out 11; have f12 := MsgB.free HRB5.out 12; have f13 := MsgB.free HRB5.out 13
      go_wp2_with fail
      exact msg_ret2 (y := .bool true) rfl rfl rfl rfl HST.out HPOST.out
    | some k =>
      have hkl := (pf.pick_lt HO2.out).2
      obtain ⟨_, _, hv, _, hr⟩ := HRV5.out
      simp only [Value.slice.injEq] at hv
      obtain ⟨rfl, -, rfl⟩ := hv
      obtain ⟨bb, off, rfl, hbl, c0, c1, c2, c3, c4, c5⟩ := hr k hkl
      obtain ⟨r, hr0⟩ : ∃ r, r = rules[k] := ⟨_, rfl⟩
      rw [← hr0] at c0 c1 c2 c3 c4 c5
      have hr1 : rules[k]! = r := by rw [hr0]; exact pf.at_rule hkl
      have hki : (k : Int) < (rules.length : Int) := by omega
      have hk0 : decide ((k : Int) < 0) = false := decide_eq_false (by omega)
      rw [pf.optI_some]
      clear hr
      have HR0 := Lib.hid hr0; have HR1 := Lib.hid hr1
      clear hr0 hr1
      by_cases z0 : r.kind = 0
      · have hrs := pf.filt_pass (A := A) HO2.out HR1.out z0
        have zb : (r.kind == 0) = true := by rw [beq_iff_eq]; exact z0
        have Z0 := Lib.hid z0
        clear z0
        have hst := msg_stored HRB5.out h (.slice qa0 A.qs.length qc0) (.slice aa0 A.an.length ac0) (.slice ua0 A.au.length uc0) (.slice da0 A.ad.length dc0)
        have hpost : RFiltPost (pf.filt rules mqs A) w (.returned (.tuple #[msgV h (.slice qa0 A.qs.length qc0) (.slice aa0 A.an.length ac0) (.slice ua0 A.au.length uc0) (.slice da0 A.ad.length dc0), .bool true])) _ := rfilt_end hrs HH.out.symm HB5.out hst.2 HRLT.out (RQ.out.below HB5.out) (RA.out.below HB5.out) (RU.out.below HB5.out) (RD.out.below HB5.out) (qns_not RQ.out HRLT.out) (recs_not RA.out HRLT.out) (recs_not RU.out HRLT.out) (recs_not RD.out HRLT.out)
        have HST := Lib.hid hst.1
        have HPOST := Lib.hid hpost; have HRS := Lib.hid hrs
        clear hpost hrs
        clear hst
        obtain ⟨x0, x1, x2, x3, x4, x5, x6, x7, x8, x9, x10, x11, x12, x13⟩ := MsgB.facts HM5.out
        have g0 := MsgB.free HM5.out 0; have g1 := MsgB.free HM5.out 1; have g2 := MsgB.free HM5.out 2; have g3 := MsgB.free HM5.out 3; have g4 := MsgB.free HM5.out 4; have g5 := MsgB.free HM5.out 5; have g6 := MsgB.free HM5.out 6; have g7 := MsgB.free HM5.out 7; have g8 := MsgB.free HM5.out 8; have g9 := MsgB.free HM5.out 9; have g10 := MsgB.free HM5.out 10; have g11 := MsgB.free HM5.out 11; have g12 := MsgB.free HM5.out 12; have g13 := MsgB.free HM5.out 13
        obtain ⟨y0, y1, y2, y3, y4, y5, y6, y7, y8, y9, y10, y11, y12, y13⟩ := MsgB.facts HRB5.out
        have f0 := MsgB.free HRB5.out 0; have f1 := MsgB.free HRB5.out 1; have f2 := MsgB.free HRB5.out 2; have f3 := MsgB.free HRB5.out 3; have f4 := MsgB.free HRB5.out 4; have f5 := MsgB.free HRB5.out 5; have f6 := MsgB.free HRB5.out 6; have f7 := MsgB.free HRB5.out 7; have f8 := MsgB.free HRB5.out 8; have f9 := MsgB.free HRB5.out 9; have f10 := MsgB.free HRB5.out 10; have f11 := MsgB.free HRB5.out 11; have f12 := MsgB.free HRB5.out 12; have f13 := MsgB.free HRB5.out 13
        go_wp2_with fail
        exact msg_ret2 (y := .bool true) rfl rfl rfl rfl HST.out HPOST.out
      · have zb : (r.kind == 0) = false := by rw [beq_eq_false_iff_ne]; exact z0
        obtain ⟨lr, hlr⟩ : ∃ n, n = w5.heap.size := ⟨_, rfl⟩
        obtain ⟨w7, hw7⟩ : ∃ X, X = w5.alloc (.cells (rulC r).toArray 51) := ⟨_, rfl⟩
        obtain ⟨hB7, hs7, hx7⟩ := rul_new w5 w7 r hw7
        rw [← hlr] at hx7
        have hnb5 : nb < w5.heap.size := HM5.out.lt
        have hrb5 : rb < w5.heap.size := HRB5.out.lt
        have hlrn : lr ≠ nb := by omega
        have HX7 := Lib.hid hx7
        have HRB7 := Lib.hid (HRB5.out.below hB7); have HM7 := Lib.hid (HM5.out.below hB7)
        have HQ7 := Lib.hid (HQ5.out.keep (hB7.block lq (by omega)))
        have HB7 := Lib.hid (HB5.out.trans (hB7.mono HB5.out.size))
        have hlr7 : lr < w7.heap.size := by omega
        have hlq7 : lq < w7.heap.size := by omega
        clear hB7 hs7 hx7
        have HW7 := Lib.hid hw7; have HLR := Lib.hid hlr; have Z0 := Lib.hid z0; have HLRN := Lib.hid hlrn
        clear hw7 hlr z0 hlrn
        go_upto_region 8 with fail
        rw [← HW7.out, ← HLR.out]
        clear c0 c1 c2 c3 c4 c5
        obtain ⟨p0, p1, p2, p3, p4, p5⟩ := id HX7.out
        by_cases z1 : r.kind = 1
        · have zb1 : (r.kind == 1) = true := by rw [beq_iff_eq]; exact z1
          have hrs := pf.filt_drop (A := A) HO2.out HR1.out z1
          have hst := msg_stored HRB7.out hd0 (.slice none 0 0) (.slice none 0 0) (.slice none 0 0) (.slice none 0 0)
          have hBe := HB7.out.grown hst.2 HB7.out.size (fun j hj => by simp only [Option.some.injEq] at hj; have := HRLT.out; omega)
          have hpost : RFiltPost (pf.filt rules mqs A) w (.returned (.tuple #[msgV hd0 (.slice none 0 0) (.slice none 0 0) (.slice none 0 0) (.slice none 0 0), .bool false])) _ := rfilt_drop_end hrs hBe
          have HST := Lib.hid hst.1
          have HPOST := Lib.hid hpost; have HRS := Lib.hid hrs; have Z1 := Lib.hid z1
          clear hpost hrs z1
          clear hst hBe
          obtain ⟨y0, y1, y2, y3, y4, y5, y6, y7, y8, y9, y10, y11, y12, y13⟩ := MsgB.facts HRB7.out
          have f0 := MsgB.free HRB7.out 0; have f1 := MsgB.free HRB7.out 1; have f2 := MsgB.free HRB7.out 2; have f3 := MsgB.free HRB7.out 3; have f4 := MsgB.free HRB7.out 4; have f5 := MsgB.free HRB7.out 5; have f6 := MsgB.free HRB7.out 6; have f7 := MsgB.free HRB7.out 7; have f8 := MsgB.free HRB7.out 8; have f9 := MsgB.free HRB7.out 9; have f10 := MsgB.free HRB7.out 10; have f11 := MsgB.free HRB7.out 11; have f12 := MsgB.free HRB7.out 12; have f13 := MsgB.free HRB7.out 13
          go_wp2_with fail
          exact msg_ret2 (y := .bool false) rfl rfl rfl rfl HST.out HPOST.out
        · have zb1 : (r.kind == 1) = false := by rw [beq_eq_false_iff_ne]; exact z1
          have hrs0 := pf.filt_told (A := A) HO2.out HR1.out Z0.out z1
          rw [HQ00.out] at hrs0
          have y13 := HM7.out.facts.2.2.2.2.2.2.2.2.2.2.2.2.2
          have hdlen : A.ad.length ≤ 1000000000000 := by omega
          obtain ⟨i0_r, hi_r, hz_r, hz1_r, hz2_r⟩ := info_parts info_rec
          have HI_r := Lib.hid hi_r; have HZ_r := Lib.hid hz_r; have HZ1_r := Lib.hid hz1_r; have HZ2_r := Lib.hid hz2_r
          clear hi_r hz_r hz1_r hz2_r
          have HRS0 := Lib.hid hrs0; have Z1 := Lib.hid z1
          clear hrs0 z1
          go_wp2_with fail
          clear p0 p1 p2 p3 p4 p5 y13
          go_loopw [49, 11, 13] (fun kv ov _ wr => ∃ j : Nat, j ≤ A.ad.length ∧ kv = .int .i64 (j : Int) ∧ wr.ownsRow w7.heap.size 41 5 ov (df.keep pf.goes (A.ad.take j)).length (recsC (df.keep pf.goes (A.ad.take j))) ∧ Below w7.heap.size w7 wr) (fun kv _ _ _ => A.ad.length - (intOf kv).toNat)
          case atStart => exact ⟨0, Nat.zero_le _, rfl, World.ownsRow_nil _ _ _ _, Below.refl _ _⟩
          case round =>
            obtain ⟨j, hj, rfl, hown, hB⟩ := hrel
            obtain ⟨oa, oc, rfl, -⟩ := ownsRow_len hown
            have hsr := hB.size
            have HBR := Lib.hid (HB7.out.trans (hB.mono HB7.out.size))
            have hml := df.keep_len pf.goes A.ad j
            by_cases hlt : j < A.ad.length
            · obtain ⟨_, _, hv, _, hr⟩ := RD.out.below HBR.out
              simp only [Value.slice.injEq] at hv
              obtain ⟨rfl, -, rfl⟩ := hv
              obtain ⟨db, doff, rfl, hdbl, c0, c1, c2, c3, c4⟩ := hr j hlt
              have hji : (j : Int) < (A.ad.length : Int) := by omega
              obtain ⟨x, hx⟩ : ∃ x, x = A.ad[j] := ⟨_, rfl⟩
              rw [← hx] at c0 c1 c2 c3 c4
              obtain ⟨M, hM⟩ : ∃ M, M = df.keep pf.goes (A.ad.take j) := ⟨_, rfl⟩
              have hnx := df.keep_next (p := pf.goes) hlt
              rw [← hM] at hown hml hnx ⊢
              rw [← hx] at hnx
              obtain ⟨wa, hwa⟩ : ∃ W, W = wr.alloc (.cells (recC x).toArray 41) := ⟨_, rfl⟩
              obtain ⟨hBa, hsa, hxa⟩ := rec_new wr wa x hwa
              have HROW := Lib.hid (ownsRow_below hown hBa)
              have HBa := Lib.hid (hB.trans (hBa.mono hsr))
              have hsb := HBa.out.size
              obtain ⟨x0, x1, x2, x3, x4⟩ := id hxa
              clear hr hBa hsa hxa
              have HOWN := Lib.hid hown; have HB := Lib.hid hB; have HX := Lib.hid hx; have HM := Lib.hid hM; have HWA := Lib.hid hwa
              clear hown hB hx hM hwa
              go_upto_region 14 with fail
              rw [← HWA.out]
              clear c0 c1 c2 c3 c4
              by_cases t41 : x.typ = 41
              · have tb : (x.typ == 41) = true := by rw [beq_iff_eq]; exact t41
                have hnx2 : df.keep pf.goes (A.ad.take (j + 1)) = M ++ [x] := by rw [hnx, if_neg (by unfold pf.goes; rw [t41]; decide)]
                have T41 := Lib.hid t41; have HNX := Lib.hid hnx; have HNX2 := Lib.hid hnx2
                clear t41 hnx hnx2
                have HB_a := Lib.hid (HBa.out.alloc HBa.out.size (.cells (recC x).toArray 41))
                have HO_a := Lib.hid (ownsRow_keepOne HROW.out fun b hb => Below.heap_alloc wa (.cells (recC x).toArray 41) b (HROW.out.lt b hb).2)
                have P1_a := Lib.hid (show M.length + 1 ≤ maxLen from by unfold maxLen; omega)
                have P2_a := Lib.hid (show (M.length + 1) * 56 ≤ 140737488355328 from by omega)
                have P3_a := Lib.hid (show w7.heap.size ≤ (wa.alloc (.cells (recC x).toArray 41)).heap.size from by have := HBa.out.size; simp; omega)
                have HNEWS_ := Lib.hid (news_at wa (recC x) 41)
                go_wp2_with (at_builtin; refine wpList_append_new _ rfl _ _ 25 rfl w7.heap.size 41 i0_r (.agg #[.string ⟨#[]⟩, .int .i64 0, .int .i64 0, .int .i64 0, .string ⟨#[]⟩]) 5 56 Try.underlying25 HI_r.out HZ_r.out HZ1_r.out HZ2_r.out rfl (by decide) _ _ _ rfl HO_a.out ⟨wa.heap.size, 0, none⟩ 1 1 (recC x) rfl rfl HNEWS_.out (by simp [Value.oneCell']) P1_a.out P2_a.out P3_a.out ?_)
                intro v' w10 hown10 hg10 hnn10
                have HB10 := Lib.hid (HB_a.out.grown hg10 P3_a.out (fun j hj => (HO_a.out.lt j hj).1))
                have HOWN10 := Lib.hid hown10; have HG10 := Lib.hid hg10; have HNN10 := Lib.hid hnn10
                clear hown10 hg10 hnn10 HB_a HO_a P1_a P2_a P3_a HNEWS_
                clear x0 x1 x2 x3 x4
                go_wp2_with fail
                go_roundw
                case rel => exact ⟨j + 1, by omega, by go_num, by rw [HNX2.out, List.length_append, recsC_apps]; simpa [recsC] using HOWN10.out, HB10.out⟩
                case measure => simp [intOf]; omega
              · have tb : (x.typ == 41) = false := by rw [beq_eq_false_iff_ne]; exact t41
                have hnx2 : df.keep pf.goes (A.ad.take (j + 1)) = M := by rw [hnx, if_pos (by unfold pf.goes; rw [bne_iff_ne]; exact t41), List.append_nil]
                have T41 := Lib.hid t41; have HNX := Lib.hid hnx; have HNX2 := Lib.hid hnx2
                clear t41 hnx hnx2
                go_wp2_with fail
                go_roundw
                case rel => exact ⟨j + 1, by omega, by go_num, by rw [HNX2.out]; exact HROW.out, HBa.out⟩
                case measure => simp [intOf]; omega
            · obtain rfl : A.ad.length = j := by omega
              rw [List.take_length] at hown hml ⊢
              obtain ⟨w8, hw8⟩ : ∃ X : World, X = wr := ⟨_, rfl⟩
              subst hw8
              have HOWN := Lib.hid hown
              have HM8 := Lib.hid (HM7.out.below hB); have HRB8 := Lib.hid (HRB7.out.below hB)
              have HX8 := Lib.hid (RulB.below HX7.out hlr7 hB)
              have HQ8 := Lib.hid (HQ7.out.keep (hB.block lq hlq7))
              obtain ⟨w9, hw9⟩ : ∃ X, X = ((((w8.setCell ⟨nb, 11, none⟩ (.slice none 0 0)).setCell ⟨nb, 12, none⟩ (.slice none 0 0)).setCell ⟨nb, 13, none⟩ (.slice oa (df.keep pf.goes A.ad).length oc)).setCell ⟨nb, 3, none⟩ (.bool false)).setCell ⟨nb, 9, none⟩ (.int .i64 0) := ⟨_, rfl⟩
              have HM9 := Lib.hid (by rw [hw9]; exact ((((HM8.out.set11 _).set12 _).set13 _).set3 _).set9 _ : MsgB w9 nb { h with aa := false, rcode := 0 } (.slice qa0 A.qs.length qc0) (.slice none 0 0) (.slice none 0 0) (.slice oa (df.keep pf.goes A.ad).length oc))
              have hg9 : w8.grownBy w9 (some nb) := by rw [hw9]; exact ((((grownBy_setCell w8 ⟨nb, 11, none⟩ _).trans (grownBy_setCell _ ⟨nb, 12, none⟩ _)).trans (grownBy_setCell _ ⟨nb, 13, none⟩ _)).trans (grownBy_setCell _ ⟨nb, 3, none⟩ _)).trans (grownBy_setCell _ ⟨nb, 9, none⟩ _)
              have h9 : ∀ b, b < w8.heap.size → b ≠ nb → w9.heap[b]? = w8.heap[b]? := fun b hb hne => hg9.block b hb (by simpa using hne)
              have HRB9 := Lib.hid (HRB8.out.eqv (h9 rb HRB8.out.lt (fun e => HNE2.out e.symm)))
              have HX9 := Lib.hid (RulB.keep HX8.out (h9 lr (by omega) HLRN.out))
              have HQ9 := Lib.hid (HQ8.out.keep (h9 lq (by omega) (fun e => HNL.out e.symm)))
              have hwn : w.heap.size ≤ nb := by have := HNB.out; have := E1.out; omega
              have HB9 := Lib.hid (HBR.out.grown hg9 HBR.out.size (fun j hj => by simp only [Option.some.injEq] at hj; omega))
              have hown9 : w9.ownsRow w7.heap.size 41 5 (.slice oa (df.keep pf.goes A.ad).length oc) (df.keep pf.goes A.ad).length (recsC (df.keep pf.goes A.ad)) := ownsRow_keepOne HOWN.out fun b hb => h9 b (HOWN.out.lt b hb).2 (by have := (HOWN.out.lt b hb).1; have := HM7.out.lt; omega)
              have HOWN9 := Lib.hid hown9
              have hrb7 : rb < w7.heap.size := HRB7.out.lt
              clear hg9 h9 hown9 hlt hj
              obtain ⟨x0, x1, x2, x3, x4, x5, x6, x7, x8, x9, x10, x11, x12, x13⟩ := MsgB.facts HM8.out
              have g0 := MsgB.free HM8.out 0; have g1 := MsgB.free HM8.out 1; have g2 := MsgB.free HM8.out 2; have g3 := MsgB.free HM8.out 3; have g4 := MsgB.free HM8.out 4; have g5 := MsgB.free HM8.out 5; have g6 := MsgB.free HM8.out 6; have g7 := MsgB.free HM8.out 7; have g8 := MsgB.free HM8.out 8; have g9 := MsgB.free HM8.out 9; have g10 := MsgB.free HM8.out 10; have g11 := MsgB.free HM8.out 11; have g12 := MsgB.free HM8.out 12; have g13 := MsgB.free HM8.out 13
              have HOWN := Lib.hid hown; have HB := Lib.hid hB; have HW9 := Lib.hid hw9
              clear hown hB hw9
              go_upto_region 20 with fail
              rw [← HW9.out]
              clear x0 x1 x2 x3 x4 x5 x6 x7 x8 x9 x10 x11 x12 x13 g0 g1 g2 g3 g4 g5 g6 g7 g8 g9 g10 g11 g12 g13
              obtain ⟨p0, p1, p2, p3, p4, p5⟩ := id HX9.out
              have hs9 : w8.heap.size ≤ w9.heap.size := by have := HB9.out.size; rw [HW9.out]; simp [World.setCell]
              have HQW := Lib.hid (qns_not RQ.out HRLT.out)
              have hoab : ∀ b, (Value.slice oa (df.keep pf.goes A.ad).length oc).ownBlock = some b → w7.heap.size ≤ b := fun b hb => (HOWN9.out.lt b hb).1
              have HDW := Lib.hid (fun (_ : df.keep pf.goes A.ad ≠ []) (e : (Value.slice oa (df.keep pf.goes A.ad).length oc).ownBlock = some rb) => by have := hoab rb e; omega : df.keep pf.goes A.ad ≠ [] → (Value.slice oa (df.keep pf.goes A.ad).length oc).ownBlock ≠ some rb)
              have HDN := Lib.hid (fun (_ : df.keep pf.goes A.ad ≠ []) (e : (Value.slice oa (df.keep pf.goes A.ad).length oc).ownBlock = some nb) => by have := hoab nb e; have := HM7.out.lt; omega : df.keep pf.goes A.ad ≠ [] → (Value.slice oa (df.keep pf.goes A.ad).length oc).ownBlock ≠ some nb)
              have HD9 := Lib.hid (owns_recs HOWN9.out)
              clear hoab
              by_cases z2 : r.kind = 2
              · have zb2 : (r.kind == 2) = true := by rw [beq_iff_eq]; exact z2
                have zb4 : (r.kind == 4) = false := by rw [beq_eq_false_iff_ne]; omega
                have hrs : pf.filt rules mqs A = some ⟨{ h with aa := false, rcode := 3 }, A.qs, [], [], df.keep pf.goes A.ad⟩ := by
                  rw [HRS0.out]; unfold pf.told pf.sayB; rw [if_pos z2, decide_eq_false (show ¬ r.kind = 4 by omega), HH.out]; rfl
                obtain ⟨w10, hw10⟩ : ∃ X, X = w9.setCell ⟨nb, 9, none⟩ (.int .i64 3) := ⟨_, rfl⟩
                have hg10 : w9.grownBy w10 (some nb) := by rw [hw10]; exact grownBy_setCell w9 ⟨nb, 9, none⟩ _
                have HM10 := Lib.hid (by rw [hw10]; exact HM9.out.set9 3 : MsgB w10 nb { h with aa := false, rcode := 3 } (.slice qa0 A.qs.length qc0) (.slice none 0 0) (.slice none 0 0) (.slice oa (df.keep pf.goes A.ad).length oc))
                have HRB10 := Lib.hid (HRB9.out.eqv (hg10.block rb HRB9.out.lt (by simp only [ne_eq, Option.some.injEq]; exact fun e => HNE2.out e.symm)))
                have HX10 := Lib.hid (RulB.keep HX9.out (hg10.block lr (by omega) (by simp only [ne_eq, Option.some.injEq]; exact HLRN.out)))
                have HB10 := Lib.hid (HB9.out.grown hg10 HB9.out.size (fun j hj => by simp only [Option.some.injEq] at hj; omega))
                have HD10 := Lib.hid (HD9.out.one hg10 HDN.out)
                clear hg10
                obtain ⟨x0, x1, x2, x3, x4, x5, x6, x7, x8, x9, x10, x11, x12, x13⟩ := MsgB.facts HM9.out
                have g0 := MsgB.free HM9.out 0; have g1 := MsgB.free HM9.out 1; have g2 := MsgB.free HM9.out 2; have g3 := MsgB.free HM9.out 3; have g4 := MsgB.free HM9.out 4; have g5 := MsgB.free HM9.out 5; have g6 := MsgB.free HM9.out 6; have g7 := MsgB.free HM9.out 7; have g8 := MsgB.free HM9.out 8; have g9 := MsgB.free HM9.out 9; have g10 := MsgB.free HM9.out 10; have g11 := MsgB.free HM9.out 11; have g12 := MsgB.free HM9.out 12; have g13 := MsgB.free HM9.out 13
                have HW10 := Lib.hid hw10; have Z2 := Lib.hid z2
                clear hw10 z2
                go_upto_region 22 with fail
                rw [← HW10.out]
                clear x0 x1 x2 x3 x4 x5 x6 x7 x8 x9 x10 x11 x12 x13 g0 g1 g2 g3 g4 g5 g6 g7 g8 g9 g10 g11 g12 g13
                clear p0 p1 p2 p3 p4 p5
                obtain ⟨p0, p1, p2, p3, p4, p5⟩ := id HX10.out
                have hst := msg_stored HRB10.out { h with aa := false, rcode := 3 } (.slice qa0 A.qs.length qc0) (.slice none 0 0) (.slice none 0 0) (.slice oa (df.keep pf.goes A.ad).length oc)
                have hpost : RFiltPost (pf.filt rules mqs A) w (.returned (.tuple #[msgV { h with aa := false, rcode := 3 } (.slice qa0 A.qs.length qc0) (.slice none 0 0) (.slice none 0 0) (.slice oa (df.keep pf.goes A.ad).length oc), .bool true])) _ := rfilt_end (A := ⟨{ h with aa := false, rcode := 3 }, A.qs, [], [], df.keep pf.goes A.ad⟩) hrs rfl HB10.out hst.2 HRLT.out (RQ.out.below HB10.out) (recs_nil _) (recs_nil _) HD10.out HQW.out (fun hl => absurd rfl hl) (fun hl => absurd rfl hl) HDW.out
                have HST := Lib.hid hst.1
                have HPOST := Lib.hid hpost; have HRS := Lib.hid hrs
                clear hpost hrs
                clear hst
                obtain ⟨x0, x1, x2, x3, x4, x5, x6, x7, x8, x9, x10, x11, x12, x13⟩ := MsgB.facts HM10.out
                have g0 := MsgB.free HM10.out 0; have g1 := MsgB.free HM10.out 1; have g2 := MsgB.free HM10.out 2; have g3 := MsgB.free HM10.out 3; have g4 := MsgB.free HM10.out 4; have g5 := MsgB.free HM10.out 5; have g6 := MsgB.free HM10.out 6; have g7 := MsgB.free HM10.out 7; have g8 := MsgB.free HM10.out 8; have g9 := MsgB.free HM10.out 9; have g10 := MsgB.free HM10.out 10; have g11 := MsgB.free HM10.out 11; have g12 := MsgB.free HM10.out 12; have g13 := MsgB.free HM10.out 13
                obtain ⟨y0, y1, y2, y3, y4, y5, y6, y7, y8, y9, y10, y11, y12, y13⟩ := MsgB.facts HRB10.out
                have f0 := MsgB.free HRB10.out 0; have f1 := MsgB.free HRB10.out 1; have f2 := MsgB.free HRB10.out 2; have f3 := MsgB.free HRB10.out 3; have f4 := MsgB.free HRB10.out 4; have f5 := MsgB.free HRB10.out 5; have f6 := MsgB.free HRB10.out 6; have f7 := MsgB.free HRB10.out 7; have f8 := MsgB.free HRB10.out 8; have f9 := MsgB.free HRB10.out 9; have f10 := MsgB.free HRB10.out 10; have f11 := MsgB.free HRB10.out 11; have f12 := MsgB.free HRB10.out 12; have f13 := MsgB.free HRB10.out 13
                go_wp2_with fail
                exact msg_ret2 (y := .bool true) rfl rfl rfl rfl HST.out HPOST.out
              · have zb2 : (r.kind == 2) = false := by rw [beq_eq_false_iff_ne]; exact z2
                have hh0 : pf.told q0 r A = ⟨{ h with aa := false, rcode := 0 }, A.qs, if pf.sayB q0 r = true then [pf.sayR q0 r] else [], [], df.keep pf.goes A.ad⟩ := by unfold pf.told; rw [if_neg z2, HH.out]
                obtain ⟨sy, hsy⟩ : ∃ b, b = pf.sayB q0 r := ⟨_, rfl⟩
                obtain ⟨k0, k1, k2⟩ := id HQ9.out
                rw [Nat.zero_add] at k1 k2
                have Z2 := Lib.hid z2
                clear z2
                go_upto_region 22 with fail
                go_cut [90] (fun s wx => s = .bool sy ∧ wx = w9)
                case first =>
                  by_cases k4 : r.kind = 4
                  · have zb4 : (r.kind == 4) = true := by rw [beq_iff_eq]; exact k4
                    by_cases t1 : q0.typ = r.typ
                    · have tb1 : (q0.typ == r.typ) = true := by rw [beq_iff_eq]; exact t1
                      have hsy2 : sy = true := by rw [hsy]; unfold pf.sayB; rw [decide_eq_true k4, decide_eq_true t1]; rfl
                      have HSY := Lib.hid hsy2
                      clear hsy hsy2 k4 t1
                      go_wp2_with fail
                      go_meet
                      exact ⟨by rw [HSY.out], rfl⟩
                    · have tb1 : (q0.typ == r.typ) = false := by rw [beq_eq_false_iff_ne]; exact t1
                      by_cases t2 : q0.typ = 255
                      · have tb2 : (q0.typ == 255) = true := by rw [beq_iff_eq]; exact t2
                        have hsy2 : sy = true := by rw [hsy]; unfold pf.sayB; rw [decide_eq_true k4, decide_eq_false t1, decide_eq_true t2]; rfl
                        have HSY := Lib.hid hsy2
                        clear hsy hsy2 k4 t1 t2
                        go_wp2_with fail
                        go_meet
                        exact ⟨by rw [HSY.out], rfl⟩
                      · have tb2 : (q0.typ == 255) = false := by rw [beq_eq_false_iff_ne]; exact t2
                        by_cases t3 : r.typ = 5
                        · have tb3 : (r.typ == 5) = true := by rw [beq_iff_eq]; exact t3
                          have hsy2 : sy = true := by rw [hsy]; unfold pf.sayB; rw [decide_eq_true k4, decide_eq_false t1, decide_eq_false t2, decide_eq_true t3]; rfl
                          have HSY := Lib.hid hsy2
                          clear hsy hsy2 k4 t1 t2 t3
                          go_wp2_with fail
                          go_meet
                          exact ⟨by rw [HSY.out], rfl⟩
                        · have tb3 : (r.typ == 5) = false := by rw [beq_eq_false_iff_ne]; exact t3
                          have hsy2 : sy = false := by rw [hsy]; unfold pf.sayB; rw [decide_eq_true k4, decide_eq_false t1, decide_eq_false t2, decide_eq_false t3]; rfl
                          have HSY := Lib.hid hsy2
                          clear hsy hsy2 k4 t1 t2 t3
                          go_wp2_with fail
                          go_meet
                          exact ⟨by rw [HSY.out], rfl⟩
                  · have zb4 : (r.kind == 4) = false := by rw [beq_eq_false_iff_ne]; exact k4
                    have hsy2 : sy = false := by rw [hsy]; unfold pf.sayB; rw [decide_eq_false k4]; rfl
                    have HSY := Lib.hid hsy2
                    clear hsy hsy2 k4
                    go_wp2_with fail
                    go_meet
                    exact ⟨by rw [HSY.out], rfl⟩
                case rest =>
                obtain ⟨rfl, hwe⟩ := hcut
                rw [hwe]
                clear hwe
                cases sy
                · have hrs : pf.filt rules mqs A = some ⟨{ h with aa := false, rcode := 0 }, A.qs, [], [], df.keep pf.goes A.ad⟩ := by rw [HRS0.out, hh0, ← hsy]; rfl
                  clear hh0
                  have HSY := Lib.hid hsy
                  clear hsy
                  have hst := msg_stored HRB9.out { h with aa := false, rcode := 0 } (.slice qa0 A.qs.length qc0) (.slice none 0 0) (.slice none 0 0) (.slice oa (df.keep pf.goes A.ad).length oc)
                  have hpost : RFiltPost (pf.filt rules mqs A) w (.returned (.tuple #[msgV { h with aa := false, rcode := 0 } (.slice qa0 A.qs.length qc0) (.slice none 0 0) (.slice none 0 0) (.slice oa (df.keep pf.goes A.ad).length oc), .bool true])) _ := rfilt_end (A := ⟨{ h with aa := false, rcode := 0 }, A.qs, [], [], df.keep pf.goes A.ad⟩) hrs rfl HB9.out hst.2 HRLT.out (RQ.out.below HB9.out) (recs_nil _) (recs_nil _) HD9.out HQW.out (fun hl => absurd rfl hl) (fun hl => absurd rfl hl) HDW.out
                  have HST := Lib.hid hst.1
                  have HPOST := Lib.hid hpost; have HRS := Lib.hid hrs
                  clear hpost hrs
                  clear hst
                  obtain ⟨x0, x1, x2, x3, x4, x5, x6, x7, x8, x9, x10, x11, x12, x13⟩ := MsgB.facts HM9.out
                  have g0 := MsgB.free HM9.out 0; have g1 := MsgB.free HM9.out 1; have g2 := MsgB.free HM9.out 2; have g3 := MsgB.free HM9.out 3; have g4 := MsgB.free HM9.out 4; have g5 := MsgB.free HM9.out 5; have g6 := MsgB.free HM9.out 6; have g7 := MsgB.free HM9.out 7; have g8 := MsgB.free HM9.out 8; have g9 := MsgB.free HM9.out 9; have g10 := MsgB.free HM9.out 10; have g11 := MsgB.free HM9.out 11; have g12 := MsgB.free HM9.out 12; have g13 := MsgB.free HM9.out 13
                  obtain ⟨y0, y1, y2, y3, y4, y5, y6, y7, y8, y9, y10, y11, y12, y13⟩ := MsgB.facts HRB9.out
                  have f0 := MsgB.free HRB9.out 0; have f1 := MsgB.free HRB9.out 1; have f2 := MsgB.free HRB9.out 2; have f3 := MsgB.free HRB9.out 3; have f4 := MsgB.free HRB9.out 4; have f5 := MsgB.free HRB9.out 5; have f6 := MsgB.free HRB9.out 6; have f7 := MsgB.free HRB9.out 7; have f8 := MsgB.free HRB9.out 8; have f9 := MsgB.free HRB9.out 9; have f10 := MsgB.free HRB9.out 10; have f11 := MsgB.free HRB9.out 11; have f12 := MsgB.free HRB9.out 12; have f13 := MsgB.free HRB9.out 13
                  go_wp2_with fail
                  exact msg_ret2 (y := .bool true) rfl rfl rfl rfl HST.out HPOST.out
                · have hrs : pf.filt rules mqs A = some ⟨{ h with aa := false, rcode := 0 }, A.qs, [pf.sayR q0 r], [], df.keep pf.goes A.ad⟩ := by rw [HRS0.out, hh0, ← hsy]; rfl
                  clear hh0
                  obtain ⟨w12, hw12⟩ : ∃ X, X = w9.alloc (.cells (recC (pf.sayR q0 r)).toArray 41) := ⟨_, rfl⟩
                  obtain ⟨hB12, hs12, hx12⟩ := rec_new w9 w12 (pf.sayR q0 r) hw12
                  obtain ⟨g, hgn⟩ : ∃ n, n = w9.heap.size := ⟨_, rfl⟩
                  rw [← hgn] at hx12
                  have hgl : g < w12.heap.size := by omega
                  obtain ⟨w13, hw13⟩ : ∃ X, X = w12.setCell ⟨nb, 11, none⟩ (.slice (some ⟨g, 0, none⟩) 1 1) := ⟨_, rfl⟩
                  have hg13 : w12.grownBy w13 (some nb) := by rw [hw13]; exact grownBy_setCell w12 ⟨nb, 11, none⟩ _
                  have HM13 := Lib.hid (by rw [hw13]; exact (HM9.out.below hB12).set11 _ : MsgB w13 nb { h with aa := false, rcode := 0 } (.slice qa0 A.qs.length qc0) (.slice (some ⟨g, 0, none⟩) 1 1) (.slice none 0 0) (.slice oa (df.keep pf.goes A.ad).length oc))
                  have HRB13 := Lib.hid (MsgB.eqv (HRB9.out.below hB12) (hg13.block rb (HRB9.out.below hB12).lt (by simp only [ne_eq, Option.some.injEq]; exact fun e => HNE2.out e.symm)))
                  have HB12 := Lib.hid (HB9.out.trans (hB12.mono HB9.out.size))
                  have HB13' := Lib.hid (HB12.out.grown hg13 HB12.out.size (fun j hj => by simp only [Option.some.injEq] at hj; omega))
                  have HD13 := Lib.hid ((HD9.out.below hB12).one hg13 HDN.out)
                  have hnb9 : nb < w9.heap.size := HM9.out.lt
                  have hrb9 : rb < w9.heap.size := HRB9.out.lt
                  have HA13 := Lib.hid ((recs_single hx12 hgl).one hg13 (fun _ e => by simp only [Value.ownBlock, Option.some.injEq] at e; omega))
                  have HAW := Lib.hid (fun (_ : [pf.sayR q0 r] ≠ []) (e : (Value.slice (some ⟨g, 0, none⟩) 1 1).ownBlock = some rb) => by simp only [Value.ownBlock, Option.some.injEq] at e; omega : [pf.sayR q0 r] ≠ [] → (Value.slice (some ⟨g, 0, none⟩) 1 1).ownBlock ≠ some rb)
                  clear hB12 hg13 hx12 hs12 hnb9 hrb9
                  obtain ⟨x0, x1, x2, x3, x4, x5, x6, x7, x8, x9, x10, x11, x12, x13⟩ := MsgB.facts HM9.out
                  have g0 := MsgB.free HM9.out 0; have g1 := MsgB.free HM9.out 1; have g2 := MsgB.free HM9.out 2; have g3 := MsgB.free HM9.out 3; have g4 := MsgB.free HM9.out 4; have g5 := MsgB.free HM9.out 5; have g6 := MsgB.free HM9.out 6; have g7 := MsgB.free HM9.out 7; have g8 := MsgB.free HM9.out 8; have g9 := MsgB.free HM9.out 9; have g10 := MsgB.free HM9.out 10; have g11 := MsgB.free HM9.out 11; have g12 := MsgB.free HM9.out 12; have g13 := MsgB.free HM9.out 13
                  have z11 : (w9.alloc (.cells #[.string q0.name, .int .i64 r.typ, .int .i64 1, .int .i64 r.ttl, .string r.data] 41)).cell? ⟨nb, 11, none⟩ = some (.slice none 0 0) := cell_alloc_l _ x11
                  have zf11 : (w9.alloc (.cells #[.string q0.name, .int .i64 r.typ, .int .i64 1, .int .i64 r.ttl, .string r.data] 41)).frozen? ⟨nb, 11, none⟩ = false := frozen_alloc_l _ x11 g11
                  clear x0 x1 x2 x3 x4 x5 x6 x7 x8 x9 x10 x11 x12 x13 g0 g1 g2 g3 g4 g5 g6 g7 g8 g9 g10 g11 g12 g13
                  have HW12 := Lib.hid hw12; have HW13 := Lib.hid hw13; have HGN := Lib.hid hgn; have HSY := Lib.hid hsy
                  clear hw12 hw13 hgn hsy
                  go_upto_region 24 with fail
                  rw [← HGN.out, ← HW12.out, ← HW13.out]
                  clear z11 zf11 p0 p1 p2 p3 p4 p5 k0 k1 k2
                  have hst := msg_stored HRB13.out { h with aa := false, rcode := 0 } (.slice qa0 A.qs.length qc0) (.slice (some ⟨g, 0, none⟩) 1 1) (.slice none 0 0) (.slice oa (df.keep pf.goes A.ad).length oc)
                  have hpost : RFiltPost (pf.filt rules mqs A) w (.returned (.tuple #[msgV { h with aa := false, rcode := 0 } (.slice qa0 A.qs.length qc0) (.slice (some ⟨g, 0, none⟩) 1 1) (.slice none 0 0) (.slice oa (df.keep pf.goes A.ad).length oc), .bool true])) _ := rfilt_end (A := ⟨{ h with aa := false, rcode := 0 }, A.qs, [pf.sayR q0 r], [], df.keep pf.goes A.ad⟩) hrs rfl HB13'.out hst.2 HRLT.out (RQ.out.below HB13'.out) HA13.out (recs_nil _) HD13.out HQW.out HAW.out (fun hl => absurd rfl hl) HDW.out
                  have HST := Lib.hid hst.1
                  have HPOST := Lib.hid hpost; have HRS := Lib.hid hrs
                  clear hpost hrs
                  clear hst
                  obtain ⟨x0, x1, x2, x3, x4, x5, x6, x7, x8, x9, x10, x11, x12, x13⟩ := MsgB.facts HM13.out
                  have g0 := MsgB.free HM13.out 0; have g1 := MsgB.free HM13.out 1; have g2 := MsgB.free HM13.out 2; have g3 := MsgB.free HM13.out 3; have g4 := MsgB.free HM13.out 4; have g5 := MsgB.free HM13.out 5; have g6 := MsgB.free HM13.out 6; have g7 := MsgB.free HM13.out 7; have g8 := MsgB.free HM13.out 8; have g9 := MsgB.free HM13.out 9; have g10 := MsgB.free HM13.out 10; have g11 := MsgB.free HM13.out 11; have g12 := MsgB.free HM13.out 12; have g13 := MsgB.free HM13.out 13
                  obtain ⟨y0, y1, y2, y3, y4, y5, y6, y7, y8, y9, y10, y11, y12, y13⟩ := MsgB.facts HRB13.out
                  have f0 := MsgB.free HRB13.out 0; have f1 := MsgB.free HRB13.out 1; have f2 := MsgB.free HRB13.out 2; have f3 := MsgB.free HRB13.out 3; have f4 := MsgB.free HRB13.out 4; have f5 := MsgB.free HRB13.out 5; have f6 := MsgB.free HRB13.out 6; have f7 := MsgB.free HRB13.out 7; have f8 := MsgB.free HRB13.out 8; have f9 := MsgB.free HRB13.out 9; have f10 := MsgB.free HRB13.out 10; have f11 := MsgB.free HRB13.out 11; have f12 := MsgB.free HRB13.out 12; have f13 := MsgB.free HRB13.out 13
                  go_wp2_with fail
                  exact msg_ret2 (y := .bool true) rfl rfl rfl rfl HST.out HPOST.out
  · have hb1 : ((mqs.length : Int) != 1) = true := by rw [bne_iff_ne]; omega
    have ho2 : pf.pickO rules mqs = none := by unfold pf.pickO; rw [if_neg h1]
    have hrs := pf.filt_none (A := A) ho2
    clear ho2 h1
    clear x0 x1 x2 x3 x4 x5 x6 x7 x8 x9 x11 x12 x13
    have hst := msg_stored HM3.out h (.slice qa0 A.qs.length qc0) (.slice aa0 A.an.length ac0) (.slice ua0 A.au.length uc0) (.slice da0 A.ad.length dc0)
    have hpost : RFiltPost (pf.filt rules mqs A) w (.returned (.tuple #[msgV h (.slice qa0 A.qs.length qc0) (.slice aa0 A.an.length ac0) (.slice ua0 A.au.length uc0) (.slice da0 A.ad.length dc0), .bool true])) _ := rfilt_end hrs HH.out.symm HB13.out hst.2 HRLT.out (RQ.out.below HB13.out) (RA.out.below HB13.out) (RU.out.below HB13.out) (RD.out.below HB13.out) (qns_not RQ.out HRLT.out) (recs_not RA.out HRLT.out) (recs_not RU.out HRLT.out) (recs_not RD.out HRLT.out)
    have HST := Lib.hid hst.1
    have HPOST := Lib.hid hpost; have HRS := Lib.hid hrs
    clear hpost hrs
    clear hst
    obtain ⟨x0, x1, x2, x3, x4, x5, x6, x7, x8, x9, x10, x11, x12, x13⟩ := MsgB.facts HM2.out
    have g0 := MsgB.free HM2.out 0; have g1 := MsgB.free HM2.out 1; have g2 := MsgB.free HM2.out 2; have g3 := MsgB.free HM2.out 3; have g4 := MsgB.free HM2.out 4; have g5 := MsgB.free HM2.out 5; have g6 := MsgB.free HM2.out 6; have g7 := MsgB.free HM2.out 7; have g8 := MsgB.free HM2.out 8; have g9 := MsgB.free HM2.out 9; have g10 := MsgB.free HM2.out 10; have g11 := MsgB.free HM2.out 11; have g12 := MsgB.free HM2.out 12; have g13 := MsgB.free HM2.out 13
    obtain ⟨y0, y1, y2, y3, y4, y5, y6, y7, y8, y9, y10, y11, y12, y13⟩ := MsgB.facts HM3.out
    have f0 := MsgB.free HM3.out 0; have f1 := MsgB.free HM3.out 1; have f2 := MsgB.free HM3.out 2; have f3 := MsgB.free HM3.out 3; have f4 := MsgB.free HM3.out 4; have f5 := MsgB.free HM3.out 5; have f6 := MsgB.free HM3.out 6; have f7 := MsgB.free HM3.out 7; have f8 := MsgB.free HM3.out 8; have f9 := MsgB.free HM3.out 9; have f10 := MsgB.free HM3.out 10; have f11 := MsgB.free HM3.out 11; have f12 := MsgB.free HM3.out 12; have f13 := MsgB.free HM3.out 13
    go_wp2_with fail
    exact msg_ret2 (y := .bool true) rfl rfl rfl rfl HST.out HPOST.out
end Go.Proofs.Ytnloommafgnanaa

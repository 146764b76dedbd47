/-
  policy.Filter.
-/
import Derived.Test.YtnloommafgnanaaQFilA
namespace Go.Proofs.Ytnloommafgnanaa
open Go.RowKit Go.Shelf Go.Proofs.Ytnloommafgnanaa.nm Go.Proofs.Ytnloommafgnanaa.od

set_option maxRecDepth 100000 in
set_option maxHeartbeats 1000000 in
theorem filter1_any (r : Rec) (w : World) : Calls Try.prog 30 #[recV r] w fun e w' => e = .returned (.bool (pf.goes r)) ∧ Below w.heap.size w w' := by
  have HB := Lib.hid ((Below.refl _ w).alloc (Nat.le_refl _) (.cells (recC r).toArray 41))
  obtain ⟨b, hb⟩ : ∃ b, b = pf.goes r := ⟨_, rfl⟩
  have hb2 : (r.typ != 41) = b := hb.symm
  rw [← hb]
  clear hb
  go_enter Try.func30, Try.ntmps30
  go_wp2_with fail
  go_ret
  exact ⟨rfl, HB.out⟩
theorem callFunc_filter1 (args : Array Value) (w : World) : (callFunc 30 args).run Try.prog w = .ok (.enter 30 args) w := by kernel_rfl

theorem FR.base_ {base base' ob rb : Nat} {w : World} {q a u d : Value} {qs : List Qn} {an au ad : List Rec} (h : FR base w ob rb q a u d qs an au ad) (hb : base' ≤ base) : FR base' w ob rb q a u d qs an au ad :=
  ⟨ownsRow_base h.rq hb, ⟨⟨_, ownsRow_base h.rq hb⟩, ownsRow_base h.lo.ra hb, ownsRow_base h.lo.ru hb, ownsRow_base h.lo.rd hb, h.lo.qa, h.lo.qu, h.lo.qd, h.lo.au_, h.lo.ad_, h.lo.ud, Nat.le_trans hb h.lo.base_⟩, h.oq, h.oa, h.ou, h.od_⟩
theorem filt_end {res : Option Msg} {A : Msg} {w W W' : World} {b0 ob rb : Nat} {h : Hd} {q a u d : Value} (hr : res = some A) (hh : A.h = h) (hB : Below w.heap.size w W) (hf : FR b0 W ob rb q a u d A.qs A.an A.au A.ad) (hb0 : w.heap.size ≤ b0) (hg : W.grownBy W' (some rb)) (hrb : w.heap.size ≤ rb) :
    FiltPost res w (.returned (.tuple #[msgV h q a u d, .bool true])) W' := by
  subst hr hh
  have hf2 : FR w.heap.size W' ob rb q a u d A.qs A.an A.au A.ad := (hf.base_ hb0).keep hg.size fun b hb _ hne => hg.block b hb (by simpa using hne)
  exact ⟨q, a, u, d, rfl, hB.grown hg hB.size (fun j hj => by simp only [Option.some.injEq] at hj; omega), owns_qns hf2.rq, hf2.lo⟩
theorem filt_drop_end {res : Option Msg} {w W : World} (hr : res = none) (hB : Below w.heap.size w W) : FiltPost res w (.returned (.tuple #[msgV hd0 (.slice none 0 0) (.slice none 0 0) (.slice none 0 0) (.slice none 0 0), .bool false])) W := by
  subst hr
  exact ⟨rfl, hB⟩
theorem clones_done {base ob rb : Nat} {w5 wQ wA wU wD : World} {h : Hd} {qq aa uu dd q a u d : Value} {qs : List Qn} {an au ad : List Rec} (hb : base ≤ w5.heap.size) (ho : ob < w5.heap.size) (hr : rb < w5.heap.size) (hm : MsgB w5 ob h qq aa uu dd)
    (h1 : Below w5.drew.heap.size w5.drew wQ) (h2 : Below wQ.heap.size wQ wA) (h3 : Below wA.heap.size wA wU) (h4 : Below wU.heap.size wU wD)
    (rq : wQ.ownsRow w5.drew.heap.size 57 3 q qs.length (qnsC qs)) (ra : wA.ownsRow wQ.heap.size 41 5 a an.length (recsC an)) (ru : wU.ownsRow wA.heap.size 41 5 u au.length (recsC au)) (rd : wD.ownsRow wU.heap.size 41 5 d ad.length (recsC ad)) :
    ∃ q' a' u' d', w5.grownBy ((((wD.setCell ⟨ob, 10, none⟩ q).setCell ⟨ob, 11, none⟩ a).setCell ⟨ob, 12, none⟩ u).setCell ⟨ob, 13, none⟩ d) (some ob) ∧ MsgB ((((wD.setCell ⟨ob, 10, none⟩ q).setCell ⟨ob, 11, none⟩ a).setCell ⟨ob, 12, none⟩ u).setCell ⟨ob, 13, none⟩ d) ob h q' a' u' d' ∧ FR base ((((wD.setCell ⟨ob, 10, none⟩ q).setCell ⟨ob, 11, none⟩ a).setCell ⟨ob, 12, none⟩ u).setCell ⟨ob, 13, none⟩ d) ob rb q' a' u' d' qs an au ad := by
  have hf := fr_clones (base := base) (ob := ob) (rb := rb) h1 h2 h3 h4 hb ho hr rq ra ru rd
  have hB : Below w5.heap.size w5 wD := (show Below w5.heap.size w5 wQ from (Below.refl w5.heap.size w5).drew.trans h1).trans ((h2.trans (h3.mono h2.size)).trans (h4.mono (Nat.le_trans h2.size h3.size)) |>.mono h1.size)
  have g : ∀ (W : World) (i : Nat) (v : Value), W.grownBy (W.setCell ⟨ob, i, none⟩ v) (some ob) := fun W i v => grownBy_setCell W ⟨ob, i, none⟩ v
  have g0 : w5.grownBy wD (some ob) := ⟨hB.os, hB.tape, hB.output, hB.size, fun k hk _ => hB.block k hk⟩
  exact ⟨q, a, u, d, (((g0.trans (g _ _ _)).trans (g _ _ _)).trans (g _ _ _)).trans (g _ _ _), ((((hm.below hB).set10 _).set11 _).set12 _).set13 _, (((hf.set 10 _).set 11 _).set 12 _).set 13 _⟩
theorem RulB.keep {w w' : World} {b : Nat} {r : Rul} (h : RulB w b r) (hk : w'.heap[b]? = w.heap[b]?) : RulB w' b r := by
  have e : ∀ i, w'.cell? ⟨b, i, none⟩ = w.cell? ⟨b, i, none⟩ := fun i => World.cell?_of_block (w := w) (a := ⟨b, i, none⟩) hk
  exact ⟨(e _).trans h.1, (e _).trans h.2.1, (e _).trans h.2.2.1, (e _).trans h.2.2.2.1, (e _).trans h.2.2.2.2.1, (e _).trans h.2.2.2.2.2⟩
theorem MsgB.eqv {w w' : World} {b : Nat} {h : Hd} {q a u d : Value} (hm : MsgB w b h q a u d) (hk : w'.heap[b]? = w.heap[b]?) : MsgB w' b h q a u d := hk.trans hm
theorem qns_off {w : World} {v : Value} {l : List Qn} (h : QnsAt w v l) (hl : l ≠ []) : ∀ b, v.ownBlock = some b → b < w.heap.size := fun b hb => by
  obtain ⟨a, cap, rfl, hc, hr⟩ := h
  obtain ⟨b', off, rfl, hbl, _⟩ := hr 0 (List.length_pos_iff.2 hl)
  simp only [Value.ownBlock, Option.some.injEq] at hb
  omega
theorem qns_keepOne {X Y : World} {v : Value} {l : List Qn} (h : QnsAt X v l) (hs : X.heap.size ≤ Y.heap.size) (hk : l ≠ [] → ∀ b, v.ownBlock = some b → Y.heap[b]? = X.heap[b]?) : QnsAt Y v l := by
  obtain ⟨a, cap, rfl, hc, hr⟩ := h
  refine ⟨a, cap, rfl, hc, fun k hk2 => ?_⟩
  obtain ⟨b, off, rfl, hbl, hra⟩ := hr k hk2
  exact ⟨b, off, rfl, Nat.lt_of_lt_of_le hbl hs, hra.keep (hk (List.length_pos_iff.1 (by omega)) b rfl)⟩
set_option maxRecDepth 100000 in
set_option maxHeartbeats 16000000 in
theorem filter_any (rules : List Rul) (hrl : rules.length ≤ 1000000000000) (rv : Value) (mh : Hd) (mqs : List Qn) (hmq : mqs.length ≤ 1000000000000) (mq ma mu md : Value) (A : Msg)
    (hq : A.qs.length * 32 ≤ 1099511627776) (ha : A.an.length * 56 ≤ 1099511627776) (hu : A.au.length * 56 ≤ 1099511627776) (hd : A.ad.length * 56 ≤ 1099511627776) (q a u d : Value) (fq : SliceForm q) (fa : SliceForm a) (fu : SliceForm u) (fd : SliceForm d)
    (w : World) (hrv : RulsAt w rv rules) (hmqs : QnsAt w mq mqs) (rq : QnsAt w q A.qs) (ra : RecsAt w a A.an) (ru : RecsAt w u A.au) (rd : RecsAt w d A.ad) :
    Calls Try.prog 9 #[rv, msgV mh mq ma mu md, msgV A.h q a u d] w fun e w' => FiltPost (pf.filt rules mqs A) w e w' := by
  obtain ⟨ra0, rcap, rfl, -⟩ := id hrv
  obtain ⟨mqa, mqc, rfl, -⟩ := id hmqs
  obtain ⟨qa0, qc0, rfl, -⟩ := id rq
  obtain ⟨aa0, ac0, rfl, -⟩ := id ra
  obtain ⟨ua0, uc0, rfl, -⟩ := id ru
  obtain ⟨da0, dc0, rfl, -⟩ := id rd
  obtain ⟨h, hh⟩ : ∃ x, x = A.h := ⟨_, rfl⟩
  rw [← hh]
  obtain ⟨w1, hw1⟩ : ∃ X, X = w.alloc (.cells (msgC mh (.slice mqa mqs.length mqc) ma mu md).toArray 27) := ⟨_, rfl⟩
  obtain ⟨w2, hw2⟩ : ∃ X, X = w1.alloc (.cells (msgC h (.slice qa0 A.qs.length qc0) (.slice aa0 A.an.length ac0) (.slice ua0 A.au.length uc0) (.slice da0 A.ad.length dc0)).toArray 27) := ⟨_, rfl⟩
  obtain ⟨w3, hw3⟩ : ∃ X, X = w2.alloc (.cells (msgC hd0 (.slice none 0 0) (.slice none 0 0) (.slice none 0 0) (.slice none 0 0)).toArray 27) := ⟨_, rfl⟩
  obtain ⟨hB1, hs1, hm1⟩ := msg_new hw1
  obtain ⟨hB2, hs2, hm2⟩ := msg_new hw2
  obtain ⟨hB3, hs3, hm3⟩ := msg_new hw3
  have hm1' := (hm1.below hB2).below hB3
  have hm2' := hm2.below hB3
  have hB13 := hB1.trans ((hB2.trans (hB3.mono hB2.size)).mono hB1.size)
  obtain ⟨mb, hmb⟩ : ∃ n, n = w.heap.size := ⟨_, rfl⟩
  obtain ⟨nb, hnb⟩ : ∃ n, n = w1.heap.size := ⟨_, rfl⟩
  obtain ⟨rb, hrb⟩ : ∃ n, n = w2.heap.size := ⟨_, rfl⟩
  have hrbs : rb < w3.heap.size := by omega
  have hnbs : nb < w3.heap.size := by omega
  have hmbs : mb < w3.heap.size := by omega
  have hne1 : mb ≠ rb := by omega
  have hne2 : nb ≠ rb := by omega
  have hrlt : w.heap.size ≤ rb := by omega
  have e1 : w.heap.size + 1 = nb := by omega
  have e2 : w.heap.size + 2 = rb := by omega
  have e3 : w.heap.size + 1 + 1 = rb := by omega
  rw [← hmb] at hm1'
  rw [← hnb] at hm2'
  rw [← hrb] at hm3
  obtain ⟨x0, x1, x2, x3, x4, x5, x6, x7, x8, x9, x10, x11, x12, x13⟩ := hm1'.facts
  have HM1 := Lib.hid hm1'; have HM2 := Lib.hid hm2'; have HM3 := Lib.hid hm3
  obtain ⟨o, ho⟩ : ∃ o, o = pf.pickO rules mqs := ⟨_, rfl⟩
  clear hm1 hm2 hm3 hm1' hm2' hB1 hB2 hB3 hs1 hs2 hs3
  have HHRV := Lib.hid hrv
  have HW1 := Lib.hid hw1; have HW2 := Lib.hid hw2; have HW3 := Lib.hid hw3; have HB13 := Lib.hid hB13; have HMB := Lib.hid hmb; have HNB := Lib.hid hnb; have HRB := Lib.hid hrb; have E1 := Lib.hid e1; have E2 := Lib.hid e2; have E3 := Lib.hid e3; have HO := Lib.hid ho; have HH := Lib.hid hh; have HMQS := Lib.hid hmqs; have RQ := Lib.hid rq; have RA := Lib.hid ra; have RU := Lib.hid ru; have RD := Lib.hid rd; have HRLT := Lib.hid hrlt; have HNE1 := Lib.hid hne1; have HNE2 := Lib.hid hne2
  clear hw1 hw2 hw3 hB13 hmb hnb hrb e1 e2 e3 ho hh hmqs rq ra ru rd hrlt hne1 hne2
  clear hrv
  go_enter Try.func9, Try.ntmps9
  go_upto_region 1 with fail
  rw [← HW1.out, ← HW2.out, ← HW3.out, E3.out, E1.out, ← HMB.out]
  go_upto_if 15 with fail
  go_cut [8] (fun s wx => s = .int .i64 (pf.optI o) ∧ Below w3.heap.size w3 wx)
  case first =>
    by_cases h1 : mqs.length = 1
    · have hb1 : ((mqs.length : Int) == 1) = true := by rw [beq_iff_eq]; omega
      have hl0 : 0 < mqs.length := by omega
      obtain ⟨_, _, hv, _, hr⟩ := HMQS.out.below HB13.out
      simp only [Value.slice.injEq] at hv
      obtain ⟨rfl, -, rfl⟩ := hv
      obtain ⟨b, off, rfl, _, c0, c1, c2⟩ := hr 0 hl0
      rw [Nat.zero_mul, Nat.add_zero] at c0
      have ho2 : o = pf.ruleO rules mqs[0].name := by rw [HO.out]; unfold pf.pickO; rw [if_pos h1, getElem!_pos mqs 0 hl0]
      obtain ⟨q0, hq0⟩ : ∃ x, x = mqs[0] := ⟨_, rfl⟩
      rw [← hq0] at c0 ho2
      have hli : (0 : Int) < (mqs.length : Int) := by omega
      have HO2 := Lib.hid ho2
      clear ho2
      clear h1 hr c1 c2 hq0 hl0
      go_wp2_with fail
      refine (rule_any rules hrl _ _ w3 (HHRV.out.below HB13.out)).mono ?_
      rintro e w4 ⟨rfl, hB4⟩
      have HB4 := Lib.hid hB4
      clear hB4
      go_wp2_with fail
      go_meet
      exact ⟨by rw [HO2.out], HB4.out⟩
    · have hb1 : ((mqs.length : Int) == 1) = false := by rw [beq_eq_false_iff_ne]; omega
      have ho2 : o = none := by rw [HO.out]; unfold pf.pickO; rw [if_neg h1]
      have HO2 := Lib.hid ho2
      clear ho2
      clear h1
      go_wp2_with fail
      go_meet
      exact ⟨by rw [HO2.out]; rfl, Below.refl _ _⟩
  case rest =>
  obtain ⟨rfl, hB4⟩ := hcut
  clear x0 x1 x2 x3 x4 x5 x6 x7 x8 x9 x10 x11 x12 x13
  obtain ⟨w4, hw4⟩ : ∃ X : World, X = wc := ⟨_, rfl⟩
  subst hw4
  have hs4 := hB4.size
  obtain ⟨w5, hw5⟩ : ∃ X, X = w4.alloc (.cells (msgC h (.slice qa0 A.qs.length qc0) (.slice aa0 A.an.length ac0) (.slice ua0 A.au.length uc0) (.slice da0 A.ad.length dc0)).toArray 27) := ⟨_, rfl⟩
  obtain ⟨hB5, hs5, hm5⟩ := msg_new hw5
  obtain ⟨ob, hob⟩ : ∃ n, n = w4.heap.size := ⟨_, rfl⟩
  have HN4 := Lib.hid (HM2.out.below hB4)
  rw [← hob] at hm5
  have HB5 := Lib.hid (hB4.trans (hB5.mono hs4))
  have HM5 := Lib.hid hm5
  have HA5 := Lib.hid (HM1.out.below HB5.out); have HN5 := Lib.hid (HM2.out.below HB5.out); have HR5 := Lib.hid (HM3.out.below HB5.out)
  have hobs : ob < w5.heap.size := hm5.lt
  have hs5' : w3.heap.size ≤ w5.heap.size := by omega
  have hno : nb ≠ ob := by omega
  have hmo : mb ≠ ob := by omega
  have hro : rb ≠ ob := by omega
  have hrb5 : rb < w5.heap.size := by omega
  have HBW5 := Lib.hid (HB13.out.trans (HB5.out.mono HB13.out.size))
  have hbw5 : w.heap.size ≤ w5.heap.size := HBW5.out.size
  have HRQ5 := Lib.hid (RQ.out.below HBW5.out); have HRA5 := Lib.hid (RA.out.below HBW5.out); have HRU5 := Lib.hid (RU.out.below HBW5.out); have HRD5 := Lib.hid (RD.out.below HBW5.out)
  obtain ⟨x0, x1, x2, x3, x4, x5, x6, x7, x8, x9, x10, x11, x12, x13⟩ := HN4.out.facts
  clear hm5 hB5 hs5
  have HB4 := Lib.hid hB4; have HW5 := Lib.hid hw5; have HOB := Lib.hid hob; have HNO := Lib.hid hno; have HMO := Lib.hid hmo; have HRO := Lib.hid hro
  clear hB4 hw5 hob hno hmo hro
  go_upto_region 5 with fail
  rw [← HW5.out, ← HOB.out]
  clear x0 x1 x2 x3 x4 x5 x6 x7 x8 x9 x10 x11 x12 x13
  have hI : InvO w5 nb ob h (.slice qa0 A.qs.length qc0) (.slice aa0 A.an.length ac0) (.slice ua0 A.au.length uc0) (.slice da0 A.ad.length dc0) w5 := invO_of ⟨rfl, rfl, rfl, Nat.le_refl _, fun _ _ _ => rfl⟩ HN5.out HNO.out HM5.out
  have hI2 : InvO w5 nb ob h (.slice qa0 A.qs.length qc0) (.slice aa0 A.an.length ac0) (.slice ua0 A.au.length uc0) (.slice da0 A.ad.length dc0) w5.drew := InvO.below HN5.out HNO.out hI (Below.refl _ _).drew
  have hwo : w.heap.size ≤ ob := by have := HB13.out.size; rw [HOB.out]; omega
  have inRec : ∀ {v : Value} {l : List Rec}, RecsAt w v l → RecsAt w5 v l → (∀ X : World, InvO w5 nb ob h (.slice qa0 A.qs.length qc0) (.slice aa0 A.an.length ac0) (.slice ua0 A.au.length uc0) (.slice da0 A.ad.length dc0) X → RecsAt X v l) := fun h0 h1 X hX =>
    recs_keepOne h1 hX.1.size fun hl b hb => hX.1.block b (by have := recs_off h0 hl b hb; omega) (by have := recs_off h0 hl b hb; simp only [ne_eq, Option.some.injEq]; omega)
  have inQ : ∀ X : World, InvO w5 nb ob h (.slice qa0 A.qs.length qc0) (.slice aa0 A.an.length ac0) (.slice ua0 A.au.length uc0) (.slice da0 A.ad.length dc0) X → QnsAt X (.slice qa0 A.qs.length qc0) A.qs := fun X hX =>
    qns_keepOne HRQ5.out hX.1.size fun hl b hb => hX.1.block b (by have := qns_off RQ.out hl b hb; omega) (by have := qns_off RQ.out hl b hb; simp only [ne_eq, Option.some.injEq]; omega)
  have HTQ := Lib.hid (fun (X : World) (hX : InvO w5 nb ob h (.slice qa0 A.qs.length qc0) (.slice aa0 A.an.length ac0) (.slice ua0 A.au.length uc0) (.slice da0 A.ad.length dc0) X) => cloneQns_any A.qs (by omega) (.slice qa0 A.qs.length qc0) fq X (inQ X hX))
  have HTA := Lib.hid (fun (X : World) (hX : InvO w5 nb ob h (.slice qa0 A.qs.length qc0) (.slice aa0 A.an.length ac0) (.slice ua0 A.au.length uc0) (.slice da0 A.ad.length dc0) X) => cloneRecs_any A.an (by omega) (.slice aa0 A.an.length ac0) fa X (inRec RA.out HRA5.out X hX))
  have HTU := Lib.hid (fun (X : World) (hX : InvO w5 nb ob h (.slice qa0 A.qs.length qc0) (.slice aa0 A.an.length ac0) (.slice ua0 A.au.length uc0) (.slice da0 A.ad.length dc0) X) => cloneRecs_any A.au (by omega) (.slice ua0 A.au.length uc0) fu X (inRec RU.out HRU5.out X hX))
  have HTD := Lib.hid (fun (X : World) (hX : InvO w5 nb ob h (.slice qa0 A.qs.length qc0) (.slice aa0 A.an.length ac0) (.slice ua0 A.au.length uc0) (.slice da0 A.ad.length dc0) X) => cloneRecs_any A.ad (by omega) (.slice da0 A.ad.length dc0) fd X (inRec RD.out HRD5.out X hX))
  clear inRec inQ
  go_cut [24] (fun _ wx => ∃ q' a' u' d', w5.grownBy wx (some ob) ∧ MsgB wx ob h q' a' u' d' ∧ FR w5.heap.size wx ob rb q' a' u' d' A.qs A.an A.au A.ad)
  case first =>
    go_region_held3 (fun X => w5.grownBy X (some ob) ∧ MsgB X ob h (va X ob 10) (va X ob 11) (va X ob 12) (va X ob 13) ∧ (X.cell? ⟨nb, 10, none⟩ = some (.slice qa0 A.qs.length qc0) ∧ X.cell? ⟨nb, 11, none⟩ = some (.slice aa0 A.an.length ac0) ∧ X.cell? ⟨nb, 12, none⟩ = some (.slice ua0 A.au.length uc0) ∧ X.cell? ⟨nb, 13, none⟩ = some (.slice da0 A.ad.length dc0)) ∧
  (X.cell? ⟨ob, 10, none⟩ = some (va X ob 10) ∧ X.cell? ⟨ob, 11, none⟩ = some (va X ob 11) ∧ X.cell? ⟨ob, 12, none⟩ = some (va X ob 12) ∧ X.cell? ⟨ob, 13, none⟩ = some (va X ob 13)) ∧
  (X.frozen? ⟨ob, 10, none⟩ = false ∧ X.frozen? ⟨ob, 11, none⟩ = false ∧ X.frozen? ⟨ob, 12, none⟩ = false ∧ X.frozen? ⟨ob, 13, none⟩ = false))
      (first | (exact hI) | (exact hI2) | (exact InvO.below HN5.out HNO.out (by assumption) hbD) | (exact InvO.below HN5.out HNO.out (by assumption) hbU) | (exact InvO.below HN5.out HNO.out (by assumption) hbA) | (exact InvO.below HN5.out HNO.out (by assumption) hbQ) | (exact InvO.put10 HN5.out HNO.out _ (by assumption)) | (exact InvO.put11 HN5.out HNO.out _ (by assumption)) | (exact InvO.put12 HN5.out HNO.out _ (by assumption)) | (exact InvO.put13 HN5.out HNO.out _ (by assumption)))
      (first
        | (go_at_call 27; (with_reducible refine (HTQ.out _ (by assumption)).mono ?_); rintro e wQ ⟨vq, rfl, hbQ, hoQ⟩; obtain ⟨pQ, kQ, rfl, _⟩ := ownsRow_len hoQ)
        | (go_at_call 28; (with_reducible refine (HTA.out _ (by assumption)).mono ?_); rintro e wA ⟨va', rfl, hbA, hoA⟩; obtain ⟨pA, kA, rfl, _⟩ := ownsRow_len hoA)
        | (go_at_call 28; (with_reducible refine (HTU.out _ (by assumption)).mono ?_); rintro e wU ⟨vu, rfl, hbU, hoU⟩; obtain ⟨pU, kU, rfl, _⟩ := ownsRow_len hoU)
        | (go_at_call 28; (with_reducible refine (HTD.out _ (by assumption)).mono ?_); rintro e wD ⟨vd, rfl, hbD, hoD⟩; obtain ⟨pD, kD, rfl, _⟩ := ownsRow_len hoD))
    all_goals (go_wp2_with fail; go_meet; exact clones_done (Nat.le_refl _) hobs hrb5 HM5.out hbQ hbA hbU hbD hoQ hoA hoU hoD)
  case rest =>
  obtain ⟨q', a', u', d', hg6, hm6, hfr6⟩ := hcut
  obtain ⟨qa, qc, rfl, -⟩ := ownsRow_len hfr6.rq
  obtain ⟨aa, ac, rfl, -⟩ := ownsRow_len hfr6.lo.ra
  obtain ⟨ua, uc, rfl, -⟩ := ownsRow_len hfr6.lo.ru
  obtain ⟨da, dc, rfl, -⟩ := ownsRow_len hfr6.lo.rd
  obtain ⟨w6, hw6⟩ : ∃ X : World, X = wc := ⟨_, rfl⟩
  subst hw6
  have hs6 := hg6.size
  have HA6 := Lib.hid (HA5.out.eqv (hg6.block mb HA5.out.lt (by simp only [ne_eq, Option.some.injEq]; exact HMO.out)))
  have HRB6 := Lib.hid (HR5.out.eqv (hg6.block rb hrb5 (by simp only [ne_eq, Option.some.injEq]; exact HRO.out)))
  have HB6 := Lib.hid (HBW5.out.grown hg6 hbw5 (fun j hj => by simp only [Option.some.injEq] at hj; omega))
  have HRV6 := Lib.hid (HHRV.out.below HB6.out)
  have HMQ6 := Lib.hid (HMQS.out.below HB6.out)
  have HFR6 := Lib.hid hfr6
  have HM6 := Lib.hid hm6
  clear hI hI2 HTQ HTA HTU HTD hfr6 hm6
  have HG6 := Lib.hid hg6
  clear hg6
  obtain ⟨x0, x1, x2, x3, x4, x5, x6, x7, x8, x9, x10, x11, x12, x13⟩ := MsgB.facts HM6.out
  have g0 := MsgB.free HM6.out 0; have g1 := MsgB.free HM6.out 1; have g2 := MsgB.free HM6.out 2; have g3 := MsgB.free HM6.out 3; have g4 := MsgB.free HM6.out 4; have g5 := MsgB.free HM6.out 5; have g6 := MsgB.free HM6.out 6; have g7 := MsgB.free HM6.out 7; have g8 := MsgB.free HM6.out 8; have g9 := MsgB.free HM6.out 9; have g10 := MsgB.free HM6.out 10; have g11 := MsgB.free HM6.out 11; have g12 := MsgB.free HM6.out 12; have g13 := MsgB.free HM6.out 13
  cases o with
  | none =>
    have hrs := pf.filt_none (A := A) HO.out.symm
    rw [pf.optI_none]
    have HRS := Lib.hid hrs
    clear hrs
    -- the message as it is: world w6, out in ob, result in rb
    have hst := msg_stored HRB6.out h (.slice qa A.qs.length qc) (.slice aa A.an.length ac) (.slice ua A.au.length uc) (.slice da A.ad.length dc)
    have hpost : FiltPost (pf.filt rules mqs A) w (.returned (.tuple #[msgV h (.slice qa A.qs.length qc) (.slice aa A.an.length ac) (.slice ua A.au.length uc) (.slice da A.ad.length dc), .bool true])) _ := filt_end HRS.out HH.out.symm HB6.out HFR6.out hbw5 hst.2 HRLT.out
    have HST := Lib.hid hst.1
    have HPOST := Lib.hid hpost
    clear hpost
    clear hst
    obtain ⟨y0, y1, y2, y3, y4, y5, y6, y7, y8, y9, y10, y11, y12, y13⟩ := MsgB.facts HRB6.out
    have f0 := MsgB.free HRB6.out 0; have f1 := MsgB.free HRB6.out 1; have f2 := MsgB.free HRB6.out 2; have f3 := MsgB.free HRB6.out 3; have f4 := MsgB.free HRB6.out 4; have f5 := MsgB.free HRB6.out 5; have f6 := MsgB.free HRB6.out 6; have f7 := MsgB.free HRB6.out 7; have f8 := MsgB.free HRB6.out 8; have f9 := MsgB.free HRB6.out 9; have f10 := MsgB.free HRB6.out 10; have f11 := MsgB.free HRB6.out 11; have f12 := MsgB.free HRB6.out 12; have f13 := MsgB.free HRB6.out 13
    go_wp2_with fail
    exact msg_ret2 (y := .bool true) rfl rfl rfl rfl HST.out HPOST.out
  | some k =>
    have hkl := (pf.pick_lt HO.out.symm).2
    have hq1 := (pf.pick_lt HO.out.symm).1
    obtain ⟨_, _, hv, _, hr⟩ := HRV6.out
    simp only [Value.slice.injEq] at hv
    obtain ⟨rfl, -, rfl⟩ := hv
    obtain ⟨bb, off, rfl, hbl, c0, c1, c2, c3, c4, c5⟩ := hr k hkl
    obtain ⟨r, hr0⟩ : ∃ r, r = rules[k] := ⟨_, rfl⟩
    rw [← hr0] at c0 c1 c2 c3 c4 c5
    have hr1 : rules[k]! = r := by rw [hr0]; exact pf.at_rule hkl
    have hki : (k : Int) < (rules.length : Int) := by omega
    have hk0 : decide ((k : Int) < 0) = false := decide_eq_false (by omega)
    rw [pf.optI_some]
    clear hr
    have HR0 := Lib.hid hr0; have HR1 := Lib.hid hr1; have HQ1 := Lib.hid hq1
    clear hr0 hr1 hq1
    by_cases z0 : r.kind = 0
    · have hrs := pf.filt_pass (A := A) HO.out.symm HR1.out z0
      have zb : (r.kind == 0) = true := by rw [beq_iff_eq]; exact z0
      have HRS := Lib.hid hrs; have Z0 := Lib.hid z0
      clear hrs z0
      -- the message as it is: world w6, out in ob, result in rb
      have hst := msg_stored HRB6.out h (.slice qa A.qs.length qc) (.slice aa A.an.length ac) (.slice ua A.au.length uc) (.slice da A.ad.length dc)
      have hpost : FiltPost (pf.filt rules mqs A) w (.returned (.tuple #[msgV h (.slice qa A.qs.length qc) (.slice aa A.an.length ac) (.slice ua A.au.length uc) (.slice da A.ad.length dc), .bool true])) _ := filt_end HRS.out HH.out.symm HB6.out HFR6.out hbw5 hst.2 HRLT.out
      have HST := Lib.hid hst.1
      have HPOST := Lib.hid hpost
      clear hpost
      clear hst
      obtain ⟨y0, y1, y2, y3, y4, y5, y6, y7, y8, y9, y10, y11, y12, y13⟩ := MsgB.facts HRB6.out
      have f0 := MsgB.free HRB6.out 0; have f1 := MsgB.free HRB6.out 1; have f2 := MsgB.free HRB6.out 2; have f3 := MsgB.free HRB6.out 3; have f4 := MsgB.free HRB6.out 4; have f5 := MsgB.free HRB6.out 5; have f6 := MsgB.free HRB6.out 6; have f7 := MsgB.free HRB6.out 7; have f8 := MsgB.free HRB6.out 8; have f9 := MsgB.free HRB6.out 9; have f10 := MsgB.free HRB6.out 10; have f11 := MsgB.free HRB6.out 11; have f12 := MsgB.free HRB6.out 12; have f13 := MsgB.free HRB6.out 13
      go_wp2_with fail
      exact msg_ret2 (y := .bool true) rfl rfl rfl rfl HST.out HPOST.out
    · have zb : (r.kind == 0) = false := by rw [beq_eq_false_iff_ne]; exact z0
      obtain ⟨lr, hlr⟩ : ∃ n, n = w6.heap.size := ⟨_, rfl⟩
      obtain ⟨w7, hw7⟩ : ∃ X, X = w6.alloc (.cells (rulC r).toArray 51) := ⟨_, rfl⟩
      obtain ⟨hB7, hs7, hx7⟩ := rul_new w6 w7 r hw7
      rw [← hlr] at hx7
      have hob6 : ob < w6.heap.size := HM6.out.lt
      have hlro : lr ≠ ob := by omega
      have HX7 := Lib.hid hx7
      have HA7 := Lib.hid (HA6.out.below hB7); have HRB7 := Lib.hid (HRB6.out.below hB7); have HFR7 := Lib.hid (HFR6.out.below hB7); have HM7 := Lib.hid (HM6.out.below hB7)
      have HB7 := Lib.hid (HB6.out.trans (hB7.mono HB6.out.size))
      have hdl := HFR6.out.lo.rd.lt
      have hs7' : w6.heap.size ≤ w7.heap.size := hB7.size
      clear hB7 hs7 hx7
      have HW7 := Lib.hid hw7; have HLR := Lib.hid hlr; have Z0 := Lib.hid z0; have HLRO := Lib.hid hlro; have HDL := Lib.hid hdl
      clear hw7 hlr z0 hlro hdl
      go_upto_region 9 with fail
      rw [← HW7.out, ← HLR.out]
      clear c0 c1 c2 c3 c4 c5
      clear x0 x1 x2 x3 x4 x5 x6 x7 x8 x9 x10 x11 x12 x13 g0 g1 g2 g3 g4 g5 g6 g7 g8 g9 g10 g11 g12 g13
      obtain ⟨x0, x1, x2, x3, x4, x5, x6, x7, x8, x9, x10, x11, x12, x13⟩ := MsgB.facts HM7.out
      have g0 := MsgB.free HM7.out 0; have g1 := MsgB.free HM7.out 1; have g2 := MsgB.free HM7.out 2; have g3 := MsgB.free HM7.out 3; have g4 := MsgB.free HM7.out 4; have g5 := MsgB.free HM7.out 5; have g6 := MsgB.free HM7.out 6; have g7 := MsgB.free HM7.out 7; have g8 := MsgB.free HM7.out 8; have g9 := MsgB.free HM7.out 9; have g10 := MsgB.free HM7.out 10; have g11 := MsgB.free HM7.out 11; have g12 := MsgB.free HM7.out 12; have g13 := MsgB.free HM7.out 13
      obtain ⟨p0, p1, p2, p3, p4, p5⟩ := id HX7.out
      by_cases z1 : r.kind = 1
      · have zb1 : (r.kind == 1) = true := by rw [beq_iff_eq]; exact z1
        have hrs := pf.filt_drop (A := A) HO.out.symm HR1.out z1
        have hst := msg_stored HRB7.out hd0 (.slice none 0 0) (.slice none 0 0) (.slice none 0 0) (.slice none 0 0)
        have hBe := HB7.out.grown hst.2 HB7.out.size (fun j hj => by simp only [Option.some.injEq] at hj; have := HRLT.out; omega)
        have hpost : FiltPost (pf.filt rules mqs A) w (.returned (.tuple #[msgV hd0 (.slice none 0 0) (.slice none 0 0) (.slice none 0 0) (.slice none 0 0), .bool false])) _ := filt_drop_end hrs hBe
        have HST := Lib.hid hst.1
        have HPOST := Lib.hid hpost; have HRS := Lib.hid hrs; have Z1 := Lib.hid z1
        clear hpost hrs z1
        clear hst hBe
        obtain ⟨y0, y1, y2, y3, y4, y5, y6, y7, y8, y9, y10, y11, y12, y13⟩ := MsgB.facts HRB7.out
        have f0 := MsgB.free HRB7.out 0; have f1 := MsgB.free HRB7.out 1; have f2 := MsgB.free HRB7.out 2; have f3 := MsgB.free HRB7.out 3; have f4 := MsgB.free HRB7.out 4; have f5 := MsgB.free HRB7.out 5; have f6 := MsgB.free HRB7.out 6; have f7 := MsgB.free HRB7.out 7; have f8 := MsgB.free HRB7.out 8; have f9 := MsgB.free HRB7.out 9; have f10 := MsgB.free HRB7.out 10; have f11 := MsgB.free HRB7.out 11; have f12 := MsgB.free HRB7.out 12; have f13 := MsgB.free HRB7.out 13
        go_wp2_with fail
        exact msg_ret2 (y := .bool false) rfl rfl rfl rfl HST.out HPOST.out
      · have zb1 : (r.kind == 1) = false := by rw [beq_eq_false_iff_ne]; exact z1
        have hrs0 := pf.filt_told (A := A) HO.out.symm HR1.out Z0.out z1
        obtain ⟨w8, hw8⟩ : ∃ X, X = (((w7.setCell ⟨ob, 11, none⟩ (.slice none 0 0)).setCell ⟨ob, 12, none⟩ (.slice none 0 0)).setCell ⟨ob, 3, none⟩ (.bool false)).setCell ⟨ob, 9, none⟩ (.int .i64 0) := ⟨_, rfl⟩
        have hm8 : MsgB w8 ob { h with aa := false, rcode := 0 } (.slice qa A.qs.length qc) (.slice none 0 0) (.slice none 0 0) (.slice da A.ad.length dc) := by rw [hw8]; exact (((HM7.out.set11 _).set12 _).set3 _).set9 _
        have hg8 : w7.grownBy w8 (some ob) := by rw [hw8]; exact (((grownBy_setCell w7 ⟨ob, 11, none⟩ _).trans (grownBy_setCell _ ⟨ob, 12, none⟩ _)).trans (grownBy_setCell _ ⟨ob, 3, none⟩ _)).trans (grownBy_setCell _ ⟨ob, 9, none⟩ _)
        have hf8 : FR w5.heap.size w8 ob rb (.slice qa A.qs.length qc) (.slice none 0 0) (.slice none 0 0) (.slice da A.ad.length dc) A.qs [] [] A.ad := by rw [hw8]; exact ((((HFR7.out.nilA.nilU).set 11 _).set 12 _).set 3 _).set 9 _
        have h8 : ∀ b, b < w7.heap.size → b ≠ ob → w8.heap[b]? = w7.heap[b]? := fun b hb hne => hg8.block b hb (by simpa using hne)
        have HA8 := Lib.hid (HA7.out.eqv (h8 mb HA7.out.lt HMO.out))
        have HRB8 := Lib.hid (HRB7.out.eqv (h8 rb HRB7.out.lt HRO.out))
        have hlr7 : lr < w7.heap.size := World.block_lt_of_cell? _ _ p0
        have HX8 := Lib.hid (RulB.keep HX7.out (h8 lr hlr7 HLRO.out))
        have hs8 := hg8.size
        have HB8 := Lib.hid (HB7.out.grown hg8 HB7.out.size (fun j hj => by simp only [Option.some.injEq] at hj; omega))
        have HM8 := Lib.hid hm8; have HFR8 := Lib.hid hf8
        have hdel := deleteFunc_any 30 #[] callFunc_filter1 pf.goes w5.heap.size w8 w8 A.ad (by omega) (.slice da A.ad.length dc) hf8.lo.rd (Below.refl _ _) hf8.lo.base_ (fun r X _ => filter1_any r X)
        clear hm8 hg8 hf8 h8
        have HW8 := Lib.hid hw8; have HDEL := Lib.hid hdel; have HRS0 := Lib.hid hrs0; have Z1 := Lib.hid z1
        clear hw8 hdel hrs0 z1
        go_upto_region 12 with fail
        rw [← HW8.out]
        clear x0 x1 x2 x3 x4 x5 x6 x7 x8 x9 x10 x11 x12 x13 g0 g1 g2 g3 g4 g5 g6 g7 g8 g9 g10 g11 g12 g13
        clear p0 p1 p2 p3 p4 p5
        obtain ⟨x0, x1, x2, x3, x4, x5, x6, x7, x8, x9, x10, x11, x12, x13⟩ := MsgB.facts HM8.out
        have g0 := MsgB.free HM8.out 0; have g1 := MsgB.free HM8.out 1; have g2 := MsgB.free HM8.out 2; have g3 := MsgB.free HM8.out 3; have g4 := MsgB.free HM8.out 4; have g5 := MsgB.free HM8.out 5; have g6 := MsgB.free HM8.out 6; have g7 := MsgB.free HM8.out 7; have g8 := MsgB.free HM8.out 8; have g9 := MsgB.free HM8.out 9; have g10 := MsgB.free HM8.out 10; have g11 := MsgB.free HM8.out 11; have g12 := MsgB.free HM8.out 12; have g13 := MsgB.free HM8.out 13
        go_wp2_with fail
        refine (HDEL.out).mono ?_
        rintro e w9 ⟨vd, rfl, hown9, hbd, hg9⟩
        obtain ⟨dd, dk, rfl, -⟩ := ownsRow_len hown9
        have hs9 := hg9.size
        have hdn : ∀ b, b < w8.heap.size → (b < w5.heap.size ∨ w6.heap.size ≤ b) → w9.heap[b]? = w8.heap[b]? := fun b hb hne => hg9.block b hb (fun e => by have := HDL.out b e.symm; omega)
        have HM9 := Lib.hid (HM8.out.eqv (hg9.block ob HM8.out.lt (fun e => HFR8.out.od_.1 e.symm)))
        have HRB9 := Lib.hid (HRB8.out.eqv (hg9.block rb HRB8.out.lt (fun e => HFR8.out.od_.2 e.symm)))
        have HA9 := Lib.hid (HA8.out.eqv (hdn mb HA8.out.lt (.inl (by omega))))
        have HX9 := Lib.hid (RulB.keep HX8.out (hdn lr (by omega) (.inr (by rw [HLR.out]; exact Nat.le_refl _))))
        have HFR9 := Lib.hid (HFR8.out.newD hown9 hbd hg9)
        have HB9 := Lib.hid (HB8.out.grown hg9 HB8.out.size (fun j hj => by have := HDL.out j hj; omega))
        obtain ⟨w10, hw10⟩ : ∃ X, X = w9.setCell ⟨ob, 13, none⟩ (.slice dd (df.keep pf.goes A.ad).length dk) := ⟨_, rfl⟩
        have h10 : ∀ b, b ≠ ob → w10.heap[b]? = w9.heap[b]? := fun b hne => by rw [hw10]; exact Below.heap_setCell _ _ _ _ hne
        have HM10 := Lib.hid (by rw [hw10]; exact HM9.out.set13 _ : MsgB w10 ob { h with aa := false, rcode := 0 } (.slice qa A.qs.length qc) (.slice none 0 0) (.slice none 0 0) (.slice dd (df.keep pf.goes A.ad).length dk))
        have HRB10 := Lib.hid (HRB9.out.eqv (h10 rb HRO.out))
        have HA10 := Lib.hid (HA9.out.eqv (h10 mb HMO.out))
        have HX10 := Lib.hid (RulB.keep HX9.out (h10 lr HLRO.out))
        have HFR10 := Lib.hid (by rw [hw10]; exact HFR9.out.set 13 _ : FR w5.heap.size w10 ob rb (.slice qa A.qs.length qc) (.slice none 0 0) (.slice none 0 0) (.slice dd (df.keep pf.goes A.ad).length dk) A.qs [] [] (df.keep pf.goes A.ad))
        have HB10 := Lib.hid (by rw [hw10]; exact HB9.out.setCell (by show w.heap.size ≤ ob; have := HDL.out; omega) _ : Below w.heap.size w w10)
        clear hdn h10
        clear x0 x1 x2 x3 x4 x5 x6 x7 x8 x9 x10 x11 x12 x13 g0 g1 g2 g3 g4 g5 g6 g7 g8 g9 g10 g11 g12 g13
        obtain ⟨x0, x1, x2, x3, x4, x5, x6, x7, x8, x9, x10, x11, x12, x13⟩ := MsgB.facts HM9.out
        have g0 := MsgB.free HM9.out 0; have g1 := MsgB.free HM9.out 1; have g2 := MsgB.free HM9.out 2; have g3 := MsgB.free HM9.out 3; have g4 := MsgB.free HM9.out 4; have g5 := MsgB.free HM9.out 5; have g6 := MsgB.free HM9.out 6; have g7 := MsgB.free HM9.out 7; have g8 := MsgB.free HM9.out 8; have g9 := MsgB.free HM9.out 9; have g10 := MsgB.free HM9.out 10; have g11 := MsgB.free HM9.out 11; have g12 := MsgB.free HM9.out 12; have g13 := MsgB.free HM9.out 13
        have HOWN9 := Lib.hid hown9; have HBD := Lib.hid hbd; have HG9 := Lib.hid hg9; have HW10 := Lib.hid hw10
        clear hown9 hbd hg9 hw10
        go_upto_region 13 with fail
        rw [← HW10.out]
        clear x0 x1 x2 x3 x4 x5 x6 x7 x8 x9 x10 x11 x12 x13 g0 g1 g2 g3 g4 g5 g6 g7 g8 g9 g10 g11 g12 g13
        obtain ⟨_, _, _, _, _, _, _, _, _, _, x10, _, _, _⟩ := HA10.out.facts
        have hl0 : 0 < mqs.length := by have := HQ1.out; omega
        have hli : (0 : Int) < (mqs.length : Int) := by omega
        obtain ⟨_, _, hv, _, hr⟩ := HMQS.out.below HB10.out
        simp only [Value.slice.injEq] at hv
        obtain ⟨rfl, -, rfl⟩ := hv
        obtain ⟨qb, qo, rfl, hqbl, c0, c1, c2⟩ := hr 0 hl0
        rw [Nat.zero_mul, Nat.add_zero] at c0 c1 c2
        have hq00 : mqs[0]! = mqs[0] := getElem!_pos mqs 0 hl0
        obtain ⟨q0, hq0⟩ : ∃ x, x = mqs[0] := ⟨_, rfl⟩
        rw [← hq0] at c0 c1 c2 hq00
        obtain ⟨w11, hw11⟩ : ∃ X, X = w10.alloc (.cells (qnC q0).toArray 57) := ⟨_, rfl⟩
        obtain ⟨hB11, hs11, k0, k1, k2⟩ := qn_new w10 w11 q0 hw11
        have HM11 := Lib.hid (HM10.out.below hB11); have HRB11 := Lib.hid (HRB10.out.below hB11); have HFR11 := Lib.hid (HFR10.out.below hB11)
        have HX11 := Lib.hid (RulB.keep HX10.out (hB11.block lr (by have := World.block_lt_of_cell? _ _ HX10.out.1; exact this)))
        have HB11 := Lib.hid (HB10.out.trans (hB11.mono HB10.out.size))
        have hrs1 := HRS0.out
        rw [hq00] at hrs1
        clear hr hB11 hs11 hq0 hq00 hl0
        have HW11 := Lib.hid hw11; have HRS1 := Lib.hid hrs1
        clear hw11 hrs1
        go_upto_region 14 with fail
        rw [← HW11.out]
        clear c0 c1 c2 x10
        obtain ⟨p0, p1, p2, p3, p4, p5⟩ := id HX11.out
        obtain ⟨x0, x1, x2, x3, x4, x5, x6, x7, x8, x9, x10, x11, x12, x13⟩ := MsgB.facts HM11.out
        have g0 := MsgB.free HM11.out 0; have g1 := MsgB.free HM11.out 1; have g2 := MsgB.free HM11.out 2; have g3 := MsgB.free HM11.out 3; have g4 := MsgB.free HM11.out 4; have g5 := MsgB.free HM11.out 5; have g6 := MsgB.free HM11.out 6; have g7 := MsgB.free HM11.out 7; have g8 := MsgB.free HM11.out 8; have g9 := MsgB.free HM11.out 9; have g10 := MsgB.free HM11.out 10; have g11 := MsgB.free HM11.out 11; have g12 := MsgB.free HM11.out 12; have g13 := MsgB.free HM11.out 13
        by_cases z2 : r.kind = 2
        · have zb2 : (r.kind == 2) = true := by rw [beq_iff_eq]; exact z2
          have hrs : pf.filt rules mqs A = some ⟨{ h with aa := false, rcode := 3 }, A.qs, [], [], df.keep pf.goes A.ad⟩ := by
            rw [HRS1.out]; unfold pf.told pf.sayB; rw [if_pos z2, decide_eq_false (show ¬ r.kind = 4 by omega), HH.out]; rfl
          obtain ⟨w12, hw12⟩ : ∃ X, X = w11.setCell ⟨ob, 9, none⟩ (.int .i64 3) := ⟨_, rfl⟩
          have HM12 := Lib.hid (by rw [hw12]; exact HM11.out.set9 3 : MsgB w12 ob { h with aa := false, rcode := 3 } (.slice qa A.qs.length qc) (.slice none 0 0) (.slice none 0 0) (.slice dd (df.keep pf.goes A.ad).length dk))
          have HRB12 := Lib.hid (by rw [hw12]; exact MsgB.eqv (HRB11.out) (Below.heap_setCell _ _ _ _ HRO.out) : MsgB w12 rb hd0 (.slice none 0 0) (.slice none 0 0) (.slice none 0 0) (.slice none 0 0))
          have HFR12 := Lib.hid (by rw [hw12]; exact HFR11.out.set 9 _ : FR w5.heap.size w12 ob rb (.slice qa A.qs.length qc) (.slice none 0 0) (.slice none 0 0) (.slice dd (df.keep pf.goes A.ad).length dk) A.qs [] [] (df.keep pf.goes A.ad))
          have HB12 := Lib.hid (by rw [hw12]; exact HB11.out.setCell (by show w.heap.size ≤ ob; have := HDL.out; omega) _ : Below w.heap.size w w12)
          have HW12 := Lib.hid hw12; have Z2 := Lib.hid z2
          clear hw12 z2
          go_upto_region 18 with fail
          rw [← HW12.out]
          clear x0 x1 x2 x3 x4 x5 x6 x7 x8 x9 x10 x11 x12 x13 g0 g1 g2 g3 g4 g5 g6 g7 g8 g9 g10 g11 g12 g13
          have hst := msg_stored HRB12.out { h with aa := false, rcode := 3 } (.slice qa A.qs.length qc) (.slice none 0 0) (.slice none 0 0) (.slice dd (df.keep pf.goes A.ad).length dk)
          have hpost : FiltPost (pf.filt rules mqs A) w (.returned (.tuple #[msgV { h with aa := false, rcode := 3 } (.slice qa A.qs.length qc) (.slice none 0 0) (.slice none 0 0) (.slice dd (df.keep pf.goes A.ad).length dk), .bool true])) _ := filt_end (A := ⟨{ h with aa := false, rcode := 3 }, A.qs, [], [], df.keep pf.goes A.ad⟩) hrs rfl HB12.out HFR12.out hbw5 hst.2 HRLT.out
          have HST := Lib.hid hst.1
          have HPOST := Lib.hid hpost; have HRS := Lib.hid hrs
          clear hpost hrs
          clear hst
          obtain ⟨x0, x1, x2, x3, x4, x5, x6, x7, x8, x9, x10, x11, x12, x13⟩ := MsgB.facts HM12.out
          have g0 := MsgB.free HM12.out 0; have g1 := MsgB.free HM12.out 1; have g2 := MsgB.free HM12.out 2; have g3 := MsgB.free HM12.out 3; have g4 := MsgB.free HM12.out 4; have g5 := MsgB.free HM12.out 5; have g6 := MsgB.free HM12.out 6; have g7 := MsgB.free HM12.out 7; have g8 := MsgB.free HM12.out 8; have g9 := MsgB.free HM12.out 9; have g10 := MsgB.free HM12.out 10; have g11 := MsgB.free HM12.out 11; have g12 := MsgB.free HM12.out 12; have g13 := MsgB.free HM12.out 13
          obtain ⟨y0, y1, y2, y3, y4, y5, y6, y7, y8, y9, y10, y11, y12, y13⟩ := MsgB.facts HRB12.out
          have f0 := MsgB.free HRB12.out 0; have f1 := MsgB.free HRB12.out 1; have f2 := MsgB.free HRB12.out 2; have f3 := MsgB.free HRB12.out 3; have f4 := MsgB.free HRB12.out 4; have f5 := MsgB.free HRB12.out 5; have f6 := MsgB.free HRB12.out 6; have f7 := MsgB.free HRB12.out 7; have f8 := MsgB.free HRB12.out 8; have f9 := MsgB.free HRB12.out 9; have f10 := MsgB.free HRB12.out 10; have f11 := MsgB.free HRB12.out 11; have f12 := MsgB.free HRB12.out 12; have f13 := MsgB.free HRB12.out 13
          go_wp2_with fail
          exact msg_ret2 (y := .bool true) rfl rfl rfl rfl HST.out HPOST.out
        · have zb2 : (r.kind == 2) = false := by rw [beq_eq_false_iff_ne]; exact z2
          have hh0 : pf.told q0 r A = ⟨{ h with aa := false, rcode := 0 }, A.qs, if pf.sayB q0 r = true then [pf.sayR q0 r] else [], [], df.keep pf.goes A.ad⟩ := by unfold pf.told; rw [if_neg z2, HH.out]
          obtain ⟨sy, hsy⟩ : ∃ b, b = pf.sayB q0 r := ⟨_, rfl⟩
          have Z2 := Lib.hid z2
          clear z2
          go_upto_region 16 with fail
          go_cut [76] (fun s wx => s = .bool sy ∧ wx = w11)
          case first =>
            by_cases k4 : r.kind = 4
            · have zb4 : (r.kind == 4) = true := by rw [beq_iff_eq]; exact k4
              by_cases t1 : q0.typ = r.typ
              · have tb1 : (q0.typ == r.typ) = true := by rw [beq_iff_eq]; exact t1
                have hsy2 : sy = true := by rw [hsy]; unfold pf.sayB; rw [decide_eq_true k4, decide_eq_true t1]; rfl
                have HSY := Lib.hid hsy2
                clear hsy hsy2 k4 t1
                go_wp2_with fail
                go_meet
                exact ⟨by rw [HSY.out], rfl⟩
              · have tb1 : (q0.typ == r.typ) = false := by rw [beq_eq_false_iff_ne]; exact t1
                by_cases t2 : q0.typ = 255
                · have tb2 : (q0.typ == 255) = true := by rw [beq_iff_eq]; exact t2
                  have hsy2 : sy = true := by rw [hsy]; unfold pf.sayB; rw [decide_eq_true k4, decide_eq_false t1, decide_eq_true t2]; rfl
                  have HSY := Lib.hid hsy2
                  clear hsy hsy2 k4 t1 t2
                  go_wp2_with fail
                  go_meet
                  exact ⟨by rw [HSY.out], rfl⟩
                · have tb2 : (q0.typ == 255) = false := by rw [beq_eq_false_iff_ne]; exact t2
                  by_cases t3 : r.typ = 5
                  · have tb3 : (r.typ == 5) = true := by rw [beq_iff_eq]; exact t3
                    have hsy2 : sy = true := by rw [hsy]; unfold pf.sayB; rw [decide_eq_true k4, decide_eq_false t1, decide_eq_false t2, decide_eq_true t3]; rfl
                    have HSY := Lib.hid hsy2
                    clear hsy hsy2 k4 t1 t2 t3
                    go_wp2_with fail
                    go_meet
                    exact ⟨by rw [HSY.out], rfl⟩
                  · have tb3 : (r.typ == 5) = false := by rw [beq_eq_false_iff_ne]; exact t3
                    have hsy2 : sy = false := by rw [hsy]; unfold pf.sayB; rw [decide_eq_true k4, decide_eq_false t1, decide_eq_false t2, decide_eq_false t3]; rfl
                    have HSY := Lib.hid hsy2
                    clear hsy hsy2 k4 t1 t2 t3
                    go_wp2_with fail
                    go_meet
                    exact ⟨by rw [HSY.out], rfl⟩
            · have zb4 : (r.kind == 4) = false := by rw [beq_eq_false_iff_ne]; exact k4
              have hsy2 : sy = false := by rw [hsy]; unfold pf.sayB; rw [decide_eq_false k4]; rfl
              have HSY := Lib.hid hsy2
              clear hsy hsy2 k4
              go_wp2_with fail
              go_meet
              exact ⟨by rw [HSY.out], rfl⟩
          case rest =>
          obtain ⟨rfl, hwe⟩ := hcut
          rw [hwe]
          clear hwe
          cases sy
          · have hrs : pf.filt rules mqs A = some ⟨{ h with aa := false, rcode := 0 }, A.qs, [], [], df.keep pf.goes A.ad⟩ := by rw [HRS1.out, hh0, ← hsy]; rfl
            clear hh0
            have HSY := Lib.hid hsy
            clear hsy
            clear x0 x1 x2 x3 x4 x5 x6 x7 x8 x9 x10 x11 x12 x13 g0 g1 g2 g3 g4 g5 g6 g7 g8 g9 g10 g11 g12 g13
            have hst := msg_stored HRB11.out { h with aa := false, rcode := 0 } (.slice qa A.qs.length qc) (.slice none 0 0) (.slice none 0 0) (.slice dd (df.keep pf.goes A.ad).length dk)
            have hpost : FiltPost (pf.filt rules mqs A) w (.returned (.tuple #[msgV { h with aa := false, rcode := 0 } (.slice qa A.qs.length qc) (.slice none 0 0) (.slice none 0 0) (.slice dd (df.keep pf.goes A.ad).length dk), .bool true])) _ := filt_end (A := ⟨{ h with aa := false, rcode := 0 }, A.qs, [], [], df.keep pf.goes A.ad⟩) hrs rfl HB11.out HFR11.out hbw5 hst.2 HRLT.out
            have HST := Lib.hid hst.1
            have HPOST := Lib.hid hpost; have HRS := Lib.hid hrs
            clear hpost hrs
            clear hst
            obtain ⟨x0, x1, x2, x3, x4, x5, x6, x7, x8, x9, x10, x11, x12, x13⟩ := MsgB.facts HM11.out
            have g0 := MsgB.free HM11.out 0; have g1 := MsgB.free HM11.out 1; have g2 := MsgB.free HM11.out 2; have g3 := MsgB.free HM11.out 3; have g4 := MsgB.free HM11.out 4; have g5 := MsgB.free HM11.out 5; have g6 := MsgB.free HM11.out 6; have g7 := MsgB.free HM11.out 7; have g8 := MsgB.free HM11.out 8; have g9 := MsgB.free HM11.out 9; have g10 := MsgB.free HM11.out 10; have g11 := MsgB.free HM11.out 11; have g12 := MsgB.free HM11.out 12; have g13 := MsgB.free HM11.out 13
            obtain ⟨y0, y1, y2, y3, y4, y5, y6, y7, y8, y9, y10, y11, y12, y13⟩ := MsgB.facts HRB11.out
            have f0 := MsgB.free HRB11.out 0; have f1 := MsgB.free HRB11.out 1; have f2 := MsgB.free HRB11.out 2; have f3 := MsgB.free HRB11.out 3; have f4 := MsgB.free HRB11.out 4; have f5 := MsgB.free HRB11.out 5; have f6 := MsgB.free HRB11.out 6; have f7 := MsgB.free HRB11.out 7; have f8 := MsgB.free HRB11.out 8; have f9 := MsgB.free HRB11.out 9; have f10 := MsgB.free HRB11.out 10; have f11 := MsgB.free HRB11.out 11; have f12 := MsgB.free HRB11.out 12; have f13 := MsgB.free HRB11.out 13
            go_wp2_with fail
            exact msg_ret2 (y := .bool true) rfl rfl rfl rfl HST.out HPOST.out
          · have hrs : pf.filt rules mqs A = some ⟨{ h with aa := false, rcode := 0 }, A.qs, [pf.sayR q0 r], [], df.keep pf.goes A.ad⟩ := by rw [HRS1.out, hh0, ← hsy]; rfl
            clear hh0
            obtain ⟨w12, hw12⟩ : ∃ X, X = w11.alloc (.cells (recC (pf.sayR q0 r)).toArray 41) := ⟨_, rfl⟩
            have hB12 : Below w11.heap.size w11 w12 := by rw [hw12]; exact (Below.refl _ _).alloc (Nat.le_refl _) _
            obtain ⟨g, hgn⟩ : ∃ n, n = w11.heap.size := ⟨_, rfl⟩
            obtain ⟨w13, hw13⟩ : ∃ X, X = w12.setCell ⟨ob, 11, none⟩ (.slice (some ⟨g, 0, none⟩) 1 1) := ⟨_, rfl⟩
            have HM13 := Lib.hid (by rw [hw13]; exact (HM11.out.below hB12).set11 _ : MsgB w13 ob { h with aa := false, rcode := 0 } (.slice qa A.qs.length qc) (.slice (some ⟨g, 0, none⟩) 1 1) (.slice none 0 0) (.slice dd (df.keep pf.goes A.ad).length dk))
            have HRB13 := Lib.hid (by rw [hw13]; exact MsgB.eqv (HRB11.out.below hB12) (Below.heap_setCell _ _ _ _ HRO.out) : MsgB w13 rb hd0 (.slice none 0 0) (.slice none 0 0) (.slice none 0 0) (.slice none 0 0))
            have HFR13 := Lib.hid (by rw [hw13, hgn]; exact (HFR11.out.newA HM11.out.lt HRB11.out.lt hw12).set 11 _ : FR w5.heap.size w13 ob rb (.slice qa A.qs.length qc) (.slice (some ⟨g, 0, none⟩) 1 1) (.slice none 0 0) (.slice dd (df.keep pf.goes A.ad).length dk) A.qs [pf.sayR q0 r] [] (df.keep pf.goes A.ad))
            have HB13' := Lib.hid (by rw [hw13]; exact (HB11.out.trans (hB12.mono HB11.out.size)).setCell (by show w.heap.size ≤ ob; have := HDL.out; omega) _ : Below w.heap.size w w13)
            have hm12 := HM11.out.below hB12
            have z11 := hm12.facts.2.2.2.2.2.2.2.2.2.2.2.1
            have zf11 := hm12.free 11
            rw [hw12] at z11 zf11
            clear hB12 hm12
            have HW12 := Lib.hid hw12; have HW13 := Lib.hid hw13; have HGN := Lib.hid hgn; have HSY := Lib.hid hsy; have Z11 := Lib.hid z11; have ZF11 := Lib.hid zf11
            clear hw12 hw13 hgn hsy z11 zf11
            have z11 : (w11.alloc (.cells #[.string q0.name, .int .i64 r.typ, .int .i64 1, .int .i64 r.ttl, .string r.data] 41)).cell? ⟨ob, 11, none⟩ = some (.slice none 0 0) := Z11.out
            have zf11 : (w11.alloc (.cells #[.string q0.name, .int .i64 r.typ, .int .i64 1, .int .i64 r.ttl, .string r.data] 41)).frozen? ⟨ob, 11, none⟩ = false := ZF11.out
            go_upto_region 18 with fail
            rw [← HW12.out, ← HGN.out, ← HW13.out]
            clear z11 zf11
            clear x0 x1 x2 x3 x4 x5 x6 x7 x8 x9 x10 x11 x12 x13 g0 g1 g2 g3 g4 g5 g6 g7 g8 g9 g10 g11 g12 g13
            have hst := msg_stored HRB13.out { h with aa := false, rcode := 0 } (.slice qa A.qs.length qc) (.slice (some ⟨g, 0, none⟩) 1 1) (.slice none 0 0) (.slice dd (df.keep pf.goes A.ad).length dk)
            have hpost : FiltPost (pf.filt rules mqs A) w (.returned (.tuple #[msgV { h with aa := false, rcode := 0 } (.slice qa A.qs.length qc) (.slice (some ⟨g, 0, none⟩) 1 1) (.slice none 0 0) (.slice dd (df.keep pf.goes A.ad).length dk), .bool true])) _ := filt_end (A := ⟨{ h with aa := false, rcode := 0 }, A.qs, [pf.sayR q0 r], [], df.keep pf.goes A.ad⟩) hrs rfl HB13'.out HFR13.out hbw5 hst.2 HRLT.out
            have HST := Lib.hid hst.1
            have HPOST := Lib.hid hpost; have HRS := Lib.hid hrs
            clear hpost hrs
            clear hst
            obtain ⟨x0, x1, x2, x3, x4, x5, x6, x7, x8, x9, x10, x11, x12, x13⟩ := MsgB.facts HM13.out
            have g0 := MsgB.free HM13.out 0; have g1 := MsgB.free HM13.out 1; have g2 := MsgB.free HM13.out 2; have g3 := MsgB.free HM13.out 3; have g4 := MsgB.free HM13.out 4; have g5 := MsgB.free HM13.out 5; have g6 := MsgB.free HM13.out 6; have g7 := MsgB.free HM13.out 7; have g8 := MsgB.free HM13.out 8; have g9 := MsgB.free HM13.out 9; have g10 := MsgB.free HM13.out 10; have g11 := MsgB.free HM13.out 11; have g12 := MsgB.free HM13.out 12; have g13 := MsgB.free HM13.out 13
            obtain ⟨y0, y1, y2, y3, y4, y5, y6, y7, y8, y9, y10, y11, y12, y13⟩ := MsgB.facts HRB13.out
            have f0 := MsgB.free HRB13.out 0; have f1 := MsgB.free HRB13.out 1; have f2 := MsgB.free HRB13.out 2; have f3 := MsgB.free HRB13.out 3; have f4 := MsgB.free HRB13.out 4; have f5 := MsgB.free HRB13.out 5; have f6 := MsgB.free HRB13.out 6; have f7 := MsgB.free HRB13.out 7; have f8 := MsgB.free HRB13.out 8; have f9 := MsgB.free HRB13.out 9; have f10 := MsgB.free HRB13.out 10; have f11 := MsgB.free HRB13.out 11; have f12 := MsgB.free HRB13.out 12; have f13 := MsgB.free HRB13.out 13
            go_wp2_with fail
            exact msg_ret2 (y := .bool true) rfl rfl rfl rfl HST.out HPOST.out
end Go.Proofs.Ytnloommafgnanaa

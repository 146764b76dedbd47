/-
  gazetteersame: WholeMessage; alike messages.
-/
import Derived.Test.YtnloommafgnanaaQMsgB
import Derived.Test.YtnloommafgnanaaQFilA
namespace Go.Proofs.Ytnloommafgnanaa
open Go.RowKit Go.Shelf Go.Proofs.Ytnloommafgnanaa.nm Go.Proofs.Ytnloommafgnanaa.od

set_option maxRecDepth 100000 in
set_option maxHeartbeats 4000000 in
/-- A twin of a message is whole. -/
theorem wholeMessage_any (base : Nat) (h : Hd) (qs : List Qn) (an au ad : List Rec) (hq : qs.length ≤ 1000000000000) (ha : an.length ≤ 1000000000000) (hu : au.length ≤ 1000000000000) (hd : ad.length ≤ 1000000000000) (q : Value) (ga ca gu cu gd cd : Nat) (q' a' u' d' : Value) (w : World)
    (q1 : QnsAt w q qs) (a1 : TwinAt w base ga ca an) (u1 : TwinAt w base gu cu au) (d1 : TwinAt w base gd cd ad) (q2 : QnsAt w q' qs) (a2 : RecsAt w a' an) (u2 : RecsAt w u' au) (d2 : RecsAt w d' ad) :
    Calls Try.prog 12 #[msgV h q (.slice (some ⟨ga, 0, none⟩) an.length ca) (.slice (some ⟨gu, 0, none⟩) au.length cu) (.slice (some ⟨gd, 0, none⟩) ad.length cd), msgV h q' a' u' d'] w fun e w' => e = .returned (.bool true) ∧ Below w.heap.size w w' := by
  obtain ⟨w1, hw1⟩ : ∃ X, X = w.alloc (.cells (msgC h q (.slice (some ⟨ga, 0, none⟩) an.length ca) (.slice (some ⟨gu, 0, none⟩) au.length cu) (.slice (some ⟨gd, 0, none⟩) ad.length cd)).toArray 27) := ⟨_, rfl⟩
  obtain ⟨w2, hw2⟩ : ∃ X, X = w1.alloc (.cells (msgC h q' a' u' d').toArray 27) := ⟨_, rfl⟩
  obtain ⟨hB1, hs1, hm1⟩ := msg_new hw1
  obtain ⟨hB2, hs2, hm2⟩ := msg_new hw2
  have HX2 := Lib.hid (hm1.below hB2)
  have HB2 := Lib.hid (hB1.trans (hB2.mono hB1.size))
  rw [hs1] at hm2
  obtain ⟨x0, x1, x2, x3, x4, x5, x6, x7, x8, x9, x10, x11, x12, x13⟩ := HX2.out.facts
  obtain ⟨y0, y1, y2, y3, y4, y5, y6, y7, y8, y9, y10, y11, y12, y13⟩ := hm2.facts
  have HY2 := Lib.hid hm2
  clear hm1 hm2 hs1 hs2 hB1 hB2
  have HW1 := Lib.hid hw1; have HW2 := Lib.hid hw2
  clear hw1 hw2
  have HQ1 := Lib.hid q1; have HQ2 := Lib.hid q2; have HA1 := Lib.hid a1; have HA2 := Lib.hid a2; have HU1 := Lib.hid u1; have HU2 := Lib.hid u2; have HD1 := Lib.hid d1; have HD2 := Lib.hid d2
  clear q1 q2 a1 a2 u1 u2 d1 d2
  go_enter Try.func12, Try.ntmps12
  go_upto_region 1 with fail
  rw [← HW1.out, ← HW2.out]
  go_wp2_with fail
  refine (head_same h _ _ _ _ _ _ _ _ _).mono ?_
  rintro e w3 ⟨rfl, hB3⟩
  clear x0 x1 x2 x3 x4 x5 x6 x7 x8 x9 y0 y1 y2 y3 y4 y5 y6 y7 y8 y9
  have HX3 := Lib.hid (HX2.out.below hB3); have HY3 := Lib.hid (HY2.out.below hB3)
  have HB3 := Lib.hid (HB2.out.trans (hB3.mono HB2.out.size))
  clear hB3 x10 x11 x12 x13 y10 y11 y12 y13
  obtain ⟨_, _, _, _, _, _, _, _, _, _, x10, x11, x12, x13⟩ := HX3.out.facts
  obtain ⟨_, _, _, _, _, _, _, _, _, _, y10, y11, y12, y13⟩ := HY3.out.facts
  go_wp2_with fail
  refine (questions_same qs hq _ _ w3 (HQ1.out.below HB3.out) (HQ2.out.below HB3.out)).mono ?_
  rintro e w4 ⟨rfl, hB4⟩
  have HX4 := Lib.hid (HX3.out.below hB4); have HY4 := Lib.hid (HY3.out.below hB4)
  have HB4 := Lib.hid (HB3.out.trans (hB4.mono HB3.out.size))
  clear hB4 x10 x11 x12 x13 y10 y11 y12 y13
  obtain ⟨_, _, _, _, _, _, _, _, _, _, x10, x11, x12, x13⟩ := HX4.out.facts
  obtain ⟨_, _, _, _, _, _, _, _, _, _, y10, y11, y12, y13⟩ := HY4.out.facts
  have ta := HA1.out.below HB4.out
  go_wp2_with fail
  refine (whole_any base ga ca an ha _ w4 ta.1 ta.2 (HA2.out.below HB4.out)).mono ?_
  rintro e w5 ⟨rfl, hB5⟩
  clear ta
  have HX5 := Lib.hid (HX4.out.below hB5); have HY5 := Lib.hid (HY4.out.below hB5)
  have HB5 := Lib.hid (HB4.out.trans (hB5.mono HB4.out.size))
  clear hB5 x10 x11 x12 x13 y10 y11 y12 y13
  obtain ⟨_, _, _, _, _, _, _, _, _, _, x10, x11, x12, x13⟩ := HX5.out.facts
  obtain ⟨_, _, _, _, _, _, _, _, _, _, y10, y11, y12, y13⟩ := HY5.out.facts
  have tu := HU1.out.below HB5.out
  go_wp2_with fail
  refine (whole_any base gu cu au hu _ w5 tu.1 tu.2 (HU2.out.below HB5.out)).mono ?_
  rintro e w6 ⟨rfl, hB6⟩
  clear tu
  have HX6 := Lib.hid (HX5.out.below hB6); have HY6 := Lib.hid (HY5.out.below hB6)
  have HB6 := Lib.hid (HB5.out.trans (hB6.mono HB5.out.size))
  clear hB6 x10 x11 x12 x13 y10 y11 y12 y13
  obtain ⟨_, _, _, _, _, _, _, _, _, _, x10, x11, x12, x13⟩ := HX6.out.facts
  obtain ⟨_, _, _, _, _, _, _, _, _, _, y10, y11, y12, y13⟩ := HY6.out.facts
  have td := HD1.out.below HB6.out
  go_wp2_with fail
  refine (whole_any base gd cd ad hd _ w6 td.1 td.2 (HD2.out.below HB6.out)).mono ?_
  rintro e w7 ⟨rfl, hB7⟩
  have HB7 := Lib.hid (HB6.out.trans (hB7.mono HB6.out.size))
  clear hB7 td
  go_wp2_with fail
  go_ret
  exact ⟨rfl, HB7.out⟩
end Go.Proofs.Ytnloommafgnanaa

/-
  Messages that came in, and their twins.
-/
namespace Go.Proofs.Ytnloommafgnanaa
open Go.RowKit Go.Shelf Go.Proofs.Ytnloommafgnanaa.nm Go.Proofs.Ytnloommafgnanaa.od

/-- A message that came in. -/
structure MsgIn (w : World) (M : Msg) (q a u d : Value) : Prop where
  rq : QnsAt w q M.qs
  ra : RecsAt w a M.an
  ru : RecsAt w u M.au
  rd : RecsAt w d M.ad
theorem MsgIn.below {w w' : World} {M : Msg} {q a u d : Value} (h : MsgIn w M q a u d) (hB : Below w.heap.size w w') : MsgIn w' M q a u d := ⟨h.rq.below hB, h.ra.below hB, h.ru.below hB, h.rd.below hB⟩
structure MsgFit (M : Msg) (q a u d : Value) : Prop where
  nq : M.qs.length ≤ 1048576
  na : M.an.length ≤ 1048576
  nu : M.au.length ≤ 1048576
  nd : M.ad.length ≤ 1048576
  fq : SliceForm q
  fa : SliceForm a
  fu : SliceForm u
  fd : SliceForm d
theorem twin_of {M : Msg} {q a u d : Value} (hf : MsgFit M q a u d) (w : World) (h : MsgIn w M q a u d) :
    Calls Try.prog 8 #[msgV M.h q a u d] w fun e w' => RTwinM M.h M.qs M.an M.au M.ad w e w' := by
  have h1 := hf.nq; have h2 := hf.na; have h3 := hf.nu; have h4 := hf.nd
  exact twinMessage_any M.h M.qs M.an M.au M.ad (by omega) (by omega) (by omega) (by omega) q a u d hf.fq hf.fa hf.fu hf.fd w h.rq h.ra h.ru h.rd

theorem Loose.below {w w' : World} {base nq : Nat} {q a u d : Value} {an au ad : List Rec} (h : Loose base w q a u d nq an au ad) (hB : Below w.heap.size w w') : Loose base w' q a u d nq an au ad :=
  ⟨by obtain ⟨xs, hx⟩ := h.qs; exact ⟨xs, ownsRow_below hx hB⟩, ownsRow_below h.ra hB, ownsRow_below h.ru hB, ownsRow_below h.rd hB, h.qa, h.qu, h.qd, h.au_, h.ad_, h.ud, Nat.le_trans h.base_ hB.size⟩
end Go.Proofs.Ytnloommafgnanaa

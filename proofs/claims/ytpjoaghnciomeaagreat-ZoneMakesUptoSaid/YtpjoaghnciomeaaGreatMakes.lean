/-
  gazetteerlaw3.ZoneMakes, walked.
-/
import Derived.Test.YtpjoaghnciomeaaGreatFar
import Derived.Test.YtpjoaghnciomeaaGreatRzE
import Derived.Test.YtpjoaghnciomeaaGreatRzF
namespace Go.Proofs.YtpjoaghnciomeaaGreat
open Go.RowKit Go.Shelf Go.WideMaps Go.Proofs.YtpjoaghnciomeaaGreat.nm Go.Proofs.YtpjoaghnciomeaaGreat.od

theorem bel_markR {w w' : World} {base n : Nat} {v : Value} (hw : Writ w base v n) (hb : base ≤ w.heap.size) (hg : w.grownBy w' v.ownBlock) : Below base w w' := by
  obtain ⟨xs, hx⟩ := hw
  exact (Below.refl base w).grown hg hb (fun j hj => (hx.lt j hj).1)
theorem newPostB_zone {apex : ByteArray} {l : List Rec} {w w' : World} {e : Ending} (h : NewPostB apex l w e w') (hn : zn.newE apex l = none) :
    Below w.heap.size w w' ∧ ∃ z L, SortedOf l L ∧ e = .returned (.tuple #[.pointer (some ⟨z, 0, none⟩), .int .i64 0, .int .i64 0]) ∧ ZoneInB w' w.heap.size z apex L := by
  unfold NewPostB at h
  rw [hn] at h
  obtain ⟨hB, z, L, _, hs, he, hv⟩ := h
  exact ⟨hB, z, L, hs, he, hv⟩
theorem newPostB_bad {apex : ByteArray} {l : List Rec} {w w' : World} {e : Ending} {k c : Int} (h : NewPostB apex l w e w') (hn : zn.newE apex l = some (k, c)) :
    Below w.heap.size w w' ∧ e = .returned (.tuple #[.pointer none, .int .i64 k, .int .i64 c]) := by
  unfold NewPostB at h
  rw [hn] at h
  exact h
/-- The head of a row of its own. -/
theorem writ_short {w : World} {base g n m cap : Nat} {xs : List Value} (h : w.ownsRow base 53 5 (.slice (some ⟨g, 0, none⟩) n cap) n xs) (hm : m ≤ n) : Writ w base (.slice (some ⟨g, 0, none⟩) m cap) m := by
  rcases h.2 with ⟨h0, _⟩ | ⟨g', cap', cur, hv, hb, hg, hn, hc, hz, hx⟩
  · cases h0
  · simp only [Value.slice.injEq, Option.some.injEq, Addr.mk.injEq, and_true, true_and] at hv
    obtain ⟨rfl, rfl⟩ := hv
    refine ⟨cur.toList.take (m * 5), ?_, .inr ⟨g, cap, cur, rfl, hb, hg, by omega, hc, hz, rfl⟩⟩
    rw [List.length_take, Array.length_toList, hz]
    omega
theorem twin_recs {w : World} {base g cap : Nat} {l : List Rec} (h : w.ownsRow base 53 5 (.slice (some ⟨g, 0, none⟩) (l.length + 2) cap) (l.length + 2) (recsC (l ++ [spareR, spareR]))) : RecsAt w (.slice (some ⟨g, 0, none⟩) l.length cap) l := by
  have hfull : RecsAt w (.slice (some ⟨g, 0, none⟩) (l.length + 2) cap) (l ++ [spareR, spareR]) := owns_recs (base := base) (by rw [List.length_append]; exact h)
  have := recsAt_take (k := l.length) hfull (by rw [List.length_append]; omega)
  rw [List.take_left] at this
  exact this
theorem zn.soa_first {apex : ByteArray} {L : List Rec} (hv : zn.Valid apex L) : ∃ r0 rest, zn.rowsS L (foldS apex, 6) = r0 :: rest ∧ 20 ≤ r0.data.size ∧ r0.data.size ≤ 65535 := by
  obtain ⟨r, hr, h6, _, hf⟩ := zn.soa_rec hv
  have hm : r ∈ zn.rowsS L (foldS apex, 6) := zn.mem_rowsS.2 ⟨hr, by unfold zn.keyR; rw [hf, h6]⟩
  obtain ⟨r0, rest, h0⟩ : ∃ r0 rest, zn.rowsS L (foldS apex, 6) = r0 :: rest := by
    cases h : zn.rowsS L (foldS apex, 6) with
    | nil => rw [h] at hm; cases hm
    | cons a b => exact ⟨a, b, rfl⟩
  have hm0 : r0 ∈ zn.rowsS L (foldS apex, 6) := by rw [h0]; exact List.mem_cons_self ..
  obtain ⟨h1, h2⟩ := zn.mem_rowsS.1 hm0
  have ht : r0.typ = 6 := congrArg Prod.snd h2
  have hchk : dt.chkI 6 r0.data = 0 := by
    have := (hv.each r0 h1).2.1
    unfold zn.bad1 at this
    simp only [Bool.not_eq_false', Bool.and_eq_true, decide_eq_true_eq] at this
    rw [← ht]
    exact this.2
  exact ⟨r0, rest, h0, dt.soa_size hchk⟩
theorem same_self (x : List Rec) (hx : x.length ≤ 1000000000000) (v u : Value) (w : World) (hv : RecsAt w v x) (hu : RecsAt w u x) :
    Calls Tryz.prog 17 #[v, u] w fun e w' => e = .returned (.bool true) ∧ Below w.heap.size w w' := by
  have h := same_any x x hx v u w hv hu
  rw [decide_eq_true rfl] at h
  exact h

set_option maxRecDepth 100000 in
set_option maxHeartbeats 8000000 in
theorem makes_any (apex : ByteArray) (hapz : apex.size ≤ 1099511627776) (l : List Rec) (hok : ∀ r ∈ l, (Lit.int .i64 r.typ).wf = true) (hl : l.length ≤ 1048576) (hsz : ∀ r ∈ l, r.owner.size ≤ 1099511627776) (a : Option Addr) (cap : Nat) (hf : SliceForm (.slice a l.length cap))
    (w : World) (hrv : RecsAt w (.slice a l.length cap) l) :
    Calls Tryz.prog 3 #[.string apex, .slice a l.length cap] w fun e w' => e = .returned (.bool true) ∧ Below w.heap.size w w' := by
  have htw := twin_any l (by omega) _ hf w hrv
  have HTW := Lib.hid htw; have HOK := Lib.hid hok; have HSZ := Lib.hid hsz; have HRV := Lib.hid hrv; have HF := Lib.hid hf
  clear htw hok hsz hrv hf
  go_enter Tryz.func3, Tryz.ntmps3
  go_wp2_with fail
  refine (HTW.out).mono ?_
  rintro e w1 ⟨gt, ct, rfl, hB1, hown1, hct⟩
  have hs1 := hB1.size
  have hgt := hown1.lt gt rfl
  have hnew := new_anyB apex l HOK.out _ (.inr ⟨gt, 0, l.length, ct, rfl⟩) w1 (twin_recs hown1)
  have HNEW := Lib.hid hnew; have HOWN1 := Lib.hid hown1; have HB1 := Lib.hid hB1
  clear hnew hown1 hB1
  go_wp2_with fail
  refine HNEW.out.mono ?_
  intro e w2 hp
  rcases hne : zn.newE apex l with _ | ⟨k0, c0⟩
  · obtain ⟨hB2, z, L, hs, rfl, hzi⟩ := newPostB_zone hp hne
    have hva0 := zn.valid_of hne
    have hva : zn.Valid apex L := zn.valid_of (zn.newE_of hs.1.symm hne)
    have hmk := rmake_anyB apex hapz l HSZ.out _ HF.out w2 (HRV.out.below (HB1.out.trans (hB2.mono hs1)))
    have hs2 : w1.heap.size ≤ w2.heap.size := hB2.size
    have hown2 := ownsRow_below HOWN1.out hB2
    clear hp
    have HB2 := Lib.hid hB2; have HZI := Lib.hid hzi; have HVA := Lib.hid hva; have HVA0 := Lib.hid hva0; have HS := Lib.hid hs; have HMK := Lib.hid hmk; have HNE := Lib.hid hne; have HOWN2 := Lib.hid hown2
    clear hB2 hzi hva hva0 hs hmk hne hown2
    go_wp2_with fail
    refine HMK.out.mono ?_
    rintro e w3 ⟨hB3, hm⟩
    rw [HNE.out] at hm
    obtain ⟨y, L', hs', rfl, hy⟩ := hm
    obtain rfl : L' = L := hs'.eq HS.out HVA0.out.named (zn.uniq_of (zn.distinct_of (zn.rules_twice HVA0.out.rules)))
    have hLz := HVA.out.small
    have hs3 : w2.heap.size ≤ w3.heap.size := hB3.size
    have hB13 : Below w.heap.size w w3 := HB1.out.trans ((HB2.out.mono hs1).trans (hB3.mono (by omega)))
    have hown3 := ownsRow_below HOWN2.out hB3
    have hwh := whole_any w.heap.size gt ct l (by omega) _ w3 hown3 hct (HRV.out.below hB13)
    clear hs'
    have HB3 := Lib.hid hB3; have HY := Lib.hid hy; have HB13 := Lib.hid hB13; have HOWN3 := Lib.hid hown3; have HWH := Lib.hid hwh
    clear hB3 hy hB13 hown3 hwh
    go_wp2_with fail
    refine (HWH.out).mono ?_
    rintro e w4 ⟨rfl, hB4⟩
    have hs4 : w3.heap.size ≤ w4.heap.size := hB4.size
    have hw4 : Writ w4 w.heap.size (.slice (some ⟨gt, 0, none⟩) l.length ct) l.length := writ_short (ownsRow_below HOWN3.out hB4) (by omega)
    have HB4 := Lib.hid hB4; have HW4 := Lib.hid hw4
    clear hB4 hw4
    go_wp2_with fail
    refine (mark_any w.heap.size _ l.length (by omega) w4 HW4.out).mono ?_
    rintro e w5 ⟨rfl, hg5⟩
    have hs5 : w4.heap.size ≤ w5.heap.size := hg5.size
    have hk5 : ∀ b, w1.heap.size ≤ b → b < w4.heap.size → w5.heap[b]? = w4.heap[b]? := fun b h1 h2 => hg5.block b h2 (by simp only [Value.ownBlock, ne_eq, Option.some.injEq]; omega)
    have hz5 : ZoneV w5 w5.heap.size z apex L' := ZoneV.new (HZI.out.keep fun b h1 h2 => ((hk5 b h1 (by omega)).trans (HB4.out.block b (by omega))).trans (HB3.out.block b h2))
    have hy5 : RZone w5 y apex L' := HY.out.keep (by omega) fun b h1 h2 => (hk5 b (by omega) (by omega)).trans (HB4.out.block b h2)
    have hB5 : Below w.heap.size w w5 := (HB13.out.trans (HB4.out.mono (by omega))).trans (bel_markR HW4.out (by omega) hg5)
    have hsw5 := hB5.size
    obtain ⟨g, gc, hyc, hyr⟩ := id hy5
    clear hk5 hg5
    have HZ5 := Lib.hid hz5; have HY5 := Lib.hid hy5; have HB5 := Lib.hid hB5; have HYC := Lib.hid hyc; have HYR := Lib.hid hyr
    clear hz5 hy5 hB5 hyc hyr
    go_wp2_with fail
    refine (records_any w5.heap.size z apex L' hLz w5 HZ5.out).mono ?_
    rintro e w6 ⟨v6, rfl, hB6, hown6⟩
    obtain ⟨a6, c6, rfl, _⟩ := ownsRow_len hown6
    have hs6 : w5.heap.size ≤ w6.heap.size := hB6.size
    have hy1 := (rz_cells HYC.out HYR.out hB6).2.1
    have hsm := same_self L' (by omega) _ _ w6 (owns_recs hown6) (HYR.out.below hB6)
    have HB6 := Lib.hid hB6; have HOWN6 := Lib.hid hown6; have HSM := Lib.hid hsm
    clear hB6 hown6 hsm
    go_wp2_with fail
    refine (HSM.out).mono ?_
    rintro e w7 ⟨rfl, hB7⟩
    have hw7 : Writ w7 w5.heap.size (.slice a6 L'.length c6) L'.length := ⟨_, ownsRow_below HOWN6.out hB7⟩
    have hB7' : Below w5.heap.size w5 w7 := HB6.out.trans (hB7.mono hs6)
    have hs7 := hB7'.size
    clear hB7 hy1 HSM
    have HW7 := Lib.hid hw7; have HB7' := Lib.hid hB7'
    clear hw7 hB7'
    go_wp2_with fail
    refine (mark_any w5.heap.size _ L'.length (by omega) w7 HW7.out).mono ?_
    rintro e w8 ⟨rfl, hg8⟩
    have hB8 : Below w5.heap.size w5 w8 := HB7'.out.trans (bel_markR HW7.out hs7 hg8)
    have hs8 := hB8.size
    obtain ⟨r0, rest, hrow, hd⟩ := zn.soa_first HVA.out
    obtain ⟨n, hn⟩ : ∃ n, n = zn.serialD r0.data := ⟨_, rfl⟩
    have hall : ∀ X : World, Below w8.heap.size w8 X → Below w8.heap.size w8 X ∧ X.cell? ⟨y, 1, none⟩ = some (.slice (some ⟨g, 0, none⟩) L'.length gc) := fun X hX =>
      ⟨hX, (rz_cells HYC.out HYR.out (hB8.trans (hX.mono hs8))).2.1⟩
    have hax : ∀ X : World, Below w8.heap.size w8 X → Calls Tryz.prog 18 #[.pointer (some ⟨z, 0, none⟩)] X fun e w' => e = .returned (.string apex) ∧ Below X.heap.size X w' := fun X hX => by
      obtain ⟨_, _, _, _, _, _, _, h2, _⟩ := (HZ5.out.below (hB8.trans (hX.mono hs8))).parts
      refine (apex_any z apex _ _ _ X h2).mono ?_
      rintro e w' ⟨rfl, rfl⟩
      exact ⟨rfl, Below.refl _ _⟩
    have hs1' : ∀ X : World, Below w8.heap.size w8 X → Calls Tryz.prog 19 #[.pointer (some ⟨z, 0, none⟩)] X fun e w' => e = .returned (.int .i64 n) ∧ Below X.heap.size X w' := fun X hX => by
      rw [hn]
      exact serial_any w5.heap.size z apex L' r0 rest hrow hd X (HZ5.out.below (hB8.trans (hX.mono hs8)))
    have hs2' : ∀ X : World, Below w8.heap.size w8 X → Calls Tryz.prog 20 #[.pointer (some ⟨y, 0, none⟩)] X fun e w' => e = .returned (.int .i64 n) ∧ Below X.heap.size X w' := fun X hX => by
      rw [hn]
      exact rserial_any y apex L' HVA.out r0 rest hrow X (HY5.out.below (hB8.trans (hX.mono hs8)))
    have hrc : ∀ X : World, Below w8.heap.size w8 X → Calls Tryz.prog 16 #[.pointer (some ⟨z, 0, none⟩)] X fun e w' => NewRecs L' X e w' := fun X hX =>
      records_any w5.heap.size z apex L' hLz X (HZ5.out.below (hB8.trans (hX.mono hs8)))
    have hsm : ∀ (X wA : World) (vA : Value), Below w8.heap.size w8 wA → wA.ownsRow X.heap.size 53 5 vA L'.length (recsC L') → Calls Tryz.prog 17 #[vA, .slice (some ⟨g, 0, none⟩) L'.length gc] wA fun e w' => e = .returned (.bool true) ∧ Below wA.heap.size wA w' := fun X wA vA hA hoA =>
      same_self L' (by omega) vA _ wA (owns_recs hoA) (HYR.out.below (hB8.trans (hA.mono hs8)))
    have HBE := Lib.hid (HB5.out.trans (hB8.mono hsw5))
    have q1 : (apex.toList == apex.toList) = true := str_eq.2 rfl
    have q2 : (n == n) = true := by rw [beq_iff_eq]
    clear hB8 hg8
    have HAX := Lib.hid hax; have HSA := Lib.hid hs1'; have HSB := Lib.hid hs2'
    clear hax hs1' hs2'
    have HALL := Lib.hid hall; have HRC := Lib.hid hrc; have HSM := Lib.hid hsm; have HROW := Lib.hid hrow; have HD := Lib.hid hd; have HN := Lib.hid hn
    clear hall hrc hsm hrow hd hn
    go_upto_region 13 with fail
    go_cut [4] (fun s wx => s = .bool true ∧ Below w8.heap.size w8 wx)
    case first =>
      go_region_held3 (fun X => Below w8.heap.size w8 X ∧ X.cell? ⟨y, 1, none⟩ = some (.slice (some ⟨g, 0, none⟩) L'.length gc))
        (first | assumption | exact HALL.out _ (Below.refl _ _).drew | (go_split_ands; exact HALL.out _ (by assumption)))
        (first
          | (go_at_call 18; (with_reducible refine (HAX.out _ (by go_split_ands; assumption)).mono ?_); rintro e wX ⟨rfl, hbX⟩; go_split_ands; have hbX2 := Below.trans (B := w8.heap.size) (a := w8) (by assumption) (hbX.mono (Below.size (by assumption))))
          | (go_at_call 19; (with_reducible refine (HSA.out _ (by go_split_ands; assumption)).mono ?_); rintro e wS ⟨rfl, hbS⟩; go_split_ands; have hbS2 := Below.trans (B := w8.heap.size) (a := w8) (by assumption) (hbS.mono (Below.size (by assumption))))
          | (go_at_call 20; (with_reducible refine (HSB.out _ (by go_split_ands; assumption)).mono ?_); rintro e wT ⟨rfl, hbT⟩; go_split_ands; have hbT2 := Below.trans (B := w8.heap.size) (a := w8) (by assumption) (hbT.mono (Below.size (by assumption))))
          | (go_at_call 16; (with_reducible refine (HRC.out _ (by go_split_ands; assumption)).mono ?_); rintro e wA ⟨vA, rfl, hbA, hoA⟩; go_split_ands; have hbA2 := Below.trans (B := w8.heap.size) (a := w8) (by assumption) (hbA.mono (Below.size (by assumption))))
          | (go_at_call 17; (with_reducible refine (HSM.out _ _ _ (by assumption) hoA).mono ?_); rintro e wB ⟨rfl, hbB⟩; have hbB2 := Below.trans (B := w8.heap.size) (a := w8) hbA2 (hbB.mono (Below.size hbA2))))
      all_goals (go_wp2_with fail; go_meet; exact ⟨rfl, hbB2⟩)
    case rest =>
    obtain ⟨rfl, hBc⟩ := hcut
    have HBC := Lib.hid (HBE.out.trans (hBc.mono HBE.out.size))
    clear hBc
    go_wp2_with fail
    go_ret
    exact ⟨rfl, HBC.out⟩
  · obtain ⟨hB2, rfl⟩ := newPostB_bad hp hne
    have hmk := rmake_anyB apex hapz l HSZ.out _ HF.out w2 (HRV.out.below (HB1.out.trans (hB2.mono hs1)))
    have hs2 : w1.heap.size ≤ w2.heap.size := hB2.size
    have hown2 := ownsRow_below HOWN1.out hB2
    clear hp
    have HB2 := Lib.hid hB2; have HMK := Lib.hid hmk; have HNE := Lib.hid hne; have HOWN2 := Lib.hid hown2
    clear hB2 hmk hne hown2
    go_wp2_with fail
    refine HMK.out.mono ?_
    rintro e w3 ⟨hB3, hm⟩
    rw [HNE.out] at hm
    obtain rfl := hm
    have hs3 : w2.heap.size ≤ w3.heap.size := hB3.size
    have hB13 : Below w.heap.size w w3 := HB1.out.trans ((HB2.out.mono hs1).trans (hB3.mono (by omega)))
    have hown3 := ownsRow_below HOWN2.out hB3
    have hwh := whole_any w.heap.size gt ct l (by omega) _ w3 hown3 hct (HRV.out.below hB13)
    have qk : (k0 == k0) = true := by rw [beq_iff_eq]
    have qc : (c0 == c0) = true := by rw [beq_iff_eq]
    have HB3 := Lib.hid hB3; have HB13 := Lib.hid hB13; have HWH := Lib.hid hwh
    clear hB3 hB13 hwh
    clear hown3
    go_wp2_with fail
    refine (HWH.out).mono ?_
    rintro e w4 ⟨rfl, hB4⟩
    have HB4 := Lib.hid (HB13.out.trans (hB4.mono HB13.out.size))
    clear hB4
    go_wp2_with fail
    go_ret
    exact ⟨rfl, HB4.out⟩
end Go.Proofs.YtpjoaghnciomeaaGreat

/-
  gazetteerlaw3.ZoneSets, walked.
-/
import Derived.Test.YtpjoaghnciomeaaGreatFinds
import Derived.Test.YtpjoaghnciomeaaGreatRzN
namespace Go.Proofs.YtpjoaghnciomeaaGreat
open Go.RowKit Go.Shelf Go.WideMaps Go.Proofs.YtpjoaghnciomeaaGreat.nm Go.Proofs.YtpjoaghnciomeaaGreat.od

/-- A row of texts of its own, whatever is in it. -/
def WritS (w : World) (base : Nat) (v : Value) (n : Nat) : Prop := ∃ xs, w.ownsRow base 9 1 v n xs
theorem WritS.set {w : World} {base g n cap : Nat} (h : WritS w base (.slice (some ⟨g, 0, none⟩) n cap) n) (j : Nat) (u : Value) : WritS (w.setCell ⟨g, j, none⟩ u) base (.slice (some ⟨g, 0, none⟩) n cap) n ∧ w.grownBy (w.setCell ⟨g, j, none⟩ u) (some g) := by
  obtain ⟨xs, hx⟩ := h
  obtain ⟨h1, h2⟩ := hx.stored j u
  exact ⟨⟨_, h1⟩, h2⟩
theorem WritS.cell {w : World} {base g n cap : Nat} (h : WritS w base (.slice (some ⟨g, 0, none⟩) n cap) n) {j : Nat} (hj : j < n) : ∃ u, w.cell? ⟨g, j, none⟩ = some u ∧ w.frozen? ⟨g, j, none⟩ = false := by
  obtain ⟨xs, hx⟩ := h
  have h1 := hx.cellAt j (by omega)
  rw [List.getElem?_eq_getElem (by rw [hx.1]; omega)] at h1
  exact ⟨_, h1, hx.frozenAt j⟩
theorem bel_markS {w w' : World} {base n : Nat} {v : Value} (hw : WritS w base v n) (hb : base ≤ w.heap.size) (hg : w.grownBy w' v.ownBlock) : Below base w w' := by
  obtain ⟨xs, hx⟩ := hw
  exact (Below.refl base w).grown hg hb (fun j hj => (hx.lt j hj).1)

theorem texts_same (x : List ByteArray) (hx : x.length ≤ 1000000000000) (v u : Value) (w : World) (hv : StrsR w v x) (hu : StrsR w u x) :
    Calls Tryz.prog 22 #[v, u] w fun e w' => e = .returned (.bool true) ∧ Below w.heap.size w w' := by
  have h := texts_any x x hx v u w hv hu
  rw [decide_eq_true rfl] at h
  exact h


set_option maxRecDepth 100000 in
set_option maxHeartbeats 8000000 in
theorem sets_any (apex : ByteArray) (hapz : apex.size ≤ 1099511627776) (l : List Rec) (hok : ∀ r ∈ l, (Lit.int .i64 r.typ).wf = true) (_hl : l.length ≤ 1048576) (hsz : ∀ r ∈ l, r.owner.size ≤ 1099511627776) (a : Option Addr) (cap : Nat) (hf : SliceForm (.slice a l.length cap))
    (qs : List Qn) (hqn : qs.length ≤ 1000000000000) (hqb : ∀ q ∈ qs, (Lit.int .i64 q.typ).wf = true ∧ q.name.size ≤ 1099511627776) (qa : Option Addr) (qcap : Nat) (w : World) (hrv : RecsAt w (.slice a l.length cap) l) (hqv : QnsAt w (.slice qa qs.length qcap) qs) :
    Calls Tryz.prog 4 #[.string apex, .slice a l.length cap, .slice qa qs.length qcap] w fun e w' => e = .returned (.bool true) ∧ Below w.heap.size w w' := by
  have hqok := fun q hq => (hqb q hq).1
  have hqsz := fun q hq => (hqb q hq).2
  have hnew := new_any apex l hok _ hf w hrv
  have hmake := fun W (hB : Below w.heap.size w W) => rmake_any apex hapz l hsz _ hf W (hrv.below hB)
  clear hqb
  have HNEW := Lib.hid hnew; have HMAKE := Lib.hid hmake; have HQV := Lib.hid hqv; have HQOK := Lib.hid hqok; have HQSZ := Lib.hid hqsz; have HOK := Lib.hid hok; have HSZ := Lib.hid hsz; have HRV := Lib.hid hrv
  clear hnew hmake hqv hqok hqsz hok hsz hrv
  go_enter Tryz.func4, Tryz.ntmps4
  go_wp2_with fail
  refine HNEW.out.mono ?_
  intro e w1 hp
  rcases hne : zn.newE apex l with _ | ⟨k0, c0⟩
  · obtain ⟨hB1, z, L, _, hs, rfl, hzf⟩ := newPost_zone hp hne
    have hva0 := zn.valid_of hne
    have hva : zn.Valid apex L := zn.valid_of (zn.newE_of hs.1.symm hne)
    have hHM := HMAKE.out w1 hB1
    have HB1 := Lib.hid hB1; have HZ1 := Lib.hid hzf; have HVA := Lib.hid hva; have HVA0 := Lib.hid hva0; have HS := Lib.hid hs; have HM := Lib.hid hHM; have HNE := Lib.hid hne
    have hs1 := hB1.size
    clear hp hB1 hzf hva hva0 hs hHM hne
    go_wp2_with fail
    refine HM.out.mono ?_
    rintro e w2 ⟨hB2, hm⟩
    rw [HNE.out] at hm
    obtain ⟨y, L', hs', rfl, hy⟩ := hm
    obtain rfl : L' = L := hs'.eq HS.out HVA0.out.named (zn.uniq_of (zn.distinct_of (zn.rules_twice HVA0.out.rules)))
    have HB2 := Lib.hid (HB1.out.trans (hB2.mono hs1)); have HZ2 := Lib.hid (HZ1.out.kept hB2); have HY2 := Lib.hid hy
    have hs2 := HB2.out.size
    have hLz := HVA.out.small
    have htop : w1.heap.size ≤ w2.heap.size := hB2.size
    clear hB2 hs' hy
    go_wp2_with fail
    refine (names_any w1.heap.size z apex L' hLz HVA.out.named w2 HZ2.out.v).mono ?_
    rintro e w3 ⟨N, hN, v3, rfl, hB3, hown3⟩
    have hNl := names_len hLz HVA.out hN
    have hs3 : w2.heap.size ≤ w3.heap.size := hB3.size
    obtain ⟨a3, c3, rfl, hc3⟩ := ownsRow_len hown3
    have HN := Lib.hid hN; have HB3 := Lib.hid hB3; have HOWN3 := Lib.hid hown3
    clear hN hB3 hown3
    go_wp2_with fail
    refine (rnames_any y apex L' HVA.out w3 (HY2.out.below HB3.out)).mono ?_
    rintro e w4 ⟨D, hD, v4, rfl, hB4, hown4⟩
    obtain rfl : D = N := hD.eq HVA.out HN.out
    have hown34 := ownsRow_below HOWN3.out hB4
    have HT4 := Lib.hid (texts_same D (by omega) _ v4 w4 (owns_strsR hown34) (owns_strsR hown4))
    have HB4 := Lib.hid (HB3.out.trans (hB4.mono hs3)); have HOWN34 := Lib.hid hown34
    obtain ⟨a4, c4, rfl, _⟩ := ownsRow_len hown4
    clear hB4 hown4 hown34 hD
    go_wp2_with fail
    refine (HT4.out).mono ?_
    rintro e w5 ⟨rfl, hB5⟩
    have hs4 := HB4.out.size
    have HB5 := Lib.hid (HB4.out.trans (hB5.mono hs4))
    have hw5 : WritS w5 w2.heap.size (.slice a3 D.length c3) D.length := ⟨_, ownsRow_below HOWN34.out hB5⟩
    have hs5 := HB5.out.size
    have HW5 := Lib.hid hw5
    clear hB5 hw5 HT4
    go_wp2_with fail
    go_loopw [53, 14] (fun kv _ wr => ∃ k : Nat, k ≤ D.length ∧ kv = .int .i64 (k : Int) ∧ WritS wr w2.heap.size (.slice a3 D.length c3) D.length ∧ Below w2.heap.size w2 wr) (fun kv _ _ => D.length - (intOf kv).toNat)
    case atStart => exact ⟨0, Nat.zero_le _, rfl, HW5.out, HB5.out⟩
    case round =>
      obtain ⟨k, hk, rfl, hwr, hB⟩ := hrel
      have hsr := hB.size
      by_cases hlt : k < D.length
      · obtain ⟨g3, c3', hv, _, _⟩ := hwr.choose_spec.form (by omega)
        simp only [Value.slice.injEq, true_and] at hv
        obtain ⟨rfl, rfl⟩ := hv
        obtain ⟨u0, c0, f0⟩ := hwr.cell hlt
        obtain ⟨h5, h6⟩ := hwr.set k (.string ⟨#[109, 97, 114, 107]⟩)
        have h7 : Below w2.heap.size w2 (wr.setCell ⟨g3, k, none⟩ (.string ⟨#[109, 97, 114, 107]⟩)) := hB.trans (bel_markS hwr hsr h6)
        have hki : (k : Int) < (D.length : Int) := by omega
        have HWR := Lib.hid hwr; have HB := Lib.hid hB; have H5 := Lib.hid h5; have H7 := Lib.hid h7
        clear hwr hB h5 h7
        clear h6
        go_wp2_with fail
        go_roundw
        case rel => exact ⟨k + 1, by omega, by go_num, H5.out, H7.out⟩
        case measure => simp [intOf]; omega
      · obtain rfl : k = D.length := by omega
        have HB6 := Lib.hid hB
        clear hwr hB
        go_wp2_with fail
        obtain ⟨w6, hw6⟩ : ∃ W : World, W = wr := ⟨_, rfl⟩
        subst hw6
        go_loopw [62, 16, 17] (fun kv _ _ wr => ∃ k : Nat, k ≤ qs.length ∧ kv = .int .i64 (k : Int) ∧ Below w2.heap.size w2 wr) (fun kv _ _ _ => qs.length - (intOf kv).toNat)
        case atStart => exact ⟨0, Nat.zero_le _, rfl, HB6.out⟩
        case round =>
          obtain ⟨k, hk, rfl, hB⟩ := hrel
          have hsr := hB.size
          have HB := Lib.hid hB
          clear hB
          by_cases hlt : k < qs.length
          · obtain ⟨a', cap', hv, hcapq, hr⟩ := HQV.out.below (HB2.out.trans (HB.out.mono hs2))
            simp only [Value.slice.injEq, true_and] at hv
            obtain ⟨rfl, rfl⟩ := hv
            obtain ⟨qb, qoff, rfl, hqb, c0, c1, c2⟩ := hr k hlt
            obtain ⟨wq, hwq⟩ : ∃ W, W = wr.alloc (.cells (qnC qs[k]).toArray 44) := ⟨_, rfl⟩
            obtain ⟨hBq, hzq, hqx⟩ := qn_new wr wq qs[k] hwq
            have hkq : (k : Int) < (qs.length : Int) := by omega
            have tw := HQOK.out _ (List.getElem_mem hlt)
            have ns := HQSZ.out _ (List.getElem_mem hlt)
            obtain ⟨x0, x1, x2⟩ := id hqx
            have HBQ := Lib.hid (HB.out.trans (hBq.mono hsr))
            have ltq : wr.heap.size < wq.heap.size := by omega
            have hsq := HBQ.out.size
            obtain ⟨R, hR⟩ : ∃ R, R = zn.rowsS L' (foldS qs[k].name, qs[k].typ) := ⟨_, rfl⟩
            have hRl : R.length ≤ 2000 := by rw [hR]; exact Nat.le_trans (rowsS_len _ _) hLz
            have hsa : ∀ X : World, Below wq.heap.size wq X → Calls Tryz.prog 24 #[.pointer (some ⟨z, 0, none⟩), .string qs[k].name, .int .i64 qs[k].typ] X fun e w' => NewRecs R X e w' := fun X hX => by
              rw [hR]
              exact set_any w1.heap.size z apex L' hLz qs[k].name qs[k].typ tw X (HZ2.out.kept (HBQ.out.trans (hX.mono hsq))).v
            have hsb : ∀ X : World, Below wq.heap.size wq X → Calls Tryz.prog 25 #[.pointer (some ⟨y, 0, none⟩), .string qs[k].name, .int .i64 qs[k].typ] X fun e w' => NewRecs R X e w' := fun X hX => by
              rw [hR]
              exact rset_any y apex L' hLz HVA.out.named qs[k].name ns qs[k].typ X (HY2.out.below (HBQ.out.trans (hX.mono hsq)))
            have hsm : ∀ (X : World) (u v : Value), RecsAt X u R → RecsAt X v R → Calls Tryz.prog 17 #[u, v] X fun e w' => e = .returned (.bool true) ∧ Below X.heap.size X w' := fun X u v hu hv => by
              have := same_any R R (by omega) u v X hu hv
              rw [decide_eq_true rfl] at this
              exact this
            have HWQ := Lib.hid hwq; have HQX := Lib.hid hqx; have HR := Lib.hid hr; have TW := Lib.hid tw; have HSA := Lib.hid hsa; have HSB := Lib.hid hsb; have HSM := Lib.hid hsm; have HR := Lib.hid hR
            clear hwq hqx hr tw hsa hsb hsm hR
            clear hBq
            go_wp2_with fail
            rw [← HWQ.out]
            refine (HSA.out wq (Below.refl _ _)).mono ?_
            rintro e w7 ⟨v7, rfl, hB7, hown7⟩
            obtain ⟨a7, c7, rfl, _⟩ := ownsRow_len hown7
            have hq7 := HQX.out.keep (hB7.block _ ltq)
            have hs7 : wq.heap.size ≤ w7.heap.size := hB7.size
            clear x0 x1 x2 c0 c1 c2
            obtain ⟨y0, y1, y2⟩ := id hq7
            have HB7 := Lib.hid hB7; have HOWN7 := Lib.hid hown7; have HQ7 := Lib.hid hq7
            clear hB7 hown7 hq7
            go_wp2_with fail
            refine (HSB.out w7 HB7.out).mono ?_
            rintro e w8 ⟨v8, rfl, hB8, hown8⟩
            have hown78 := ownsRow_below HOWN7.out hB8
            have HT8 := Lib.hid (HSM.out w8 _ v8 (owns_recs hown78) (owns_recs hown8))
            have HB8 := Lib.hid (HB7.out.trans (hB8.mono hs7)); have HOWN78 := Lib.hid hown78
            have hs8 := HB8.out.size
            obtain ⟨a8, c8, rfl, _⟩ := ownsRow_len hown8
            clear hB8 hown8 hown78 y0 y1 y2
            go_wp2_with fail
            refine (HT8.out).mono ?_
            rintro e w9 ⟨rfl, hB9⟩
            have hw9 : Writ w9 wq.heap.size (.slice a7 R.length c7) R.length := ⟨_, ownsRow_below HOWN78.out hB9⟩
            have HB9 := Lib.hid (HB8.out.trans (hB9.mono hs8))
            have hs9 := HB9.out.size
            clear hB9 HT8
            have HW9 := Lib.hid hw9
            clear hw9
            go_wp2_with fail
            refine (mark_any wq.heap.size _ R.length (by omega) w9 HW9.out).mono ?_
            rintro e w10 ⟨rfl, hg10⟩
            have hB10 : Below wq.heap.size w9 w10 := bel_mark HW9.out hs9 hg10
            have hB10' : Below wq.heap.size wq w10 := HB9.out.trans hB10
            have hs10 := hB10'.size
            have hall : ∀ X : World, Below w10.heap.size w10 X → Below w10.heap.size w10 X ∧ X.cell? ⟨wr.heap.size, 0, none⟩ = some (.string qs[k].name) ∧ X.cell? ⟨wr.heap.size, 1, none⟩ = some (.int .i64 qs[k].typ) := fun X hX => by
              obtain ⟨y0, y1, _⟩ := HQX.out.keep ((hB10'.trans (hX.mono hs10)).block _ ltq)
              exact ⟨hX, y0, y1⟩
            have HSA_ := HSA; have HSB_ := HSB
            clear HSA HSB
            have HSA := Lib.hid (fun (X : World) (hX : Below w10.heap.size w10 X) => HSA_.out X (hB10'.trans (hX.mono hs10)))
            have HSB := Lib.hid (fun (X : World) (hX : Below w10.heap.size w10 X) => HSB_.out X (hB10'.trans (hX.mono hs10)))
            have HB10 := Lib.hid hB10'
            clear HSA_ HSB_ hB10' hB10 hg10
            have HALL := Lib.hid hall
            clear hall
            go_upto_region 22 with fail
            go_cut [96] (fun s wx => s = .bool false ∧ Below w10.heap.size w10 wx)
            case first =>
              go_region_held3 (fun X => Below w10.heap.size w10 X ∧ X.cell? ⟨wr.heap.size, 0, none⟩ = some (.string qs[k].name) ∧ X.cell? ⟨wr.heap.size, 1, none⟩ = some (.int .i64 qs[k].typ))
                (first | assumption | exact HALL.out _ (Below.refl _ _).drew | (go_split_ands; exact HALL.out _ (by assumption)))
                (first
                  | (go_at_call 24; (with_reducible refine (HSA.out _ (by go_split_ands; assumption)).mono ?_); rintro e wA ⟨vA, rfl, hbA, hoA⟩; go_split_ands; have hbA2 := Below.trans (B := w10.heap.size) (a := w10) (by assumption) (hbA.mono (Below.size (by assumption))))
                  | (go_at_call 25; (with_reducible refine (HSB.out _ (by go_split_ands; assumption)).mono ?_); rintro e wB ⟨vB, rfl, hbB, hoB⟩; go_split_ands; have hbB2 := Below.trans (B := w10.heap.size) (a := w10) (by assumption) (hbB.mono (Below.size (by assumption))))
                  | (go_at_call 17; (first | (with_reducible refine (HSM.out _ _ _ ((owns_recs hoA).below hbB) (owns_recs hoB)).mono ?_) | (with_reducible refine (HSM.out _ _ _ (owns_recs hoA) ((owns_recs hoB).below hbA)).mono ?_)); rintro e wC ⟨rfl, hbC⟩; have hbC2 := Below.trans (B := w10.heap.size) (a := w10) (by first | exact hbB2 | exact hbA2) (hbC.mono (Below.size (by first | exact hbB2 | exact hbA2)))))
              all_goals (go_wp2_with fail; go_meet; exact ⟨rfl, hbC2⟩)
            case rest =>
            obtain ⟨rfl, hBc⟩ := hcut
            have HBC := Lib.hid ((HBQ.out.trans (HB10.out.mono hsq)).trans (hBc.mono (Nat.le_trans hsq hs10)))
            clear hBc
            go_wp2_with fail
            go_roundw
            case rel => exact ⟨k + 1, by omega, by go_num, HBC.out⟩
            case measure => simp [intOf]; omega
          · obtain rfl : k = qs.length := by omega
            go_wp2_with fail
            refine (names_any w1.heap.size z apex L' hLz HVA.out.named wr (HZ2.out.kept HB.out).v).mono ?_
            rintro e w7 ⟨N, hN, v7, rfl, hB7, hown7⟩
            obtain rfl : N = D := hN.eq HVA.out HN.out
            have hs7 : wr.heap.size ≤ w7.heap.size := hB7.size
            obtain ⟨a7, c7, rfl, _⟩ := ownsRow_len hown7
            have HB7 := Lib.hid (HB.out.trans (hB7.mono hsr)); have HOWN7 := Lib.hid hown7
            clear hB7 hown7 hN
            go_wp2_with fail
            refine (rnames_any y apex L' HVA.out w7 (HY2.out.below HB7.out)).mono ?_
            rintro e w8 ⟨D, hD, v8, rfl, hB8, hown8⟩
            obtain rfl : D = N := hD.eq HVA.out HN.out
            have hown78 := ownsRow_below HOWN7.out hB8
            have HT8 := Lib.hid (texts_same D (by omega) _ v8 w8 (owns_strsR hown78) (owns_strsR hown8))
            have HB8 := Lib.hid (HB7.out.trans (hB8.mono HB7.out.size))
            obtain ⟨a8, c8, rfl, _⟩ := ownsRow_len hown8
            clear hB8 hown8 hown78 hD
            go_wp2_with fail
            refine (HT8.out).mono ?_
            rintro e w9 ⟨rfl, hB9⟩
            have HB9 := Lib.hid (HB2.out.trans ((HB8.out.trans (hB9.mono HB8.out.size)).mono hs2))
            clear hB9 HT8
            go_wp2_with fail
            go_ret
            exact ⟨rfl, HB9.out⟩
  · obtain ⟨hB1, rfl⟩ := newPost_bad hp hne
    have hHM := HMAKE.out w1 hB1
    have HB1 := Lib.hid hB1; have HM := Lib.hid hHM; have HNE := Lib.hid hne
    clear hp hB1 hHM hne
    go_wp2_with fail
    refine HM.out.mono ?_
    rintro e w2 ⟨hB2, hm⟩
    rw [HNE.out] at hm
    obtain rfl := hm
    have HB2 := Lib.hid (HB1.out.trans (hB2.mono HB1.out.size))
    clear hB2
    go_wp2_with fail
    go_ret
    exact ⟨rfl, HB2.out⟩
end Go.Proofs.YtpjoaghnciomeaaGreat

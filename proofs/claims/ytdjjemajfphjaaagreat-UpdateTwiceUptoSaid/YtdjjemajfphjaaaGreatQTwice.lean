import Derived.Test.YtdjjemajfphjaaaGreatQUpdL
import Derived.Test.YtdjjemajfphjaaaGreatQTwcP
import Derived.Test.YtdjjemajfphjaaaGreatQStepN
namespace Go.Proofs.YtdjjemajfphjaaaGreat
open Go.RowKit Go.Shelf Go.WideMaps Go.Proofs.YtdjjemajfphjaaaGreat.nm Go.Proofs.YtdjjemajfphjaaaGreat.od
namespace up
def addB (x : Rec) : Bool := decide (x.cls = 1) && decide (x.typ ≠ 5) && decide (x.typ ≠ 6)
theorem add_next {c : List Rec} {k : Nat} (hk : k < c.length) : (c.take (k + 1)).filter addB = if addB c[k] = true then (c.take k).filter addB ++ [c[k]] else (c.take k).filter addB := by
  rw [List.take_succ_eq_append_getElem hk, List.filter_append]
  split
  · rename_i h
    rw [List.filter_cons_of_pos h, List.filter_nil]
  · rename_i h
    rw [List.filter_cons_of_neg h, List.filter_nil, List.append_nil]
theorem chk_zero {apex : ByteArray} {L : List Rec} {h : Hd} {qs : List Qn} {an au ad : List Rec} (h0 : checkI apex L h qs an au ad = 0) : wi.msgB h qs an au ad = true := by
  cases hh : headB h qs an au ad
  · rw [chk_a hh] at h0; cases h0
  · exact (head_parts hh).2.1
theorem chk_same (apex : ByteArray) (L L' : List Rec) (h : Hd) (qs : List Qn) (au ad : List Rec) : checkI apex L h qs [] au ad = checkI apex L' h qs [] au ad := by
  have e : ∀ L, condsI apex L [] = 0 := fun _ => rfl
  unfold checkI
  rw [e L, e L']
end up
theorem nil_recs (w : World) : RecsAt w (.slice none 0 0) [] := ⟨none, 0, rfl, Nat.le_refl _, fun _ hk => absurd hk (Nat.not_lt_zero _)⟩
theorem same_selfU (x : List Rec) (hx : x.length ≤ 1000000000000) (v u : Value) (w : World) (hv : RecsAt w v x) (hu : RecsAt w u x) :
    Calls Tryz.prog 14 #[v, u] w fun e w' => e = .returned (.bool true) ∧ Below w.heap.size w w' := by
  have h := same_any x x hx v u w hv hu
  rw [decide_eq_true rfl] at h
  exact h
set_option maxRecDepth 100000 in
set_option maxHeartbeats 16000000 in
theorem twice_any (top : ByteArray) (_htop : top.size ≤ 1099511627776) (l : List Rec) (hok : ∀ r ∈ l, (Lit.int .i64 r.typ).wf = true) (v : Value) (hf : SliceForm v) (c : List Rec) (hc : c.length ≤ 1048576) (_hok2 : ∀ r ∈ c, (Lit.int .i64 r.typ).wf = true) (u : Value) (w : World) (hrv : RecsAt w v l) (hru : RecsAt w u c) :
    Calls Tryz.prog 5 #[.string top, v, u] w fun e w' => e = .returned (.bool true) ∧ Below w.heap.size w w' := by
  obtain ⟨i0_r, hi_r, hz_r, hz1_r, hz2_r⟩ := info_parts info_rec
  have HI_r := Lib.hid hi_r; have HZ_r := Lib.hid hz_r; have HZ1_r := Lib.hid hz1_r; have HZ2_r := Lib.hid hz2_r
  clear hi_r hz_r hz1_r hz2_r
  have HN := Lib.hid (new_ans top l hok v hf w hrv)
  have HU := Lib.hid hru
  obtain ⟨ua, uc, rfl, -⟩ := id hru
  clear hrv hru hok
  go_enter Tryz.func5, Tryz.ntmps5
  go_wp2_with fail
  refine HN.out.mono ?_
  rintro e w1 ⟨p, k0, c0, rfl, ⟨hne, rfl, rfl, tz, z, L, hs, rfl, hzf⟩ | ⟨hne, hc0, rfl⟩, hB1⟩
  · have hva0 := zn.valid_of hne
    have hva : zn.Valid top L := zn.valid_of (zn.newE_of hs.1.symm hne)
    have HB1 := Lib.hid hB1; have HZ1 := Lib.hid hzf; have HVA := Lib.hid hva
    clear hne hs hzf hva0 hva hB1
    go_wp2_with fail
    refine (alive_any w1).mono ?_
    rintro e w2 ⟨rfl, hB2⟩
    have HB2 := Lib.hid (HB1.out.trans (hB2.mono HB1.out.size)); have HZ2 := Lib.hid (HZ1.out.kept hB2)
    clear hB2
    go_wp2_with fail
    go_loopw [39, 10] (fun kv av wr => ∃ k : Nat, k ≤ c.length ∧ kv = .int .i64 (k : Int) ∧ wr.ownsRow w2.heap.size 51 5 av ((c.take k).filter up.addB).length (recsC ((c.take k).filter up.addB)) ∧ Below w2.heap.size w2 wr) (fun kv _ _ => c.length - (intOf kv).toNat)
    case atStart => exact ⟨0, Nat.zero_le _, rfl, World.ownsRow_nil _ _ _ _, Below.refl _ _⟩
    case round =>
      obtain ⟨k, hk, rfl, hown, hB⟩ := hrel
      obtain ⟨wr3, hw3⟩ : ∃ X : World, X = wr := ⟨_, rfl⟩
      subst hw3
      have hsr := hB.size
      obtain ⟨va, vc, rfl, _⟩ := ownsRow_len hown
      by_cases hlt : k < c.length
      · obtain ⟨bb, off, rfl⟩ := recs_base HU.out (Nat.lt_of_le_of_lt (Nat.zero_le _) hlt)
        obtain ⟨c0, c1, c2, c3, c4⟩ := recs_get (HU.out.below (HB2.out.trans (hB.mono HB2.out.size))) hlt
        have hki : (k : Int) < (c.length : Int) := by omega
        obtain ⟨x, hx⟩ : ∃ x, x = c[k] := ⟨_, rfl⟩
        rw [← hx] at c0 c1 c2 c3 c4
        obtain ⟨M, hM⟩ : ∃ M, M = (c.take k).filter up.addB := ⟨_, rfl⟩
        have hnx := up.add_next hlt
        have hml : M.length ≤ c.length := by rw [hM]; exact Nat.le_trans (List.length_filter_le _ _) (by rw [List.length_take]; omega)
        rw [← hM] at hown hnx ⊢
        rw [← hx] at hnx
        obtain ⟨wa, hwa⟩ : ∃ W, W = wr3.alloc (.cells (recC x).toArray 51) := ⟨_, rfl⟩
        obtain ⟨hBa, hsa, hxa⟩ := rec_new wr3 wa x hwa
        have HROW := Lib.hid (ownsRow_below hown hBa)
        have HBa := Lib.hid (hB.trans (hBa.mono hsr))
        have hsb := HBa.out.size
        obtain ⟨x0, x1, x2, x3, x4⟩ := id hxa
        clear hBa hsa hxa
        have HOWN := Lib.hid hown; have HB := Lib.hid hB; have HX := Lib.hid hx; have HM := Lib.hid hM; have HWA := Lib.hid hwa
        clear hown hB hx hM hwa
        go_upto_region 10 with fail
        rw [← HWA.out]
        clear c0 c1 c2 c3 c4
        by_cases k1 : x.cls = 1
        · have d1 : (x.cls == 1) = true := by rw [beq_iff_eq]; exact k1
          by_cases k5 : x.typ = 5
          · have d5 : (x.typ != 5) = false := by rw [bne_eq_false_iff_eq]; exact k5
            have ha : up.addB x = false := by unfold up.addB; simp [k5]
            clear k1 k5
            have hnx2 : (c.take (k + 1)).filter up.addB = M := by rw [hnx, if_neg (by rw [ha]; simp)]
            have HNX := Lib.hid hnx; have HNX2 := Lib.hid hnx2
            clear hnx hnx2
            go_wp2_with fail
            go_roundw
            case rel => exact ⟨k + 1, by omega, by go_num, by rw [HNX2.out]; exact HROW.out, HBa.out⟩
            case measure => simp [intOf]; omega
          · have d5 : (x.typ != 5) = true := by rw [bne_iff_ne]; exact k5
            by_cases k6 : x.typ = 6
            · have d6 : (x.typ != 6) = false := by rw [bne_eq_false_iff_eq]; exact k6
              have ha : up.addB x = false := by unfold up.addB; simp [k6]
              clear k1 k5 k6
              have hnx2 : (c.take (k + 1)).filter up.addB = M := by rw [hnx, if_neg (by rw [ha]; simp)]
              have HNX := Lib.hid hnx; have HNX2 := Lib.hid hnx2
              clear hnx hnx2
              go_wp2_with fail
              go_roundw
              case rel => exact ⟨k + 1, by omega, by go_num, by rw [HNX2.out]; exact HROW.out, HBa.out⟩
              case measure => simp [intOf]; omega
            · have d6 : (x.typ != 6) = true := by rw [bne_iff_ne]; exact k6
              have hnx2 : (c.take (k + 1)).filter up.addB = M ++ [x] := by rw [hnx, if_pos (by unfold up.addB; simp [k1, k5, k6])]
              have HNX := Lib.hid hnx; have HNX2 := Lib.hid hnx2
              clear hnx hnx2
              clear k1 k5 k6
              go_upto_region 11 with fail
              clear d1 d5 d6
              have HB_a := Lib.hid (HBa.out.alloc HBa.out.size (.cells (recC x).toArray 51))
              have HO_a := Lib.hid (ownsRow_keepOne HROW.out fun b hb => Below.heap_alloc wa (.cells (recC x).toArray 51) b (HROW.out.lt b hb).2)
              have P1_a := Lib.hid (show M.length + 1 ≤ maxLen from by unfold maxLen; omega)
              have P2_a := Lib.hid (show (M.length + 1) * 56 ≤ 140737488355328 from by omega)
              have P3_a := Lib.hid (show w2.heap.size ≤ (wa.alloc (.cells (recC x).toArray 51)).heap.size from by have := HBa.out.size; simp; omega)
              have HNEWS_ := Lib.hid (news_at wa (recC x) 51)
              go_wp2_with (at_builtin; refine wpList_append_new _ rfl _ _ 22 rfl w2.heap.size 51 i0_r (.agg #[.string ⟨#[]⟩, .int .i64 0, .int .i64 0, .int .i64 0, .string ⟨#[]⟩]) 5 56 Tryz.underlying22 HI_r.out HZ_r.out HZ1_r.out HZ2_r.out rfl (by decide) _ _ _ rfl HO_a.out ⟨wa.heap.size, 0, none⟩ 1 1 (recC x) rfl rfl HNEWS_.out (by simp [Value.oneCell']) P1_a.out P2_a.out P3_a.out ?_)
              intro v' w10 hown10 hg10 hnn10
              have HB10 := Lib.hid (HB_a.out.grown hg10 P3_a.out (fun j hj => (HO_a.out.lt j hj).1))
              have HOWN10 := Lib.hid hown10; have HG10 := Lib.hid hg10; have HNN10 := Lib.hid hnn10
              clear hown10 hg10 hnn10 HB_a HO_a P1_a P2_a P3_a HNEWS_
              clear x0 x1 x2 x3 x4
              go_wp2_with fail
              go_roundw
              case rel => exact ⟨k + 1, by omega, by go_num, by rw [HNX2.out, List.length_append, recsC_app]; simpa [recsC] using HOWN10.out, HB10.out⟩
              case measure => simp [intOf]; omega
        · have d1 : (x.cls == 1) = false := by rw [beq_eq_false_iff_ne]; exact k1
          have ha : up.addB x = false := by unfold up.addB; simp [k1]
          clear k1
          have hnx2 : (c.take (k + 1)).filter up.addB = M := by rw [hnx, if_neg (by rw [ha]; simp)]
          have HNX := Lib.hid hnx; have HNX2 := Lib.hid hnx2
          clear hnx hnx2
          go_wp2_with fail
          go_roundw
          case rel => exact ⟨k + 1, by omega, by go_num, by rw [HNX2.out]; exact HROW.out, HBa.out⟩
          case measure => simp [intOf]; omega
      · obtain rfl : k = c.length := by omega
        rw [List.take_length] at hown
        obtain ⟨A, hA⟩ : ∃ A, A = c.filter up.addB := ⟨_, rfl⟩
        have hAe : ((c.take c.length).filter up.addB).length = A.length := by rw [hA, List.take_length]
        rw [hAe]
        rw [← hA] at hown
        have HAL := Lib.hid (show A.length ≤ 1048576 by rw [hA]; exact Nat.le_trans (List.length_filter_le _ _) hc)
        have HAP := Lib.hid (show ∀ x ∈ A, x.cls = 1 ∧ x.typ ≠ 5 ∧ x.typ ≠ 6 from fun x hx => by
          rw [hA] at hx
          have h2 := (List.mem_filter.1 hx).2
          unfold up.addB at h2
          simp only [Bool.and_eq_true, decide_eq_true_eq] at h2
          exact ⟨h2.1.1, h2.1.2, h2.2⟩)
        have HB3 := Lib.hid (HB2.out.trans (hB.mono HB2.out.size)); have HZ3 := Lib.hid (HZ2.out.kept hB); have HRA := Lib.hid (owns_recs hown)
        clear hown hB hsr hlt hA hAe
        go_wp2_with fail
        refine (records_any tz z top L HVA.out.small wr3 HZ3.out.v).mono ?_
        rintro e w4 ⟨v4, rfl, hB4, hown4⟩
        obtain ⟨a4, c4, rfl, -⟩ := ownsRow_len hown4
        have HB4 := Lib.hid (HB3.out.trans (hB4.mono HB3.out.size)); have HZ4 := Lib.hid (HZ3.out.kept hB4); have HRA4 := Lib.hid (HRA.out.below hB4); have HW4 := Lib.hid (owns_recs hown4)
        clear hB4 hown4
        go_wp2_with fail
        refine (asks_any top none 0 0 va A.length vc w4).mono ?_
        rintro e w5 ⟨g5, rfl, hB5, hq5⟩
        obtain ⟨w6, hw6⟩ : ∃ X, X = w5.alloc (.cells (msgC up.ahd (.slice (some ⟨g5, 0, none⟩) 1 1) (.slice none 0 0) (.slice va A.length vc) (.slice none 0 0)).toArray 25) := ⟨_, rfl⟩
        obtain ⟨hB6, hs6, hm6⟩ := msg_new hw6
        obtain ⟨bm, hbm⟩ : ∃ b, b = w5.heap.size := ⟨_, rfl⟩
        rw [← hbm] at hm6
        have h46 := hB5.trans (hB6.mono hB5.size)
        have HB6 := Lib.hid (HB4.out.trans (h46.mono HB4.out.size)); have HZ6 := Lib.hid (HZ4.out.kept h46); have HRA6 := Lib.hid (HRA4.out.below h46); have HW6 := Lib.hid (HW4.out.below h46); have HQ6 := Lib.hid (hq5.below hB6)
        have HM := Lib.hid hm6; have HWW := Lib.hid hw6; have HBM := Lib.hid hbm
        clear hB5 hq5 hB6 hs6 h46 hm6 hw6 hbm
        go_upto_region 15 with fail
        rw [← HWW.out, ← HBM.out]
        obtain ⟨m0, m1, m2, m3, m4, m5, m6, m7, m8, m9, m10, m11, m12, m13⟩ := HM.out.facts
        have HCH := Lib.hid (show ∀ L', up.checkI top L' up.ahd [⟨top, 6, 1⟩] [] A [] = 0 → ∀ x ∈ A, up.Plain x from fun L' h0 x hx => ⟨(HAP.out x hx).1, (HAP.out x hx).2.1, (HAP.out x hx).2.2, (up.msg_names (up.chk_zero h0)).2 x hx⟩)
        have HAPP := Lib.hid (show ∀ (tz z : Nat) (L : List Rec) (X : World), zn.Valid top L → ZoneF X tz z top L → Below w6.heap.size w6 X → Calls Tryz.prog 12 #[.pointer (some ⟨z, 0, none⟩), msgV up.ahd (.slice (some ⟨g5, 0, none⟩) 1 1) (.slice none 0 0) (.slice va A.length vc) (.slice none 0 0)] X fun e w' => ApplyPost top L up.ahd [⟨top, 6, 1⟩] [] A [] X e w' from fun tz z L X hv hz hX =>
          uapply_any tz z top L hv up.ahd [⟨top, 6, 1⟩] [] A [] (by simp) (by simp) (by have := HAL.out; omega) (by simp) (fun h0 x hx => by
            obtain ⟨p1, p5, p6, pn⟩ := HCH.out L h0 x hx
            exact chgOk_plain p1 p5 p6 pn) _ _ _ _ X hz (HQ6.out.below hX) (nil_recs X) (HRA6.out.below hX) (nil_recs X))
        go_wp2_with fail
        refine (HAPP.out tz z L w6 HVA.out HZ6.out (Below.refl _ _)).mono ?_
        rintro e w7 ⟨hB7, hp7⟩
        have HX7 := Lib.hid hB7
        have HB7 := Lib.hid (HB6.out.trans (hB7.mono HB6.out.size)); have HZ7 := Lib.hid (HZ6.out.kept hB7); have HW7 := Lib.hid (HW6.out.below hB7)
        clear hB7 m0 m1 m2 m3 m4 m5 m6 m7 m8 m9 m10 m11 m12 m13
        have hLl : L.length ≤ 1000000000000 := by have := HVA.out.small; omega
        rcases hp7 with ⟨hcn, rfl⟩ | ⟨-, -, rfl⟩ | ⟨hc0, hne, ta, za, L1, hs1, rfl, hzf⟩
        · have d8 : (up.checkI top L up.ahd [⟨top, 6, 1⟩] [] A [] != 0) = true := by rw [bne_iff_ne]; exact hcn
          clear hcn
          go_wp2_with fail
          refine (records_any tz z top L HVA.out.small w7 HZ7.out.v).mono ?_
          rintro e w8 ⟨v8, rfl, hB8, hown8⟩
          obtain ⟨a8, c8, rfl, -⟩ := ownsRow_len hown8
          have HT8 := Lib.hid (same_selfU L hLl _ _ w8 (owns_recs hown8) (HW7.out.below hB8))
          have HX78 := Lib.hid hB8
          have HB8 := Lib.hid (HB7.out.trans (hB8.mono HB7.out.size))
          clear hB8 hown8
          go_wp2_with fail
          refine HT8.out.mono ?_
          rintro e w9 ⟨rfl, hB9⟩
          have HB9 := Lib.hid (HB8.out.trans (hB9.mono HB8.out.size))
          have HX79 := Lib.hid (HX78.out.trans (hB9.mono HX78.out.size))
          clear hB9
          go_wp2_with fail
          go_ret
          exact ⟨rfl, HB9.out⟩
        · go_wp2_with fail
          refine (records_any tz z top L HVA.out.small w7 HZ7.out.v).mono ?_
          rintro e w8 ⟨v8, rfl, hB8, hown8⟩
          obtain ⟨a8, c8, rfl, -⟩ := ownsRow_len hown8
          have HT8 := Lib.hid (same_selfU L hLl _ _ w8 (owns_recs hown8) (HW7.out.below hB8))
          have HX78 := Lib.hid hB8
          have HB8 := Lib.hid (HB7.out.trans (hB8.mono HB7.out.size))
          clear hB8 hown8
          go_wp2_with fail
          refine HT8.out.mono ?_
          rintro e w9 ⟨rfl, hB9⟩
          have HB9 := Lib.hid (HB8.out.trans (hB9.mono HB8.out.size))
          have HX79 := Lib.hid (HX78.out.trans (hB9.mono HX78.out.size))
          clear hB9
          go_wp2_with fail
          go_ret
          exact ⟨rfl, HB9.out⟩
        · have HNE := Lib.hid hne; have HC0 := Lib.hid hc0; have HS1 := Lib.hid hs1; have HZA := Lib.hid hzf
          have HV1 := Lib.hid (show zn.Valid top L1 from zn.valid_of (zn.newE_of hs1.1.symm hne))
          clear hne hc0 hs1 hzf
          go_wp2_with fail
          refine (records_any tz z top L HVA.out.small w7 HZ7.out.v).mono ?_
          rintro e w8 ⟨v8, rfl, hB8, hown8⟩
          obtain ⟨a8, c8, rfl, -⟩ := ownsRow_len hown8
          have HT8 := Lib.hid (same_selfU L hLl _ _ w8 (owns_recs hown8) (HW7.out.below hB8))
          have HX78 := Lib.hid hB8
          have HB8 := Lib.hid (HB7.out.trans (hB8.mono HB7.out.size))
          clear hB8 hown8
          go_wp2_with fail
          refine HT8.out.mono ?_
          rintro e w9 ⟨rfl, hB9⟩
          have HB9 := Lib.hid (HB8.out.trans (hB9.mono HB8.out.size))
          have HX79 := Lib.hid (HX78.out.trans (hB9.mono HX78.out.size))
          clear hB9
          have HZA9 := Lib.hid (HZA.out.kept HX79.out)
          obtain ⟨m0, m1, m2, m3, m4, m5, m6, m7, m8, m9, m10, m11, m12, m13⟩ := (HM.out.below (HX7.out.trans (HX79.out.mono HX7.out.size))).facts
          go_wp2_with fail
          refine (HAPP.out ta za L1 w9 HV1.out HZA9.out (HX7.out.trans (HX79.out.mono HX7.out.size))).mono ?_
          rintro e w10 ⟨hB10, hp10⟩
          have HB10 := Lib.hid (HB9.out.trans (hB10.mono HB9.out.size)); have HZA10 := Lib.hid (HZA9.out.kept hB10)
          clear hB10 m0 m1 m2 m3 m4 m5 m6 m7 m8 m9 m10 m11 m12 m13
          have hperm := up.out_again (HCH.out L HC0.out) HS1.out.1
          have hout : up.outL top L1 A = up.changesL top L1 A := up.out_same hperm
          rcases hp10 with ⟨hcn, -⟩ | ⟨-, hne, -⟩ | ⟨-, -, tb, zb, L2, hs2, rfl, hzb⟩
          · exact absurd ((up.chk_same top L1 L _ _ _ _).trans HC0.out) hcn
          · refine absurd ?_ hne
            rw [hout]
            exact zn.newE_of (HS1.out.1.symm.trans hperm.symm) HNE.out
          · have hL2 : L2 = L1 := by
              rw [hout] at hs2
              have hv1 := HV1.out
              refine SortedOf.eq (l := L1) ⟨hs2.1.trans hperm, hs2.2⟩ ⟨List.Perm.refl _, HS1.out.2⟩ hv1.named (zn.uniq_of (zn.distinct_of (zn.rules_twice hv1.rules)))
            subst hL2
            have HZB := Lib.hid hzb
            have hLl2 : L2.length ≤ 1000000000000 := by have := HV1.out.small; omega
            clear hs2 hzb hperm hout
            go_wp2_with fail
            refine (records_any ta za top L2 HV1.out.small w10 HZA10.out.v).mono ?_
            rintro e w11 ⟨v11, rfl, hB11, hown11⟩
            obtain ⟨a11, c11, rfl, -⟩ := ownsRow_len hown11
            have HB11 := Lib.hid (HB10.out.trans (hB11.mono HB10.out.size)); have HZB11 := Lib.hid (HZB.out.kept hB11); have HW11 := Lib.hid (owns_recs hown11)
            clear hB11 hown11
            go_wp2_with fail
            refine (records_any tb zb top L2 HV1.out.small w11 HZB11.out.v).mono ?_
            rintro e w12 ⟨v12, rfl, hB12, hown12⟩
            obtain ⟨a12, c12, rfl, -⟩ := ownsRow_len hown12
            have HB12 := Lib.hid (HB11.out.trans (hB12.mono HB11.out.size)); have HW12 := Lib.hid (HW11.out.below hB12)
            have HT12 := Lib.hid (same_selfU L2 hLl2 _ _ w12 HW12.out (owns_recs hown12))
            clear hB12 hown12
            go_wp2_with fail
            refine HT12.out.mono ?_
            rintro e w13 ⟨rfl, hB13⟩
            have HB13 := Lib.hid (HB12.out.trans (hB13.mono HB12.out.size))
            clear hB13
            go_wp2_with fail
            go_ret
            exact ⟨rfl, HB13.out⟩
  · have d0 : (c0 != 0) = true := by rw [bne_iff_ne]; exact hc0
    have HB1 := Lib.hid hB1
    clear hne hc0 hB1
    go_wp2_with fail
    refine (alive_any w1).mono ?_
    rintro e w2 ⟨rfl, hB2⟩
    have HB2 := Lib.hid (HB1.out.trans (hB2.mono HB1.out.size))
    clear hB2
    go_wp2_with fail
    go_ret
    exact ⟨rfl, HB2.out⟩
end Go.Proofs.YtdjjemajfphjaaaGreat

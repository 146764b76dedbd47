/-
  policy.Rewrites, walked.
-/
import Derived.Test.YtnloommafgnanaaGreatQNapR
import Derived.Test.YtnloommafgnanaaGreatQOrdE
import Derived.Test.YtnloommafgnanaaGreatQOrdC
import Derived.Test.YtnloommafgnanaaGreatQRzE
import Derived.Deep.CutBlock
namespace Go.Proofs.YtnloommafgnanaaGreat
open Go.RowKit Go.Shelf Go.Sort Go.Proofs.YtnloommafgnanaaGreat.nm Go.Proofs.YtnloommafgnanaaGreat.od Go.Proofs.YtnloommafgnanaaGreat.sm

namespace po
inductive RewRes (set : List Rec) (s : ByteArray) : Int → List Rec → Prop
  | bad (h : setB 35 set = false) : RewRes set s 8 []
  | run (h : setB 35 set = true) (T : List (Rec × Nat)) (n : Nat) (hT : StableOf (ordB n1) (set.filter (keepsB s)) T) (hn : IsGrp (T.map (·.1)) n) : RewRes set s 0 ((T.map (·.1)).take n)
end po
/-- The first records of an own row. -/
def CutRow (w : World) (base : Nat) (v : Value) (L : List Rec) : Prop :=
  (v = .slice none 0 0 ∧ L = []) ∨ ∃ g c cap M, v = .slice (some ⟨g, 0, none⟩) L.length c ∧ L.length ≤ c ∧ w.ownsRow base 42 5 (.slice (some ⟨g, 0, none⟩) (L ++ M).length cap) (L ++ M).length (recsC (L ++ M))
theorem CutRow.recs {w : World} {base : Nat} {v : Value} {L : List Rec} (h : CutRow w base v L) : RecsAt w v L := by
  rcases h with ⟨rfl, rfl⟩ | ⟨g, c, cap, M, rfl, hc, ho⟩
  · exact owns_recs (base := 0) (World.ownsRow_nil _ _ _ _)
  · have h1 := recsAt_take (k := L.length) (owns_recs ho) (by rw [List.length_append]; omega)
    rw [List.take_left] at h1
    obtain ⟨a, c2, hv, hc2, hcells⟩ := h1
    simp only [Value.slice.injEq] at hv
    obtain ⟨rfl, -, rfl⟩ := hv
    exact ⟨_, c, rfl, hc, hcells⟩
theorem CutRow.own {w : World} {base : Nat} {v : Value} {L : List Rec} (h : CutRow w base v L) {b : Nat} (hb : v.ownBlock = some b) : base ≤ b ∧ b < w.heap.size := by
  rcases h with ⟨rfl, rfl⟩ | ⟨g, c, cap, M, rfl, hc, ho⟩
  · cases hb
  · obtain rfl : g = b := by simpa [Value.ownBlock] using hb
    exact ⟨(ho.lt g rfl).1, (ho.lt g rfl).2⟩
theorem CutRow.keep {w w' : World} {base : Nat} {v : Value} {L : List Rec} (h : CutRow w base v L) (hk : ∀ b, v.ownBlock = some b → w'.heap[b]? = w.heap[b]?) : CutRow w' base v L := by
  rcases h with h | ⟨g, c, cap, M, rfl, hc, ho⟩
  · exact .inl h
  · exact .inr ⟨g, c, cap, M, rfl, hc, ownsRow_keepOne ho fun b hb => hk b (by simpa [Value.ownBlock] using hb)⟩
set_option maxRecDepth 100000 in
set_option maxHeartbeats 1000000 in
theorem markCut_any (base : Nat) (v : Value) (L : List Rec) (hn : L.length ≤ 1000000000000) (w : World) (hw : CutRow w base v L) :
    Calls Tryz.prog 13 #[v] w fun e w' => e = .returned (.tuple #[]) ∧ w.grownBy w' v.ownBlock := by
  rcases hw with ⟨rfl, rfl⟩ | ⟨g, c, cap, M, rfl, hc, ho⟩
  · exact mark_any base (.slice none 0 0) 0 (by omega) w ⟨[], World.ownsRow_nil _ _ _ _⟩
  · obtain ⟨n, hn2⟩ : ∃ n, n = L.length := ⟨_, rfl⟩
    obtain ⟨m, hm⟩ : ∃ m, m = (L ++ M).length := ⟨_, rfl⟩
    have hnm : n ≤ m := by rw [hn2, hm, List.length_append]; omega
    rw [← hn2] at hn hc ⊢
    rw [← hm] at ho
    have hw : Writ w base (.slice (some ⟨g, 0, none⟩) m cap) m := ⟨_, ho⟩
    have HW := Lib.hid hw
    clear hw
    clear ho hn2 hm
    go_enter Tryz.func13, Tryz.ntmps13
    go_wp2_with fail
    go_loopw [5, 2] (fun kv _ wr => ∃ k : Nat, k ≤ n ∧ kv = .int .i64 (k : Int) ∧ Writ wr base (.slice (some ⟨g, 0, none⟩) m cap) m ∧ w.grownBy wr (some g)) (fun kv _ _ => n - (intOf kv).toNat)
    case atStart => exact ⟨0, Nat.zero_le _, rfl, HW.out, ⟨rfl, rfl, rfl, Nat.le_refl _, fun _ _ _ => rfl⟩⟩
    case round =>
      obtain ⟨k, hk, rfl, hwr, hg⟩ := hrel
      by_cases hlt : k < n
      · obtain ⟨u0, c0, f0⟩ := hwr.cells (j := k * 5) (by omega)
        obtain ⟨u1, c1, f1⟩ := hwr.cells (j := k * 5 + 1) (by omega)
        obtain ⟨u2, c2, f2⟩ := hwr.cells (j := k * 5 + 2) (by omega)
        obtain ⟨u3, c3, f3⟩ := hwr.cells (j := k * 5 + 3) (by omega)
        obtain ⟨u4, c4, f4⟩ := hwr.cells (j := k * 5 + 4) (by omega)
        have h5 := hwr.five (k * 5) (k * 5 + 1) (k * 5 + 2) (k * 5 + 3) (k * 5 + 4) (.string ⟨#[109, 97, 114, 107]⟩) (.int .i64 (-(k : Int) - 1)) (.int .i64 0) (.int .i64 0) (.string ⟨#[]⟩)
        have HWR := Lib.hid hwr; have HG := Lib.hid hg; have H5 := Lib.hid h5
        clear hwr hg h5
        go_wp2_with fail
        go_roundw
        case rel => exact ⟨k + 1, by omega, by go_num, H5.out.1, HG.out.trans H5.out.2⟩
        case measure => simp [intOf]; omega
      · obtain rfl : k = n := by omega
        have HWR := Lib.hid hwr; have HG := Lib.hid hg
        clear hwr hg
        go_wp2_with fail
        go_end0
        exact ⟨rfl, HG.out⟩
theorem stable_mem {cf : Rec → Rec → Int} {l : List Rec} {T : List (Rec × Nat)} (h : StableOf cf l T) : ∀ y ∈ T, y.1 ∈ l := fun ⟨_, _⟩ hy => List.fst_mem_of_mem_zipIdx (h.1.subset hy)
def RewPost (set : List Rec) (s : ByteArray) (w : World) (e : Ending) (w' : World) : Prop :=
  ∃ v c L, e = .returned (.tuple #[v, .int .i64 c]) ∧ Below w.heap.size w w' ∧ po.RewRes set s c L ∧ CutRow w' w.heap.size v L
set_option maxRecDepth 100000 in
set_option maxHeartbeats 8000000 in
theorem prewrites_any (set : List Rec) (hl : set.length * 56 ≤ 1099511627776) (s : ByteArray) (hs : s.size ≤ 140737488355328) (v : Value) (hf : SliceForm v) (w : World) (hv : RecsAt w v set) :
    Calls Tryz.prog 8 #[v, .string s] w fun e w' => RewPost set s w e w' := by
  obtain ⟨wb, hwb⟩ : ∃ W, W = w.alloc (.cells #[.string s] 9) := ⟨_, rfl⟩
  have hBb : Below w.heap.size w wb := by rw [hwb]; exact (Below.refl _ w).alloc (Nat.le_refl _) _
  have hcs : wb.cell? ⟨w.heap.size, 0, none⟩ = some (.string s) := by rw [hwb, heap_cell (heap_new_at rfl)]; rfl
  have hsb : wb.heap.size = w.heap.size + 1 := by rw [hwb, World.size_alloc]
  obtain ⟨bx, hbx⟩ : ∃ bx, bx = w.heap.size := ⟨_, rfl⟩
  rw [← hbx] at hcs
  have hbl : bx < wb.heap.size := by omega
  have HV := Lib.hid (hv.below hBb); have HF := Lib.hid hf
  obtain ⟨a, cap, rfl, -⟩ := id hv
  obtain ⟨sb, hsbe⟩ : ∃ sb, sb = po.setB 35 set := ⟨_, rfl⟩
  have HSB := Lib.hid hsbe
  have HWB := Lib.hid hwb; have HBB := Lib.hid hBb; have HCS := Lib.hid hcs; have HBX := Lib.hid hbx; have HBL := Lib.hid hbl
  clear hwb hBb hcs hbx hbl
  clear hv hf hsb
  go_enter Tryz.func8, Tryz.ntmps8
  go_upto_region 1 with fail
  rw [← HWB.out, ← HBX.out]
  go_wp2_with fail
  refine (isSet_any 35 set (by omega) _ wb HV.out).mono ?_
  rintro e w1 ⟨rfl, hB1⟩
  rw [← hsbe]
  have HB1 := Lib.hid (HBB.out.trans (hB1.mono HBB.out.size))
  have HBX1 := Lib.hid hB1
  clear hB1 hsbe
  cases sb with
  | false =>
    go_wp2_with fail
    go_ret2
    exact ⟨_, _, [], rfl, HB1.out, .bad HSB.out.symm, .inl ⟨rfl, rfl⟩⟩
  | true =>
    obtain ⟨hgood, h0, -⟩ := po.set_all HSB.out.symm
    have hdata : ∀ x ∈ set, dt.chkI 35 x.data = 0 := fun x hx => po.good_data (hgood x hx)
    have HD := Lib.hid hdata
    have HH0 := Lib.hid h0
    clear hgood hdata
    go_wp2_with fail
    refine (cloneRecs_any set (by omega) _ HF.out w1 (HV.out.below HBX1.out)).mono ?_
    rintro e w2 ⟨v2, rfl, hB2, hown2⟩
    obtain ⟨g, cg, rfl, hgl, -⟩ := hown2.form HH0.out
    have hcall : ∀ r, r ∈ set → ∀ X, Below w1.heap.size w1 X → Calls Tryz.prog 30 (#[recV r] ++ #[.pointer (some ⟨bx, 0, none⟩)]) X fun e X' => e = .returned (.bool ((fun x => !po.keepsB s x) r)) ∧ Below X.heap.size X X' := fun r hr X hX => by
      have hb1 : bx < w1.heap.size := Nat.lt_of_lt_of_le HBL.out HBX1.out.size
      exact rewKeep_any s hs r (HD.out r hr) bx X (Nat.lt_of_lt_of_le hb1 hX.size) ((hX.cell (p := ⟨bx, 0, none⟩) hb1).trans ((HBX1.out.cell (p := ⟨bx, 0, none⟩) HBL.out).trans HCS.out))
    have HDEL := Lib.hid (deleteFunc_any 30 #[.pointer (some ⟨bx, 0, none⟩)] callFunc_rew1 (fun x => !po.keepsB s x) w1.heap.size w1 w2 set (by omega) (.slice (some ⟨g, 0, none⟩) set.length cg) hown2 hB2 hB2.size hcall)
    have HB2 := Lib.hid (HB1.out.trans (hB2.mono HB1.out.size))
    have HGL := Lib.hid hgl
    clear hB2 hown2 hcall hgl h0
    go_wp2_with fail
    refine HDEL.out.mono ?_
    rintro e w3 ⟨v3, rfl, hown3, hob3, hg3⟩
    obtain ⟨K, hK⟩ : ∃ K, K = set.filter (po.keepsB s) := ⟨_, rfl⟩
    have hKk : df.keep (fun x => !po.keepsB s x) set = K := by rw [hK]; unfold df.keep; simp
    rw [hKk] at hown3
    obtain ⟨c3, rfl, hc3⟩ : ∃ c3, v3 = .slice (some ⟨g, 0, none⟩) K.length c3 ∧ K.length ≤ c3 := by
      rcases hown3.2 with ⟨rfl, _⟩ | ⟨g', cap', cur, rfl, _, _, hc, _⟩
      · cases hob3
      · obtain rfl : g' = g := by simpa [Value.ownBlock] using hob3
        exact ⟨cap', rfl, hc⟩
    have hKl : K.length ≤ set.length := by rw [hK]; exact List.length_filter_le _ _
    have hKok : ∀ r ∈ K, OkS r := fun r hr => by
      rw [hK] at hr
      obtain ⟨_, _, _, _, _, hz, h1, h2, _⟩ := po.nap_data (HD.out r ((List.mem_filter.1 hr).1))
      exact ⟨by omega, by omega⟩
    have hg1 : w.heap.size ≤ g := Nat.le_trans HB1.out.size HGL.out
    have HB3 := Lib.hid (HB2.out.grown hg3 HB2.out.size (fun j hj => by
      obtain rfl : g = j := by simpa [Value.ownBlock] using hj
      exact hg1))
    have HO3 := Lib.hid (ownsRow_base hown3 HB1.out.size)
    have HK := Lib.hid hK; have HKOK := Lib.hid hKok; have HG1 := Lib.hid hg1
    clear hown3 hob3 hg3 hK hKk hKok hg1
    go_wp2_with fail
    refine (sortRew_any K (by omega) HKOK.out w.heap.size g c3 w3 HO3.out).mono ?_
    rintro e w4 ⟨rfl, hg4, T, hT, hown4⟩
    have HB4 := Lib.hid (HB3.out.grown hg4 HB3.out.size (fun j hj => by
      obtain rfl : g = j := by simpa using hj
      exact HG1.out))
    obtain ⟨L, hL⟩ : ∃ L, L = T.map (·.1) := ⟨_, rfl⟩
    rw [← hL] at hown4
    have hTl : L.length = K.length := by
      have h1 := hown4.1
      rw [recsC_len] at h1
      omega
    rw [← hTl] at hown4 hc3 hKl ⊢
    have HO4 := Lib.hid hown4; have HT := Lib.hid hT; have HL := Lib.hid hL
    have hok : ∀ r ∈ L, 4 ≤ r.data.size ∧ r.data.size ≤ 65535 := fun r hr => by
      rw [hL] at hr
      obtain ⟨y, hy, rfl⟩ := List.mem_map.1 hr
      have hm := stable_mem hT y hy
      rw [HK.out] at hm
      obtain ⟨_, _, _, _, _, hz, h1, h2, _⟩ := po.nap_data (HD.out y.1 ((List.mem_filter.1 hm).1))
      exact ⟨by omega, by omega⟩
    have HOK := Lib.hid hok
    clear hg4 hT hown4 hTl hL hok
    have hc3i : (L.length : Int) ≤ (c3 : Int) := by omega
    have HRV := Lib.hid (owns_recs HO4.out)
    go_wp2_with fail
    go_loopw [19, 7] (fun kv _ wr => ∃ k : Nat, k ≤ L.length ∧ kv = .int .i64 (k : Int) ∧ Hid (Below w4.heap.size w4 wr ∧ ∀ j (hj : j < L.length) (h0 : 0 < L.length), j < k → po.numI (L[j]).data 0 = po.numI (L[0]).data 0)) (fun kv _ _ => L.length - (intOf kv).toNat)
    case atStart => exact ⟨0, Nat.zero_le _, rfl, Lib.hid ⟨Below.refl _ _, fun j hj h0 h => absurd h (Nat.not_lt_zero _)⟩⟩
    case round =>
      obtain ⟨k, hk, rfl, HR⟩ := hrel
      obtain ⟨w5, hw5⟩ : ∃ X : World, X = wr := ⟨_, rfl⟩
      subst hw5
      by_cases hlt : k < L.length
      · have h0 : 0 < L.length := by omega
        have hki : (k : Int) < (L.length : Int) := by omega
        have h0i : (0 : Int) < (L.length : Int) := by omega
        have hkc : (k : Int) ≤ (c3 : Int) := by omega
        obtain ⟨gb, x0, x1, x2, x3, x4⟩ := cells_at (HRV.out.below HR.out.1) hlt
        obtain ⟨-, y0, y1, y2, y3, y4⟩ := cells_at (HRV.out.below HR.out.1) h0
        simp only [Nat.zero_add, Nat.zero_mul] at x4 y4
        obtain ⟨x, hx⟩ : ∃ x, x = L[k] := ⟨_, rfl⟩
        obtain ⟨y, hy⟩ : ∃ y, y = L[0] := ⟨_, rfl⟩
        have okx := HOK.out x (by rw [hx]; exact List.getElem_mem _)
        have oky := HOK.out y (by rw [hy]; exact List.getElem_mem _)
        rw [← hx] at x4
        rw [← hy] at y4
        have g4 := gw_cell x4; have k4 := gw_cell y4
        have CX : Hid (∀ p, Calls Tryz.prog 24 #[.string x.data, .int .i64 0] (gw w5 p) fun e w'' => e = .returned (.int .i64 (po.numI x.data 0)) ∧ ∃ p', w'' = gw w5 p') := Lib.hid fun p => calls_gw (number_any x.data 0 (by omega) (by omega) _)
        have CY : Hid (∀ p, Calls Tryz.prog 24 #[.string y.data, .int .i64 0] (gw w5 p) fun e w'' => e = .returned (.int .i64 (po.numI y.data 0)) ∧ ∃ p', w'' = gw w5 p') := Lib.hid fun p => calls_gw (number_any y.data 0 (by omega) (by omega) _)
        obtain ⟨px, hpx⟩ : ∃ p, p = po.numI x.data 0 := ⟨_, rfl⟩
        obtain ⟨py, hpy⟩ : ∃ p, p = po.numI y.data 0 := ⟨_, rfl⟩
        rw [← hpx] at CX
        rw [← hpy] at CY
        rw [hx] at hpx
        rw [hy] at hpy
        have HPX := Lib.hid hpx; have HPY := Lib.hid hpy; have HLT := Lib.hid hlt
        clear x0 x1 x2 x3 x4 y0 y1 y2 y3 y4 hx hy hpx hpy gb okx oky
        by_cases hp : px = py
        · have f1 : (px != py) = false := by rw [bne_eq_false_iff_eq]; exact hp
          have HP := Lib.hid hp
          clear hp
          go_upto_region 8 with fail
          refine wp_region_gw (by kernel_rfl) (by kernel_rfl) ?_
          repeat (with_reducible refine wpQuiet_step (fun K hK => ?_); go_simp; (try simp only [undef]); first | (with_reducible refine hK _ ?_; clear hK K) | (apply Exists.intro; refine ⟨fun _ => ?_, hK _ ?_⟩; (first | (go_at_call 24; (first | with_reducible exact CX.out _ | with_reducible exact CY.out _))); clear hK K) | (with_reducible refine ⟨fun _ h => (by cases h), ?_⟩; with_reducible refine hK _ ?_; clear hK K))
          refine wpQuiet_nil ?_
          (try simp only [show Value.tuple #[] = undef from rfl])
          intro W hW
          have hBW : Below w5.heap.size w5 W := by obtain ⟨g, rfl⟩ := hW; exact gw_below _ g
          clear hW
          have HBW := Lib.hid (HR.out.1.trans (hBW.mono HR.out.1.size))
          clear hBW
          go_wp2_with fail
          go_roundw
          case rel =>
            repeat apply Exists.intro
            refine And.intro ?_ ?_
            rotate_left
            · repeat (first | exact rfl | refine And.intro rfl ?_)
            refine ⟨k + 1, by omega, by go_num, Lib.hid ⟨HBW.out, fun j hj h0 h => ?_⟩⟩
            rcases Nat.lt_or_ge j k with h2 | h2
            · exact HR.out.2 j hj h0 h2
            · obtain rfl : j = k := by omega
              rw [← HPX.out, ← HPY.out]
              exact HP.out
          case measure => simp [intOf]; omega
        · have f1 : (px != py) = true := by rw [bne_iff_ne]; exact hp
          have HP := Lib.hid hp
          clear hp
          go_upto_region 8 with fail
          refine wp_region_gw (by kernel_rfl) (by kernel_rfl) ?_
          repeat (with_reducible refine wpQuiet_step (fun K hK => ?_); go_simp; (try simp only [undef]); first | (with_reducible refine hK _ ?_; clear hK K) | (apply Exists.intro; refine ⟨fun _ => ?_, hK _ ?_⟩; (first | (go_at_call 24; (first | with_reducible exact CX.out _ | with_reducible exact CY.out _))); clear hK K) | (with_reducible refine ⟨fun _ h => (by cases h), ?_⟩; with_reducible refine hK _ ?_; clear hK K))
          refine wpQuiet_nil ?_
          (try simp only [show Value.tuple #[] = undef from rfl])
          intro W hW
          have hBW : Below w5.heap.size w5 W := by obtain ⟨g, rfl⟩ := hW; exact gw_below _ g
          clear hW
          have HBW := Lib.hid (HR.out.1.trans (hBW.mono HR.out.1.size))
          clear hBW
          go_wp2_with fail
          go_ret2
          have hgrp : po.IsGrp L k := ⟨by omega, fun j hj h0 h => HR.out.2 j hj h0 h, fun h h0 => by rw [← HPX.out, ← HPY.out]; exact HP.out⟩
          have hrow := ownsRow_below HO4.out HBW.out
          have e1 : (L.take k).length = k := by rw [List.length_take]; omega
          refine ⟨.slice (some ⟨g, 0, none⟩) k k, _, L.take k, rfl, HB4.out.trans (HBW.out.mono HB4.out.size), ?_, .inr ⟨g, k, c3, L.drop k, by rw [e1], by rw [e1]; exact Nat.le_refl _, ?_⟩⟩
          · have hT := HT.out
            rw [HK.out] at hT
            have hrun := po.RewRes.run HSB.out.symm T k hT (by rw [← HL.out]; exact hgrp)
            rw [← HL.out] at hrun
            exact hrun
          · rw [List.take_append_drop]
            exact hrow
      · obtain rfl : k = L.length := by omega
        clear hlt
        go_wp2_with fail
        go_ret2
        have hgrp : po.IsGrp L L.length := ⟨Nat.le_refl _, fun j hj h0 h => HR.out.2 j hj h0 hj, fun h => absurd h (Nat.lt_irrefl _)⟩
        have hrow := ownsRow_below HO4.out HR.out.1
        refine ⟨_, _, L, rfl, HB4.out.trans (HR.out.1.mono HB4.out.size), ?_, .inr ⟨g, c3, c3, [], rfl, by omega, ?_⟩⟩
        · have hT := HT.out
          rw [HK.out] at hT
          have hrun := po.RewRes.run HSB.out.symm T L.length hT (by rw [← HL.out]; exact hgrp)
          rw [← HL.out, List.take_length] at hrun
          exact hrun
        · rw [List.append_nil]
          exact hrow
end Go.Proofs.YtnloommafgnanaaGreat

/-
  gazetteersame: Mark, Spare, Twin, Whole.
-/
import Derived.Test.YtnloommafgnanaaGreatQRefU
import Derived.Test.YtnloommafgnanaaGreatQSerial
namespace Go.Proofs.YtnloommafgnanaaGreat
open Go.RowKit Go.Shelf Go.Proofs.YtnloommafgnanaaGreat.nm Go.Proofs.YtnloommafgnanaaGreat.od

/-- A row into which may be written. -/
def Writ (w : World) (base : Nat) (v : Value) (n : Nat) : Prop := ∃ xs, w.ownsRow base 42 5 v n xs
theorem Writ.set {w : World} {base g n cap : Nat} (h : Writ w base (.slice (some ⟨g, 0, none⟩) n cap) n) (j : Nat) (u : Value) : Writ (w.setCell ⟨g, j, none⟩ u) base (.slice (some ⟨g, 0, none⟩) n cap) n ∧ w.grownBy (w.setCell ⟨g, j, none⟩ u) (some g) := by
  obtain ⟨xs, hx⟩ := h
  obtain ⟨h1, h2⟩ := hx.stored j u
  exact ⟨⟨_, h1⟩, h2⟩
theorem Writ.five {w : World} {base g n cap : Nat} (h : Writ w base (.slice (some ⟨g, 0, none⟩) n cap) n) (j0 j1 j2 j3 j4 : Nat) (u0 u1 u2 u3 u4 : Value) :
    Writ (((((w.setCell ⟨g, j0, none⟩ u0).setCell ⟨g, j1, none⟩ u1).setCell ⟨g, j2, none⟩ u2).setCell ⟨g, j3, none⟩ u3).setCell ⟨g, j4, none⟩ u4) base (.slice (some ⟨g, 0, none⟩) n cap) n ∧
    w.grownBy (((((w.setCell ⟨g, j0, none⟩ u0).setCell ⟨g, j1, none⟩ u1).setCell ⟨g, j2, none⟩ u2).setCell ⟨g, j3, none⟩ u3).setCell ⟨g, j4, none⟩ u4) (some g) := by
  obtain ⟨h0, k0⟩ := h.set j0 u0
  obtain ⟨h1, k1⟩ := h0.set j1 u1
  obtain ⟨h2, k2⟩ := h1.set j2 u2
  obtain ⟨h3, k3⟩ := h2.set j3 u3
  obtain ⟨h4, k4⟩ := h3.set j4 u4
  exact ⟨h4, (((k0.trans k1).trans k2).trans k3).trans k4⟩
theorem Writ.cells {w : World} {base g n cap : Nat} (h : Writ w base (.slice (some ⟨g, 0, none⟩) n cap) n) {j : Nat} (hj : j < n * 5) : ∃ u, w.cell? ⟨g, j, none⟩ = some u ∧ w.frozen? ⟨g, j, none⟩ = false := by
  obtain ⟨xs, hx⟩ := h
  have h1 := hx.cellAt j hj
  rw [List.getElem?_eq_getElem (by rw [hx.1]; exact hj)] at h1
  exact ⟨_, h1, hx.frozenAt j⟩

set_option maxRecDepth 100000 in
set_option maxHeartbeats 1000000 in
theorem mark_any (base : Nat) (v : Value) (n : Nat) (hn : n ≤ 1000000000000) (w : World) (hw : Writ w base v n) :
    Calls Tryz.prog 13 #[v] w fun e w' => e = .returned (.tuple #[]) ∧ w.grownBy w' v.ownBlock := by
  obtain ⟨xs, hx⟩ := id hw
  obtain ⟨a, cap, rfl, hcap⟩ := ownsRow_len hx
  by_cases h0 : n = 0
  · subst h0
    clear hw hx
    go_enter Tryz.func13, Tryz.ntmps13
    go_wp2_with fail
    go_loop [5, 2] (fun kv _ => kv = .int .i64 0) (fun _ _ => 0)
    case atStart => rfl
    case round =>
      obtain rfl := hrel
      go_wp2_with fail
      go_end0
      exact ⟨rfl, rfl, rfl, rfl, Nat.le_refl _, fun _ _ _ => rfl⟩
  · obtain ⟨g, cap', hv, _, _⟩ := hx.form (by omega)
    simp only [Value.slice.injEq, true_and] at hv
    obtain ⟨rfl, rfl⟩ := hv
    have HW := Lib.hid hw
    clear hw
    clear hx h0
    go_enter Tryz.func13, Tryz.ntmps13
    go_wp2_with fail
    go_loopw [5, 2] (fun kv _ wr => ∃ k : Nat, k ≤ n ∧ kv = .int .i64 (k : Int) ∧ Writ wr base (.slice (some ⟨g, 0, none⟩) n cap) n ∧ w.grownBy wr (some g)) (fun kv _ _ => n - (intOf kv).toNat)
    case atStart => exact ⟨0, Nat.zero_le _, rfl, HW.out, ⟨rfl, rfl, rfl, Nat.le_refl _, fun _ _ _ => rfl⟩⟩
    case round =>
      obtain ⟨k, hk, rfl, hwr, hg⟩ := hrel
      by_cases hlt : k < n
      · obtain ⟨u0, c0, f0⟩ := hwr.cells (j := k * 5) (by omega)
        obtain ⟨u1, c1, f1⟩ := hwr.cells (j := k * 5 + 1) (by omega)
        obtain ⟨u2, c2, f2⟩ := hwr.cells (j := k * 5 + 2) (by omega)
        obtain ⟨u3, c3, f3⟩ := hwr.cells (j := k * 5 + 3) (by omega)
        obtain ⟨u4, c4, f4⟩ := hwr.cells (j := k * 5 + 4) (by omega)
        have h5 := hwr.five (k * 5) (k * 5 + 1) (k * 5 + 2) (k * 5 + 3) (k * 5 + 4) (.string ⟨#[109, 97, 114, 107]⟩) (.int .i64 (-(k : Int) - 1)) (.int .i64 0) (.int .i64 0) (.string ⟨#[]⟩)
        have HWR := Lib.hid hwr; have HG := Lib.hid hg; have H5 := Lib.hid h5
        clear hwr hg h5
        go_wp2_with fail
        go_roundw
        case rel => exact ⟨k + 1, by omega, by go_num, H5.out.1, HG.out.trans H5.out.2⟩
        case measure => simp [intOf]; omega
      · obtain rfl : k = n := by omega
        have HWR := Lib.hid hwr; have HG := Lib.hid hg
        clear hwr hg
        go_wp2_with fail
        go_end0
        exact ⟨rfl, HG.out⟩

abbrev spareR : Rec := ⟨⟨#[115, 112, 97, 114, 101]⟩, -77, -77, -77, ⟨#[115, 112, 97, 114, 101]⟩⟩
theorem rec_size : (Tryz.prog.info? 42).map (·.size) = some 5 := by kernel_rfl
theorem rec_ret {fn : Func} {p : Tmp} (hf : fn.results = #[.cell p 42]) {R : Ending → World → Prop} {a : Act} {w : World} {g : Nat} {v0 v1 v2 v3 v4 : Value} (hp : a.tmps.getD p undef = .pointer (some ⟨g, 0, none⟩))
    (hd : a.defers = []) (hg : w.heap[g]? = some (.cells #[v0, v1, v2, v3, v4] 42 (0, 0))) (hR : R (.returned (.agg #[v0, v1, v2, v3, v4])) w) : bodyPost Tryz.prog fn R .ret a w :=
  bodyPost_ret_by (results_cell_row hf _ w g _ _ _ _ hp hg Tryz.underlying42 rfl rec_size) hd hR
set_option maxRecDepth 100000 in
set_option maxHeartbeats 1000000 in
theorem spare_any (w : World) : Calls Tryz.prog 17 #[] w fun e w' => e = .returned (recV spareR) ∧ Below w.heap.size w w' := by
  go_enter Tryz.func17, Tryz.ntmps17
  go_wp2_with fail
  refine rec_ret rfl rfl rfl (heap_new_at rfl) ⟨rfl, (Below.refl _ w).alloc (Nat.le_refl _) _⟩

/-- What Twin answers. -/
def RTwin (l : List Rec) (w : World) (e : Ending) (w' : World) : Prop := ∃ g cap, e = .returned (.slice (some ⟨g, 0, none⟩) l.length cap) ∧ Below w.heap.size w w' ∧ w'.ownsRow w.heap.size 42 5 (.slice (some ⟨g, 0, none⟩) (l.length + 2) cap) (l.length + 2) (recsC (l ++ [spareR, spareR])) ∧ l.length + 2 ≤ cap
theorem recs_one (l : List Rec) : ∀ u ∈ recsC l, u.oneCell' = true := fun u hu => by
  unfold recsC at hu
  obtain ⟨r, _, hr⟩ := List.mem_flatMap.1 hu
  simp only [List.mem_cons, List.not_mem_nil, or_false] at hr
  rcases hr with rfl | rfl | rfl | rfl | rfl <;> rfl


set_option maxRecDepth 100000 in
set_option maxHeartbeats 2000000 in
theorem twin_any (l : List Rec) (hl : l.length * 56 ≤ 1099511627776) (v : Value) (hf : SliceForm v) (w : World) (hrv : RecsAt w v l) :
    Calls Tryz.prog 5 #[v] w fun e w' => RTwin l w e w' := by
  have hln1 : l.length ≤ 1000000000000 := by omega
  obtain ⟨i0_r, hi_r, hz_r, hz1_r, hz2_r⟩ := info_parts info_rec
  have HI_r := Lib.hid hi_r; have HZ_r := Lib.hid hz_r; have HZ1_r := Lib.hid hz1_r; have HZ2_r := Lib.hid hz2_r
  clear hi_r hz_r hz1_r hz2_r
  rcases hf with rfl | ⟨b, off, n, cap, rfl⟩
  · have h0 : l = [] := by
      obtain ⟨a, c, hv, _⟩ := hrv
      simp only [Value.slice.injEq] at hv
      exact List.eq_nil_of_length_eq_zero hv.2.1.symm
    subst h0
    have hnil : World.ownsRow w w.heap.size 42 5 (.slice none 0 0) 0 [] := World.ownsRow_nil _ _ _ _
    have HNIL := Lib.hid hnil
    clear hnil
    clear hrv
    go_enter Tryz.func5, Tryz.ntmps5
    go_wp2_with fail
    refine (spare_any _).mono ?_
    rintro e ws1 ⟨rfl, hBs1⟩
    have HRF := Lib.hid (Below.refl w.heap.size w)
    have HNR := Lib.hid (Nat.le_refl w.heap.size)
    have HBs := Lib.hid (Below.trans (B := w.heap.size) (a := w) HRF.out (hBs1.mono HNR.out))
    have hzs := HBs.out.size
    have HOs := Lib.hid (ownsRow_below HNIL.out hBs1)
    clear hBs1
    go_wp2_with fail
    refine (spare_any _).mono ?_
    rintro e ws2 ⟨rfl, hBs2⟩
    have HBs2 := Lib.hid (HBs.out.trans (hBs2.mono hzs))
    have hzs2 := HBs2.out.size
    have HOs2 := Lib.hid (ownsRow_below HOs.out hBs2)
    clear hBs2
    have HBs3 := Lib.hid (HBs2.out.alloc hzs2 (.cells (recsC [spareR, spareR]).toArray 42))
    have HOs3 := Lib.hid (ownsRow_keepOne HOs2.out fun b hb => Below.heap_alloc ws2 (.cells (recsC [spareR, spareR]).toArray 42) b (HOs2.out.lt b hb).2)
    have HNEWS := Lib.hid (news_at ws2 (recsC [spareR, spareR]) 42)
    have P1 := Lib.hid (show 0 + 2 ≤ maxLen from by unfold maxLen; omega)
    have P2 := Lib.hid (show (0 + 2) * 56 ≤ 140737488355328 from by omega)
    have P3 := Lib.hid (show w.heap.size ≤ (ws2.alloc (.cells (recsC [spareR, spareR]).toArray 42)).heap.size from by simp; omega)
    have ONE2 := Lib.hid (recs_one [spareR, spareR])
    go_wp2_with (at_builtin; refine wpList_append_new _ rfl _ _ 22 rfl w.heap.size 42 i0_r (.agg #[.string ⟨#[]⟩, .int .i64 0, .int .i64 0, .int .i64 0, .string ⟨#[]⟩]) 5 56 Tryz.underlying22 HI_r.out HZ_r.out HZ1_r.out HZ2_r.out rfl (by decide) _ _ _ rfl HOs3.out ⟨ws2.heap.size, 0, none⟩ 2 2 (recsC [spareR, spareR]) rfl rfl HNEWS.out ONE2.out P1.out P2.out P3.out ?_)
    intro v' w10 hown10 hg10 hnn10
    have HB10 := Lib.hid (HBs3.out.grown hg10 P3.out (fun j hj => (HOs3.out.lt j hj).1))
    obtain ⟨g, cap, rfl, hcg, _⟩ := hown10.form (by omega)
    obtain ⟨_, cap', hv, hcap⟩ := ownsRow_len hown10
    simp only [Value.slice.injEq, true_and] at hv
    obtain ⟨rfl, rfl⟩ := hv
    have hcap2 : 0 ≤ cap := by omega
    have HOWN10 := Lib.hid hown10
    clear hown10 hg10 hnn10 hcg
    go_wp2_with fail
    go_ret
    refine ⟨g, cap, rfl, HB10.out, ?_, hcap⟩
    have h := HOWN10.out
    rw [recsC_apps]
    exact h
  · obtain ⟨hn, hcell⟩ := recs_cells hrv
    subst hn
    have hone := recs_one l
    have hln := recsC_len l
    have hnl : World.ownsRow w w.heap.size 42 5 (.slice none 0 0) 0 [] := World.ownsRow_nil _ _ _ _
    have hnews : ∀ j u, (recsC l)[j]? = some u → w.cell? ((⟨b, off, none⟩ : Addr).add j) = some u := fun j u hu => by rw [Addr.add_lit]; exact hcell j u hu
    have p1 : 0 + l.length ≤ maxLen := by unfold maxLen; omega
    have p2 : (0 + l.length) * 56 ≤ 140737488355328 := by omega
    have HONE := Lib.hid hone; have HLN := Lib.hid hln; have HNL := Lib.hid hnl; have HNEWS := Lib.hid hnews; have P1 := Lib.hid p1; have P2 := Lib.hid p2; have HCELL := Lib.hid hcell; have HRV := Lib.hid hrv
    clear hone hln hnl hnews p1 p2 hcell hrv
    go_enter Tryz.func5, Tryz.ntmps5
    go_wp2_with (at_builtin; refine wpList_append_new _ rfl _ _ 22 rfl w.heap.size 42 i0_r (.agg #[.string ⟨#[]⟩, .int .i64 0, .int .i64 0, .int .i64 0, .string ⟨#[]⟩]) 5 56 Tryz.underlying22 HI_r.out HZ_r.out HZ1_r.out HZ2_r.out rfl (by decide) _ _ _ rfl HNL.out ⟨b, off, none⟩ l.length cap (recsC l) rfl HLN.out HNEWS.out HONE.out P1.out P2.out (Nat.le_refl _) ?_)
    intro v0 w0 hown0 hg0 hnn0
    have HB0 := Lib.hid ((Below.refl w.heap.size w).grown hg0 (Nat.le_refl _) (fun j hj => by cases hj))
    have hz0 := HB0.out.size
    have HOWN0 := Lib.hid (show w0.ownsRow w.heap.size 42 5 v0 l.length (recsC l) from by simpa using hown0)
    clear hown0 hg0 hnn0 P1 P2 HNEWS
    go_wp2_with fail
    refine (spare_any _).mono ?_
    rintro e ws1 ⟨rfl, hBs1⟩
    have HBs := Lib.hid (Below.trans (B := w.heap.size) (a := w) HB0.out (hBs1.mono hz0))
    have hzs := HBs.out.size
    have HOs := Lib.hid (ownsRow_below HOWN0.out hBs1)
    clear hBs1
    go_wp2_with fail
    refine (spare_any _).mono ?_
    rintro e ws2 ⟨rfl, hBs2⟩
    have HBs2 := Lib.hid (HBs.out.trans (hBs2.mono hzs))
    have hzs2 := HBs2.out.size
    have HOs2 := Lib.hid (ownsRow_below HOs.out hBs2)
    clear hBs2
    have HBs3 := Lib.hid (HBs2.out.alloc hzs2 (.cells (recsC [spareR, spareR]).toArray 42))
    have HOs3 := Lib.hid (ownsRow_keepOne HOs2.out fun b hb => Below.heap_alloc ws2 (.cells (recsC [spareR, spareR]).toArray 42) b (HOs2.out.lt b hb).2)
    have HNEWS := Lib.hid (news_at ws2 (recsC [spareR, spareR]) 42)
    have P1 := Lib.hid (show l.length + 2 ≤ maxLen from by unfold maxLen; omega)
    have P2 := Lib.hid (show (l.length + 2) * 56 ≤ 140737488355328 from by omega)
    have P3 := Lib.hid (show w.heap.size ≤ (ws2.alloc (.cells (recsC [spareR, spareR]).toArray 42)).heap.size from by simp; omega)
    have ONE2 := Lib.hid (recs_one [spareR, spareR])
    go_wp2_with (at_builtin; refine wpList_append_new _ rfl _ _ 22 rfl w.heap.size 42 i0_r (.agg #[.string ⟨#[]⟩, .int .i64 0, .int .i64 0, .int .i64 0, .string ⟨#[]⟩]) 5 56 Tryz.underlying22 HI_r.out HZ_r.out HZ1_r.out HZ2_r.out rfl (by decide) _ _ _ rfl HOs3.out ⟨ws2.heap.size, 0, none⟩ 2 2 (recsC [spareR, spareR]) rfl rfl HNEWS.out ONE2.out P1.out P2.out P3.out ?_)
    intro v' w10 hown10 hg10 hnn10
    have HB10 := Lib.hid (HBs3.out.grown hg10 P3.out (fun j hj => (HOs3.out.lt j hj).1))
    obtain ⟨g, cap, rfl, hcg, _⟩ := hown10.form (by omega)
    obtain ⟨_, cap', hv, hcap⟩ := ownsRow_len hown10
    simp only [Value.slice.injEq, true_and] at hv
    obtain ⟨rfl, rfl⟩ := hv
    have hcap2 : l.length ≤ cap := by omega
    have HOWN10 := Lib.hid hown10
    clear hown10 hg10 hnn10 hcg
    go_wp2_with fail
    go_ret
    refine ⟨g, cap, rfl, HB10.out, ?_, hcap⟩
    have h := HOWN10.out
    rw [recsC_apps]
    exact h

set_option maxRecDepth 100000 in
set_option maxHeartbeats 2000000 in
theorem whole_any (base g cap : Nat) (l : List Rec) (hl : l.length ≤ 1000000000000) (lv : Value) (w : World) (hown : w.ownsRow base 42 5 (.slice (some ⟨g, 0, none⟩) (l.length + 2) cap) (l.length + 2) (recsC (l ++ [spareR, spareR]))) (hcap : l.length + 2 ≤ cap) (hlv : RecsAt w lv l) :
    Calls Tryz.prog 11 #[.slice (some ⟨g, 0, none⟩) l.length cap, lv] w fun e w' => e = .returned (.bool true) ∧ Below w.heap.size w w' := by
  obtain ⟨a, c, rfl, hc, _⟩ := id hlv
  have hfull : RecsAt w (.slice (some ⟨g, 0, none⟩) (l.length + 2) cap) (l ++ [spareR, spareR]) := owns_recs (base := base) (by rw [List.length_append]; exact hown)
  have hown2 : RecsAt w (.slice (some ⟨g, 0, none⟩) l.length cap) l := by
    have := recsAt_take (k := l.length) hfull (by rw [List.length_append]; omega)
    rw [List.take_left] at this
    exact this
  have e1 : (l ++ [spareR, spareR])[l.length]'(by rw [List.length_append]; simp) = spareR := by simp
  have e2 : (l ++ [spareR, spareR])[l.length + 1]'(by rw [List.length_append]; simp) = spareR := by simp
  obtain ⟨_, p0, p1, p2, p3, p4⟩ := cells_at hfull (j := l.length) (by rw [List.length_append]; simp)
  obtain ⟨_, q0, q1, q2, q3, q4⟩ := cells_at hfull (j := l.length + 1) (by rw [List.length_append]; simp)
  rw [e1] at p0 p1 p2 p3 p4
  rw [e2] at q0 q1 q2 q3 q4
  rw [Nat.zero_add] at p0 p1 p2 p3 p4 q0 q1 q2 q3 q4
  have g0 := gw_cell p0
  have g1 := gw_cell p1
  have g2 := gw_cell p2
  have g3 := gw_cell p3
  have g4 := gw_cell p4
  have k0 := gw_cell q0
  have k1 := gw_cell q1
  have k2 := gw_cell q2
  have k3 := gw_cell q3
  have k4 := gw_cell q4
  have CS : Hid (∀ p, Calls Tryz.prog 10 #[.slice (some ⟨g, 0, none⟩) l.length cap, .slice a l.length c] (gw w p) fun e w'' => e = .returned (.bool true) ∧ ∃ p', w'' = gw w p') := Lib.hid fun p => calls_gw (by
    have := same_any l l hl _ _ (gw w p) (hown2.below (gw_below w p)) (hlv.below (gw_below w p))
    rw [decide_eq_true rfl] at this
    exact this)
  have CP : Hid (∀ p, Calls Tryz.prog 17 #[] (gw w p) fun e w'' => e = .returned (recV spareR) ∧ ∃ p', w'' = gw w p') := Lib.hid fun p => calls_gw (spare_any _)
  have hcap' : (l.length : Int) + 2 ≤ (cap : Int) := by omega
  have hw1 : IntKind.i64.wrap ((l.length : Int) + 1) = (l.length : Int) + 1 := IntWalk.i64_in _ (by omega)
  have hw2 : ((l.length : Int) + 2).toNat = l.length + 2 := by omega
  have hb1 : (0 : Int) ≤ (l.length : Int) := by omega
  have hb2 : (l.length : Int) < (l.length : Int) + 2 := by omega
  have hb3 : (0 : Int) ≤ (l.length : Int) + 1 := by omega
  have hb4 : (l.length : Int) + 1 < (l.length : Int) + 2 := by omega
  have hb5 : ((l.length : Int) + 1).toNat = l.length + 1 := by omega
  have HOWN := Lib.hid hown; have HLV := Lib.hid hlv; have HFULL := Lib.hid hfull; have HOWN2 := Lib.hid hown2
  clear hown hlv hfull hown2
  clear e1 e2 p0 p1 p2 p3 p4 q0 q1 q2 q3 q4
  go_enter Tryz.func11, Tryz.ntmps11
  go_wp2_with fail
  refine wp_region_gw (by kernel_rfl) (by kernel_rfl) ?_
  repeat (with_reducible refine wpQuiet_step (fun K hK => ?_); go_simp; (try simp only [undef]); first | (with_reducible refine hK _ ?_; clear hK K) | (apply Exists.intro; refine ⟨fun _ => ?_, hK _ ?_⟩; (first | (go_at_call 10; with_reducible exact CS.out _) | (go_at_call 17; with_reducible exact CP.out _)); clear hK K) | (with_reducible refine ⟨fun _ h => (by cases h), ?_⟩; with_reducible refine hK _ ?_; clear hK K))
  refine wpQuiet_nil ?_
  (try simp only [show Value.tuple #[] = undef from rfl])
  intro W hW
  have hBW : Below w.heap.size w W := by obtain ⟨g, rfl⟩ := hW; exact gw_below _ g
  clear hW
  go_wp2_with fail
  go_ret
  exact ⟨rfl, hBW⟩
end Go.Proofs.YtnloommafgnanaaGreat

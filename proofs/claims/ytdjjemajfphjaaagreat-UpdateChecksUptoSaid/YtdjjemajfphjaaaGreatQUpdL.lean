import Derived.Test.YtdjjemajfphjaaaGreatQUpdZ
import Derived.Test.YtdjjemajfphjaaaGreatQUpdD
import Derived.Test.YtdjjemajfphjaaaGreatQMsgB
namespace Go.Proofs.YtdjjemajfphjaaaGreat
open Go.RowKit Go.Shelf Go.WideMaps Go.Proofs.YtdjjemajfphjaaaGreat.nm Go.Proofs.YtdjjemajfphjaaaGreat.od
namespace up
abbrev aapex : ByteArray := ⟨#[2, 101, 120, 0]⟩
abbrev asoa : ByteArray := ⟨#[2, 110, 115, 2, 101, 120, 0, 1, 104, 2, 101, 120, 0, 0, 0, 0, 1, 0, 0, 0, 1, 0, 0, 0, 1, 0, 0, 0, 1, 0, 0, 0, 60]⟩
abbrev arec1 : Rec := ⟨aapex, 6, 1, 300, asoa⟩
abbrev arec2 : Rec := ⟨aapex, 2, 1, 300, ⟨#[2, 110, 115, 2, 101, 120, 0]⟩⟩
abbrev arec3 : Rec := ⟨⟨#[1, 97, 2, 101, 120, 0]⟩, 1, 1, 60, ⟨#[1, 2, 3, 4]⟩⟩
abbrev asoa2 : ByteArray := ⟨#[2, 110, 115, 2, 101, 120, 0, 1, 104, 2, 101, 120, 0, 0, 0, 0, 2, 0, 0, 0, 1, 0, 0, 0, 1, 0, 0, 0, 1, 0, 0, 0, 60]⟩
abbrev arec4 : Rec := ⟨aapex, 6, 1, 300, asoa2⟩
abbrev ahd : Hd := ⟨9, false, 5, false, false, false, false, false, false, 0⟩
theorem a_new : zn.newE aapex [arec1, arec2] = none := by decide +kernel
theorem a_sorted : SortedOf [arec1, arec2] [arec2, arec1] := ⟨List.Perm.swap _ _ _, by
  rw [List.pairwise_cons]
  refine ⟨fun r hr => ?_, List.pairwise_singleton _ _⟩
  rw [List.mem_singleton] at hr
  subst hr
  decide +kernel⟩
theorem a_row : zn.rowsS [arec2, arec1] (foldS aapex, 6) = [arec1] := by decide +kernel
theorem a_serial : zn.serialD asoa = 1 := by decide +kernel
theorem a_check : checkI aapex [arec2, arec1] ahd [⟨aapex, 6, 1⟩] [] [arec3] [] = 0 := by decide +kernel
theorem a_out : outL aapex [arec2, arec1] [arec3] = [arec2, arec4, arec3] := by decide +kernel
theorem a_new2 : zn.newE aapex [arec2, arec4, arec3] = none := by decide +kernel
theorem a_row2 : zn.rowsS [arec2, arec4, arec3] (foldS aapex, 6) = [arec4] := by decide +kernel
theorem a_serial2 : zn.serialD asoa2 = 2 := by decide +kernel
theorem rows_perm {l L : List Rec} (h : l.Perm L) (κ : Key) : (zn.rowsS l κ).Perm (zn.rowsS L κ) := h.filter _
end up
set_option maxRecDepth 100000 in
set_option maxHeartbeats 400000 in
theorem asmall_any (w : World) : Calls Tryz.prog 20 #[] w fun e w' => ∃ v, e = .returned v ∧ Below w.heap.size w w' ∧ SliceForm v ∧ RecsAt w' v [up.arec1, up.arec2] := by
  go_enter Tryz.func20, Tryz.ntmps20
  go_wp2_with fail
  go_ret
  refine ⟨_, rfl, (Below.refl _ w).alloc (Nat.le_refl _) _, .inr ⟨_, _, _, _, rfl⟩, ?_⟩
  refine owns_recs (base := 0) ⟨rfl, .inr ⟨w.heap.size, 2, _, rfl, Nat.zero_le _, heap_new_at rfl, Nat.le_refl _, by unfold maxLen; omega, rfl, rfl⟩⟩
theorem arec_ret {fn : Func} {p : Tmp} (hf : fn.results = #[.cell p 51]) {R : Ending → World → Prop} {a : Act} {w : World} {g : Nat} {x : Rec} (hp : a.tmps.getD p undef = .pointer (some ⟨g, 0, none⟩))
    (hd : a.defers = []) (hc : w.heap[g]? = some (.cells (recC x).toArray 51 (0, 0))) (hR : R (.returned (recV x)) w) : bodyPost Tryz.prog fn R .ret a w :=
  bodyPost_ret_by (results_cell_row hf _ w g _ _ _ _ hp hc Tryz.underlying51 rfl rec_size) hd hR
set_option maxRecDepth 100000 in
set_option maxHeartbeats 1000000 in
theorem fresh_any (w : World) : Calls Tryz.prog 21 #[] w fun e w' => e = .returned (recV up.arec3) ∧ Below w.heap.size w w' := by
  obtain ⟨w1, hw1⟩ : ∃ X, X = w.alloc (.cells #[.string ⟨#[]⟩, .int .i64 0, .int .i64 0, .int .i64 0, .string ⟨#[]⟩] 51) := ⟨_, rfl⟩
  obtain ⟨g, hg⟩ : ∃ b, b = w.heap.size := ⟨_, rfl⟩
  have hh : w1.heap[g]? = some (.cells #[.string ⟨#[]⟩, .int .i64 0, .int .i64 0, .int .i64 0, .string ⟨#[]⟩] 51 (0, 0)) := by rw [hw1]; exact heap_new_at hg
  have hB : Below w.heap.size w w1 := by rw [hw1]; exact (Below.refl _ w).alloc (Nat.le_refl _) _
  have q0 : w1.cell? ⟨g, 0, none⟩ = some (.string ⟨#[]⟩) := by rw [heap_cell hh]; rfl
  have q1 : w1.cell? ⟨g, 1, none⟩ = some (.int .i64 0) := by rw [heap_cell hh]; rfl
  have q2 : w1.cell? ⟨g, 2, none⟩ = some (.int .i64 0) := by rw [heap_cell hh]; rfl
  have q3 : w1.cell? ⟨g, 3, none⟩ = some (.int .i64 0) := by rw [heap_cell hh]; rfl
  have q4 : w1.cell? ⟨g, 4, none⟩ = some (.string ⟨#[]⟩) := by rw [heap_cell hh]; rfl
  have f0 := heap_frozen hh 0; have f1 := heap_frozen hh 1; have f2 := heap_frozen hh 2; have f3 := heap_frozen hh 3; have f4 := heap_frozen hh 4
  obtain ⟨e1, e2, -⟩ := fnd_store hh hB (Nat.le_of_eq hg.symm) (.string ⟨#[1, 97, 2, 101, 120, 0]⟩) (.int .i64 1) (.int .i64 1) (.int .i64 60) (.string ⟨#[1, 2, 3, 4]⟩)
  have HW1 := Lib.hid hw1; have HG := Lib.hid hg; have E1 := Lib.hid e1; have E2 := Lib.hid e2
  clear hw1 hg hh hB e1 e2
  go_enter Tryz.func21, Tryz.ntmps21
  go_upto_region 1 with fail
  rw [← HW1.out, ← HG.out]
  go_wp2_with fail
  exact arec_ret (x := up.arec3) rfl rfl rfl E1.out ⟨rfl, E2.out⟩
set_option maxRecDepth 100000 in
set_option maxHeartbeats 2000000 in
theorem asks_any (top : ByteArray) (a1 : Option Addr) (n1 c1 : Nat) (a2 : Option Addr) (n2 c2 : Nat) (w : World) : Calls Tryz.prog 18 #[.string top, .slice a1 n1 c1, .slice a2 n2 c2] w fun e w' =>
    ∃ g, e = .returned (msgV up.ahd (.slice (some ⟨g, 0, none⟩) 1 1) (.slice a1 n1 c1) (.slice a2 n2 c2) (.slice none 0 0)) ∧ Below w.heap.size w w' ∧ QnsAt w' (.slice (some ⟨g, 0, none⟩) 1 1) [⟨top, 6, 1⟩] := by
  obtain ⟨w1, hw1⟩ : ∃ X, X = w.alloc (.cells (msgC hd0 (.slice none 0 0) (.slice none 0 0) (.slice none 0 0) (.slice none 0 0)).toArray 25) := ⟨_, rfl⟩
  obtain ⟨hB1, hs1, hm1⟩ := msg_new hw1
  obtain ⟨bm, hbm⟩ : ∃ b, b = w.heap.size := ⟨_, rfl⟩
  rw [← hbm] at hm1
  obtain ⟨o, ho⟩ : ∃ o : Obj, o = .cells #[.string top, .int .i64 6, .int .i64 1] 63 := ⟨_, rfl⟩
  have hB2 : Below w1.heap.size w1 (w1.alloc o) := (Below.refl _ w1).alloc (Nat.le_refl _) _
  have hm2 := hm1.below hB2
  obtain ⟨g, hg⟩ : ∃ b, b = w1.heap.size := ⟨_, rfl⟩
  have hne : g ≠ bm := by have := hm1.lt; omega
  have hst := msg_stored hm2 up.ahd (.slice (some ⟨g, 0, none⟩) 1 1) (.slice a1 n1 c1) (.slice a2 n2 c2) (.slice none 0 0)
  have hqb : (w1.alloc o).heap[g]? = some (.cells #[.string top, .int .i64 6, .int .i64 1] 63 (0, 0)) := by rw [ho]; exact heap_new_at hg
  have hBB : Below w.heap.size w (w1.alloc o) := hB1.trans (hB2.mono hB1.size)
  have hfin := hBB.grown hst.2 hBB.size (fun j hj => by cases hj; exact Nat.le_of_eq hbm.symm)
  have hqf := (hst.2.block g (heap_lt hqb) (by simpa using hne)).trans hqb
  rw [ho] at hm2 hst hqf hfin
  obtain ⟨x0, x1, x2, x3, x4, x5, x6, x7, x8, x9, x10, x11, x12, x13⟩ := hm2.facts
  have f0 := hm2.free 0; have f1 := hm2.free 1; have f2 := hm2.free 2; have f3 := hm2.free 3; have f4 := hm2.free 4; have f5 := hm2.free 5; have f6 := hm2.free 6; have f7 := hm2.free 7; have f8 := hm2.free 8; have f9 := hm2.free 9; have f10 := hm2.free 10; have f11 := hm2.free 11; have f12 := hm2.free 12; have f13 := hm2.free 13
  have HW1 := Lib.hid hw1; have HBM := Lib.hid hbm; have HST := Lib.hid hst.1; have HQF := Lib.hid hqf; have HFIN := Lib.hid hfin; have HGG := Lib.hid hg
  clear hw1 hB1 hs1 hm1 hbm ho hB2 hm2 hg hne hst hqb hBB hfin hqf
  go_enter Tryz.func18, Tryz.ntmps18
  go_upto_region 1 with fail
  rw [← HW1.out, ← HBM.out]
  go_wp2_with fail
  rw [← HGG.out]
  refine msg_ret rfl rfl rfl HST.out ⟨g, rfl, HFIN.out, ?_⟩
  refine ⟨some ⟨g, 0, none⟩, 1, rfl, Nat.le_refl _, fun k hk => ⟨g, 0, rfl, heap_lt HQF.out, ?_⟩⟩
  obtain rfl : k = 0 := by simpa using hk
  refine ⟨?_, ?_, ?_⟩ <;> (rw [heap_cell HQF.out]; rfl)
set_option maxRecDepth 100000 in
set_option maxHeartbeats 4000000 in
theorem alive_any (w : World) : Calls Tryz.prog 7 #[] w fun e w' => e = .returned (.bool true) ∧ Below w.heap.size w w' := by
  go_enter Tryz.func7, Tryz.ntmps7
  go_wp2_with fail
  refine (asmall_any _).mono ?_
  rintro e w1 ⟨v, rfl, hB1, hf, hrv⟩
  have HN := Lib.hid (both_any up.aapex (by decide) [up.arec1, up.arec2] (fun r hr => by
    simp only [List.mem_cons, List.not_mem_nil, or_false] at hr
    rcases hr with rfl | rfl <;> rfl) (fun r hr => by
    simp only [List.mem_cons, List.not_mem_nil, or_false] at hr
    rcases hr with rfl | rfl <;> decide) v hf w1 hrv)
  have HB1 := Lib.hid hB1
  clear hrv hf hB1
  go_wp2_with fail
  refine HN.out.mono ?_
  rintro e w2 ⟨hB2, ⟨hx, -⟩ | ⟨-, z, y, L, hs, rfl, hva, top, hzf, -⟩⟩
  · exact absurd up.a_new hx
  have hva0 := zn.valid_of up.a_new
  have hL : L = [up.arec2, up.arec1] := hs.eq up.a_sorted (fun r hr => (hva0.each r hr).1) (zn.uniq_of (zn.distinct_of (zn.rules_twice hva0.rules)))
  subst hL
  have HB2 := Lib.hid (HB1.out.trans (hB2.mono HB1.out.size)); have HZ := Lib.hid hzf; have HVA := Lib.hid hva
  clear hB2 hs hzf hva hva0 HN
  go_wp2_with fail
  refine (fresh_any w2).mono ?_
  rintro e w3 ⟨rfl, hB3⟩
  have HB3 := Lib.hid (HB2.out.trans (hB3.mono HB2.out.size)); have HZ3 := Lib.hid (HZ.out.kept hB3)
  obtain ⟨w4, hw4⟩ : ∃ X, X = w3.alloc (.cells #[.string ⟨#[1, 97, 2, 101, 120, 0]⟩, .int .i64 1, .int .i64 1, .int .i64 60, .string ⟨#[1, 2, 3, 4]⟩] 51) := ⟨_, rfl⟩
  have hB4 : Below w3.heap.size w3 w4 := by rw [hw4]; exact (Below.refl _ w3).alloc (Nat.le_refl _) _
  have HB4 := Lib.hid (HB3.out.trans (hB4.mono HB3.out.size)); have HZ4 := Lib.hid (HZ3.out.kept hB4)
  have HR4 := Lib.hid (show RecsAt w4 (.slice (some ⟨w3.heap.size, 0, none⟩) 1 1) [up.arec3] by rw [hw4]; exact owns_recs (l := [up.arec3]) (own_newU w3 up.arec3))
  have HW4 := Lib.hid hw4
  clear hB3 hB4 hw4
  go_wp2_with fail
  rw [← HW4.out]
  refine (asks_any up.aapex none 0 0 (some ⟨w3.heap.size, 0, none⟩) 1 1 w4).mono ?_
  rintro e w5 ⟨g5, rfl, hB5, hq5⟩
  have HB5 := Lib.hid (HB4.out.trans (hB5.mono HB4.out.size)); have HZ5 := Lib.hid (HZ4.out.kept hB5)
  have HQ5 := Lib.hid hq5; have HR5 := Lib.hid (HR4.out.below hB5)
  have hnil : RecsAt w5 (.slice none 0 0) [] := ⟨none, 0, rfl, Nat.le_refl _, fun k hk => absurd hk (Nat.not_lt_zero _)⟩
  have HAP := Lib.hid (uapply_any top z up.aapex [up.arec2, up.arec1] HVA.out up.ahd [⟨up.aapex, 6, 1⟩] [] [up.arec3] [] (by decide) (by decide) (by decide) (by decide) (fun _ x hx => by
    rw [List.mem_singleton] at hx
    subst hx
    exact chgOk_plain rfl (by decide) (by decide) (by decide +kernel)) _ _ _ _ w5 HZ5.out HQ5.out hnil HR5.out hnil)
  clear hB5 hq5 hnil
  go_wp2_with fail
  refine HAP.out.mono ?_
  rintro e w6 ⟨hB6, ⟨hx, -⟩ | ⟨-, hx, -⟩ | ⟨-, -, top', z', L', hs', rfl, hzf'⟩⟩
  · exact absurd up.a_check hx
  · rw [up.a_out] at hx
    exact absurd up.a_new2 hx
  rw [up.a_out] at hs'
  have hB56 := hB6
  have HB6 := Lib.hid (HB5.out.trans (hB6.mono HB5.out.size)); have HZ6 := Lib.hid (HZ5.out.kept hB6); have HY6 := Lib.hid hzf'
  have hlen : L'.length = 3 := hs'.1.length_eq
  have hrow : zn.rowsS L' (foldS up.aapex, 6) = [up.arec4] := by
    have h1 := up.rows_perm hs'.1 (foldS up.aapex, 6)
    rw [up.a_row2] at h1
    exact List.perm_singleton.1 h1
  have HLEN := Lib.hid hlen; have HROW := Lib.hid hrow
  clear hB6 hB56 hs' hzf' hlen hrow HAP
  go_wp2_with fail
  refine (records_any top' z' up.aapex L' (by rw [HLEN.out]; decide) w6 HY6.out.v).mono ?_
  rintro e w7 ⟨v7, rfl, hB7, hown7⟩
  obtain ⟨va7, vc7, rfl, -⟩ := ownsRow_len hown7
  rw [HLEN.out]
  have HB7 := Lib.hid (HB6.out.trans (hB7.mono HB6.out.size)); have HZ7 := Lib.hid (HZ6.out.kept hB7); have HY7 := Lib.hid (HY6.out.kept hB7)
  clear hB7 hown7
  go_wp2_with fail
  refine (serial_any top' z' up.aapex L' up.arec4 [] HROW.out (by decide) w7 HY7.out.v).mono ?_
  rintro e w8 ⟨rfl, hB8⟩
  rw [up.a_serial2]
  have HB8 := Lib.hid (HB7.out.trans (hB8.mono HB7.out.size)); have HZ8 := Lib.hid (HZ7.out.kept hB8)
  clear hB8
  go_wp2_with fail
  refine (serial_any top z up.aapex [up.arec2, up.arec1] up.arec1 [] up.a_row (by decide) w8 HZ8.out.v).mono ?_
  rintro e w9 ⟨rfl, hB9⟩
  rw [up.a_serial]
  have HB9 := Lib.hid (HB8.out.trans (hB9.mono HB8.out.size))
  clear hB9
  go_wp2_with fail
  go_ret
  exact ⟨rfl, HB9.out⟩
end Go.Proofs.YtdjjemajfphjaaaGreat

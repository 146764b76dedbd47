/-
  The reference's zone: breaks, rules 2 to 5.
-/
import Derived.Test.YtpjoaghnciomeaaGreatRefQ
namespace Go.Proofs.YtpjoaghnciomeaaGreat
open Go.RowKit Go.Shelf Go.Proofs.YtpjoaghnciomeaaGreat.nm Go.Proofs.YtpjoaghnciomeaaGreat.od

namespace zn
theorem alike_full {a b : Rec} (ha : checkB a.owner = true) (hb : checkB b.owner = true) : alikeB a b = true ↔ fullR a = fullR b := by
  rw [full_iff ha hb]
  unfold alikeB
  simp only [Bool.and_eq_true, decide_eq_true_eq, and_assoc, str_eq]
end zn
/-- What a rule's walk begins with. -/
theorem rec_new (w w1 : World) (r : Rec) (h : w1 = w.alloc (.cells (recC r).toArray 53)) :
    Below w.heap.size w w1 ∧ w1.heap.size = w.heap.size + 1 ∧ RecAt w1 w.heap.size 0 r := by
  subst h
  exact ⟨(Below.refl _ w).alloc (Nat.le_refl _) _, by simp, rec_cell w r _ 0 _ rfl, rec_cell w r _ 1 _ rfl, rec_cell w r _ 2 _ rfl, rec_cell w r _ 3 _ rfl, rec_cell w r _ 4 _ rfl⟩
theorem cells_at {w : World} {b off cap n : Nat} {l : List Rec} (h : RecsAt w (.slice (some ⟨b, off, none⟩) n cap) l) {j : Nat} (hj : j < l.length) : b < w.heap.size ∧ RecAt w b (off + j * 5) l[j] := by
  obtain ⟨a, c, hv, _, hr⟩ := h
  obtain ⟨b', off', he, hl, ha⟩ := hr j hj
  simp only [Value.slice.injEq] at hv
  rw [← hv.1] at he
  simp only [Option.some.injEq, Addr.mk.injEq, and_true] at he
  obtain ⟨rfl, rfl⟩ := he
  exact ⟨hl, ha⟩
theorem recs_some {w : World} {v : Value} {l : List Rec} {k : Nat} (h : RecsAt w v l) (hk : k < l.length) : ∃ b off cap, v = .slice (some ⟨b, off, none⟩) l.length cap ∧ l.length ≤ cap := by
  obtain ⟨a, c, rfl, hc, hr⟩ := h
  obtain ⟨b, off, rfl, _⟩ := hr k hk
  exact ⟨b, off, c, rfl, hc⟩



set_option maxRecDepth 100000 in
set_option maxHeartbeats 4000000 in
theorem rbreaks_2 (apex : ByteArray) (l : List Rec) (k : Nat) (hk : k < l.length) (_hl : l.length ≤ 2000) (hsz : ∀ r ∈ l, r.owner.size ≤ 1099511627776) (v : Value) (w : World) (hrv : RecsAt w v l) :
    Calls Tryz.prog 49 #[.int .i64 2, .string apex, v, .int .i64 k] w fun e w' => e = .returned (.bool (zn.bad1 l[k])) ∧ Below w.heap.size w w' := by
  obtain ⟨b, off, cap, rfl, hcap⟩ := recs_some hrv hk
  obtain ⟨hb, c0, c1, c2, c3, c4⟩ := cells_at hrv hk
  have hki : (k : Int) < (l.length : Int) := by omega
  obtain ⟨w1, hw1⟩ : ∃ W, W = w.alloc (.cells (recC l[k]).toArray 53) := ⟨_, rfl⟩
  obtain ⟨hB1, hz1, hx⟩ := rec_new w w1 l[k] hw1
  have hrv1 := hrv.below hB1
  have lt1 : w.heap.size < w1.heap.size := by omega
  have hso := hsz l[k] (List.getElem_mem hk)
  obtain ⟨x0, x1, x2, x3, x4⟩ := id hx
  have HW1 := Lib.hid hw1; have HB1 := Lib.hid hB1; have HZ1 := Lib.hid hz1; have HX := Lib.hid hx; have HRV := Lib.hid hrv; have HRV1 := Lib.hid hrv1; have HSZ := Lib.hid hsz
  clear hw1 hB1 hz1 hx hrv hrv1 hsz
  cases hc : checkB l[k].owner
  · have hr : zn.bad1 l[k] = true := by unfold zn.bad1; rw [hc]; rfl
    have HC := Lib.hid hc; have HR := Lib.hid hr
    clear hc hr
    go_enter Tryz.func49, Tryz.ntmps49
    go_wp2_with fail
    rw [← HW1.out]
    refine (risname_any _ hso _).mono ?_
    rintro e w2 ⟨rfl, hB2⟩
    rw [HC.out]
    have y1 := (hB2.cell (p := ⟨w.heap.size, 1, none⟩) lt1).trans x1
    have y2 := (hB2.cell (p := ⟨w.heap.size, 2, none⟩) lt1).trans x2
    have y3 := (hB2.cell (p := ⟨w.heap.size, 3, none⟩) lt1).trans x3
    have y4 := (hB2.cell (p := ⟨w.heap.size, 4, none⟩) lt1).trans x4
    have HB2 := Lib.hid (HB1.out.trans (hB2.mono HB1.out.size))
    clear hB2
    go_wp2_with fail
    go_ret
    exact ⟨ret_b HR.out.symm, HB2.out⟩
  · by_cases h1 : l[k].cls = 1
    · have b1 : (l[k].cls == 1) = true := by rw [beq_iff_eq]; exact h1
      by_cases h2 : 0 ≤ l[k].ttl
      · by_cases h3 : l[k].ttl ≤ 2147483647
        · have hr : zn.bad1 l[k] = !decide (dt.chkI l[k].typ l[k].data = 0) := by unfold zn.bad1; rw [hc, decide_eq_true h1, decide_eq_true h2, decide_eq_true h3]; rfl
          by_cases h4 : dt.chkI l[k].typ l[k].data = 0
          · rw [decide_eq_true h4] at hr
            have HC := Lib.hid hc; have HR := Lib.hid hr; have H1 := Lib.hid h1; have H4 := Lib.hid h4
            clear hc hr h1 h4
            go_enter Tryz.func49, Tryz.ntmps49
            go_wp2_with fail
            rw [← HW1.out]
            refine (risname_any _ hso _).mono ?_
            rintro e w2 ⟨rfl, hB2⟩
            rw [HC.out]
            have y1 := (hB2.cell (p := ⟨w.heap.size, 1, none⟩) lt1).trans x1
            have y2 := (hB2.cell (p := ⟨w.heap.size, 2, none⟩) lt1).trans x2
            have y3 := (hB2.cell (p := ⟨w.heap.size, 3, none⟩) lt1).trans x3
            have y4 := (hB2.cell (p := ⟨w.heap.size, 4, none⟩) lt1).trans x4
            have HB2 := Lib.hid (HB1.out.trans (hB2.mono HB1.out.size))
            clear hB2
            go_wp2_with fail
            refine (rcheck_any _ _ _).mono ?_
            rintro e w3 ⟨rfl, hB3⟩
            rw [H4.out]
            have HB3 := Lib.hid (HB2.out.trans (hB3.mono HB2.out.size))
            clear hB3
            go_wp2_with fail
            go_ret
            exact ⟨ret_b HR.out.symm, HB3.out⟩
          · rw [decide_eq_false h4] at hr
            have b4 : (dt.chkI l[k].typ l[k].data == 0) = false := by rw [beq_eq_false_iff_ne]; exact h4
            have HC := Lib.hid hc; have HR := Lib.hid hr; have H1 := Lib.hid h1; have H4 := Lib.hid h4
            clear hc hr h1 h4
            go_enter Tryz.func49, Tryz.ntmps49
            go_wp2_with fail
            rw [← HW1.out]
            refine (risname_any _ hso _).mono ?_
            rintro e w2 ⟨rfl, hB2⟩
            rw [HC.out]
            have y1 := (hB2.cell (p := ⟨w.heap.size, 1, none⟩) lt1).trans x1
            have y2 := (hB2.cell (p := ⟨w.heap.size, 2, none⟩) lt1).trans x2
            have y3 := (hB2.cell (p := ⟨w.heap.size, 3, none⟩) lt1).trans x3
            have y4 := (hB2.cell (p := ⟨w.heap.size, 4, none⟩) lt1).trans x4
            have HB2 := Lib.hid (HB1.out.trans (hB2.mono HB1.out.size))
            clear hB2
            go_wp2_with fail
            refine (rcheck_any _ _ _).mono ?_
            rintro e w3 ⟨rfl, hB3⟩
            have HB3 := Lib.hid (HB2.out.trans (hB3.mono HB2.out.size))
            clear hB3
            go_wp2_with fail
            go_ret
            exact ⟨ret_b HR.out.symm, HB3.out⟩
        · have hr : zn.bad1 l[k] = true := by unfold zn.bad1; rw [decide_eq_false h3]; simp
          have h3' : 2147483647 < l[k].ttl := by omega
          have HC := Lib.hid hc; have HR := Lib.hid hr; have H1 := Lib.hid h1
          clear hc hr h1
          go_enter Tryz.func49, Tryz.ntmps49
          go_wp2_with fail
          rw [← HW1.out]
          refine (risname_any _ hso _).mono ?_
          rintro e w2 ⟨rfl, hB2⟩
          rw [HC.out]
          have y1 := (hB2.cell (p := ⟨w.heap.size, 1, none⟩) lt1).trans x1
          have y2 := (hB2.cell (p := ⟨w.heap.size, 2, none⟩) lt1).trans x2
          have y3 := (hB2.cell (p := ⟨w.heap.size, 3, none⟩) lt1).trans x3
          have y4 := (hB2.cell (p := ⟨w.heap.size, 4, none⟩) lt1).trans x4
          have HB2 := Lib.hid (HB1.out.trans (hB2.mono HB1.out.size))
          clear hB2
          go_wp2_with fail
          go_ret
          exact ⟨ret_b HR.out.symm, HB2.out⟩
      · have hr : zn.bad1 l[k] = true := by unfold zn.bad1; rw [decide_eq_false h2]; simp
        have h2' : l[k].ttl < 0 := by omega
        have HC := Lib.hid hc; have HR := Lib.hid hr; have H1 := Lib.hid h1
        clear hc hr h1
        go_enter Tryz.func49, Tryz.ntmps49
        go_wp2_with fail
        rw [← HW1.out]
        refine (risname_any _ hso _).mono ?_
        rintro e w2 ⟨rfl, hB2⟩
        rw [HC.out]
        have y1 := (hB2.cell (p := ⟨w.heap.size, 1, none⟩) lt1).trans x1
        have y2 := (hB2.cell (p := ⟨w.heap.size, 2, none⟩) lt1).trans x2
        have y3 := (hB2.cell (p := ⟨w.heap.size, 3, none⟩) lt1).trans x3
        have y4 := (hB2.cell (p := ⟨w.heap.size, 4, none⟩) lt1).trans x4
        have HB2 := Lib.hid (HB1.out.trans (hB2.mono HB1.out.size))
        clear hB2
        go_wp2_with fail
        go_ret
        exact ⟨ret_b HR.out.symm, HB2.out⟩
    · have b1 : (l[k].cls == 1) = false := by rw [beq_eq_false_iff_ne]; exact h1
      have hr : zn.bad1 l[k] = true := by unfold zn.bad1; rw [decide_eq_false h1]; simp
      have HC := Lib.hid hc; have HR := Lib.hid hr; have H1 := Lib.hid h1
      clear hc hr h1
      go_enter Tryz.func49, Tryz.ntmps49
      go_wp2_with fail
      rw [← HW1.out]
      refine (risname_any _ hso _).mono ?_
      rintro e w2 ⟨rfl, hB2⟩
      rw [HC.out]
      have y1 := (hB2.cell (p := ⟨w.heap.size, 1, none⟩) lt1).trans x1
      have y2 := (hB2.cell (p := ⟨w.heap.size, 2, none⟩) lt1).trans x2
      have y3 := (hB2.cell (p := ⟨w.heap.size, 3, none⟩) lt1).trans x3
      have y4 := (hB2.cell (p := ⟨w.heap.size, 4, none⟩) lt1).trans x4
      have HB2 := Lib.hid (HB1.out.trans (hB2.mono HB1.out.size))
      clear hB2
      go_wp2_with fail
      go_ret
      exact ⟨ret_b HR.out.symm, HB2.out⟩

set_option maxRecDepth 100000 in
set_option maxHeartbeats 1000000 in
theorem rbreaks_3 (apex : ByteArray) (hap : apex.size ≤ 1099511627776) (l : List Rec) (k : Nat) (hk : k < l.length) (_hl : l.length ≤ 2000) (hsz : ∀ r ∈ l, r.owner.size ≤ 1099511627776) (v : Value) (w : World) (hrv : RecsAt w v l) :
    Calls Tryz.prog 49 #[.int .i64 3, .string apex, v, .int .i64 k] w fun e w' => e = .returned (.bool (!withinB l[k].owner apex)) ∧ Below w.heap.size w w' := by
  obtain ⟨b, off, cap, rfl, hcap⟩ := recs_some hrv hk
  obtain ⟨hb, c0, c1, c2, c3, c4⟩ := cells_at hrv hk
  have hki : (k : Int) < (l.length : Int) := by omega
  obtain ⟨w1, hw1⟩ : ∃ W, W = w.alloc (.cells (recC l[k]).toArray 53) := ⟨_, rfl⟩
  obtain ⟨hB1, hz1, hx⟩ := rec_new w w1 l[k] hw1
  have hrv1 := hrv.below hB1
  have lt1 : w.heap.size < w1.heap.size := by omega
  have hso := hsz l[k] (List.getElem_mem hk)
  obtain ⟨x0, x1, x2, x3, x4⟩ := id hx
  have HW1 := Lib.hid hw1; have HB1 := Lib.hid hB1; have HZ1 := Lib.hid hz1; have HX := Lib.hid hx; have HRV := Lib.hid hrv; have HRV1 := Lib.hid hrv1; have HSZ := Lib.hid hsz
  clear hw1 hB1 hz1 hx hrv hrv1 hsz
  go_enter Tryz.func49, Tryz.ntmps49
  go_wp2_with fail
  rw [← HW1.out]
  refine (rwithin_any _ _ hso hap _).mono ?_
  rintro e w2 ⟨rfl, hB2⟩
  have HB2 := Lib.hid (HB1.out.trans (hB2.mono HB1.out.size))
  clear hB2
  go_wp2_with fail
  go_ret
  exact ⟨rfl, HB2.out⟩

set_option maxRecDepth 100000 in
set_option maxHeartbeats 2000000 in
theorem rbreaks_4 (apex : ByteArray) (l : List Rec) (k : Nat) (hk : k < l.length) (hl : l.length ≤ 2000) (hn : zn.Named l) (v : Value) (w : World) (hrv : RecsAt w v l) :
    Calls Tryz.prog 49 #[.int .i64 4, .string apex, v, .int .i64 k] w fun e w' => e = .returned (.bool (zn.twiceB l k)) ∧ Below w.heap.size w w' := by
  have hsz : ∀ r ∈ l, r.owner.size ≤ 1099511627776 := fun r hr => by have := checkB_size (hn r hr); omega
  obtain ⟨b, off, cap, rfl, hcap⟩ := recs_some hrv hk
  obtain ⟨hb, c0, c1, c2, c3, c4⟩ := cells_at hrv hk
  have hki : (k : Int) < (l.length : Int) := by omega
  obtain ⟨w1, hw1⟩ : ∃ W, W = w.alloc (.cells (recC l[k]).toArray 53) := ⟨_, rfl⟩
  obtain ⟨hB1, hz1, hx⟩ := rec_new w w1 l[k] hw1
  have hrv1 := hrv.below hB1
  have lt1 : w.heap.size < w1.heap.size := by omega
  have hso := hsz l[k] (List.getElem_mem hk)
  obtain ⟨x0, x1, x2, x3, x4⟩ := id hx
  have HW1 := Lib.hid hw1; have HB1 := Lib.hid hB1; have HZ1 := Lib.hid hz1; have HX := Lib.hid hx; have HRV := Lib.hid hrv; have HRV1 := Lib.hid hrv1; have HSZ := Lib.hid hsz
  clear hw1 hB1 hz1 hx hrv hrv1 hsz
  have hs1 := HB1.out.size
  have nk := hn _ (List.getElem_mem hk)
  have HN := Lib.hid hn; have NK := Lib.hid nk
  clear hn nk
  clear c0 c1 c2 c3 c4 x0 x1 x2 x3 x4
  obtain ⟨c0, c1, c2, c3, c4⟩ := (cells_at HRV.out hk).2
  go_enter Tryz.func49, Tryz.ntmps49
  go_wp2_with fail
  rw [← HW1.out]
  clear c0 c1 c2 c3 c4
  go_loopw [10] (fun jv wr => ∃ j : Nat, j ≤ k ∧ jv = .int .i64 (j : Int) ∧ (∀ i (hi : i < l.length), i < j → zn.fullR l[i] ≠ zn.fullR l[k]) ∧ Below w1.heap.size w1 wr) (fun jv _ => k - (intOf jv).toNat)
  case atStart => exact ⟨0, Nat.zero_le _, rfl, (fun i hi h => by omega), Below.refl _ _⟩
  case round =>
    obtain ⟨j, hj, rfl, hno, hB⟩ := hrel
    by_cases hlt : j < k
    · have hjl : j < l.length := by omega
      have hji : (j : Int) < (l.length : Int) := by omega
      obtain ⟨hb', ra⟩ := cells_at HRV1.out hjl
      obtain ⟨y0, y1, y2, y3, y4⟩ := ra.keep (hB.block _ hb')
      obtain ⟨x0, x1, x2, x3, x4⟩ := HX.out.keep (hB.block _ lt1)
      have e0 := gw_cell y0
      have e1 := gw_cell y1
      have e2 := gw_cell y2
      have e3 := gw_cell y3
      have e4 := gw_cell y4
      have f0 := gw_cell x0
      have f1 := gw_cell x1
      have f2 := gw_cell x2
      have f3 := gw_cell x3
      have f4 := gw_cell x4
      have nj := HN.out _ (List.getElem_mem hjl)
      have sj := HSZ.out _ (List.getElem_mem hjl)
      have hsr := hB.size
      clear x0 x1 x2 x3 x4 y0 y1 y2 y3 y4
      cases ha : zn.alikeB l[j] l[k]
      · have CP : Hid (∀ g, Calls Tryz.prog 97 #[recV l[j], recV l[k]] (gw wr g) fun e w'' => e = .returned (.bool false) ∧ ∃ g', w'' = gw wr g') := Lib.hid fun g => calls_gw (by rw [← ha]; exact ralike_any _ _ sj hso _)
        have hno2 : ∀ i (hi : i < l.length), i < j + 1 → zn.fullR l[i] ≠ zn.fullR l[k] := fun i hi h => by
          rcases Nat.lt_or_ge i j with h' | h'
          · exact hno i hi h'
          · obtain rfl : i = j := by omega
            intro e
            rw [(zn.alike_full nj NK.out).2 e] at ha
            cases ha
        have HNO := Lib.hid hno; have HB := Lib.hid hB; have HNO2 := Lib.hid hno2; have HA := Lib.hid ha; have NJ := Lib.hid nj
        clear hno hB hno2 ha nj
        go_wp2_with fail
        refine wp_region_gw (by kernel_rfl) (by kernel_rfl) ?_
        repeat (with_reducible refine wpQuiet_step (fun K hK => ?_); go_simp; (try simp only [undef]); first | (with_reducible refine hK _ ?_; clear hK K) | (apply Exists.intro; refine ⟨fun _ => ?_, hK _ ?_⟩; (first | (go_at_call 97; with_reducible exact CP.out _)); clear hK K) | (with_reducible refine ⟨fun _ h => (by cases h), ?_⟩; with_reducible refine hK _ ?_; clear hK K))
        refine wpQuiet_nil ?_
        (try simp only [show Value.tuple #[] = undef from rfl])
        intro W hW
        have hBW : Below wr.heap.size wr W := by obtain ⟨g, rfl⟩ := hW; exact gw_below _ g
        clear hW
        have HBW := Lib.hid (HB.out.trans (hBW.mono hsr))
        clear hBW
        go_wp2_with fail
        go_roundw
        case rel => exact ⟨j + 1, by omega, by go_num, HNO2.out, HBW.out⟩
        case measure => simp [intOf]; omega
      · have CP : Hid (∀ g, Calls Tryz.prog 97 #[recV l[j], recV l[k]] (gw wr g) fun e w'' => e = .returned (.bool true) ∧ ∃ g', w'' = gw wr g') := Lib.hid fun g => calls_gw (by rw [← ha]; exact ralike_any _ _ sj hso _)
        have hres : zn.twiceB l k = true := zn.twice_hit hk hlt ((zn.alike_full nj NK.out).1 ha)
        have HNO := Lib.hid hno; have HB := Lib.hid hB; have HA := Lib.hid ha; have NJ := Lib.hid nj; have HRES := Lib.hid hres
        clear hno hB ha nj hres
        go_wp2_with fail
        refine wp_region_gw (by kernel_rfl) (by kernel_rfl) ?_
        repeat (with_reducible refine wpQuiet_step (fun K hK => ?_); go_simp; (try simp only [undef]); first | (with_reducible refine hK _ ?_; clear hK K) | (apply Exists.intro; refine ⟨fun _ => ?_, hK _ ?_⟩; (first | (go_at_call 97; with_reducible exact CP.out _)); clear hK K) | (with_reducible refine ⟨fun _ h => (by cases h), ?_⟩; with_reducible refine hK _ ?_; clear hK K))
        refine wpQuiet_nil ?_
        (try simp only [show Value.tuple #[] = undef from rfl])
        intro W hW
        have hBW : Below wr.heap.size wr W := by obtain ⟨g, rfl⟩ := hW; exact gw_below _ g
        clear hW
        have HBW := Lib.hid (HB1.out.trans ((HB.out.trans (hBW.mono hsr)).mono hs1))
        clear hBW
        go_wp2_with fail
        go_ret
        exact ⟨ret_b HRES.out.symm, HBW.out⟩
    · obtain rfl : j = k := by omega
      have hres : zn.twiceB l j = false := zn.twice_miss hk hno
      have HBE := Lib.hid (HB1.out.trans (hB.mono hs1))
      have HNO := Lib.hid hno; have HB := Lib.hid hB; have HRES := Lib.hid hres
      clear hno hB hres
      go_wp2_with fail
      go_ret
      exact ⟨ret_b HRES.out.symm, HBE.out⟩

set_option maxRecDepth 100000 in
set_option maxHeartbeats 2000000 in
theorem rbreaks_5 (apex : ByteArray) (hap : apex.size ≤ 1099511627776) (l : List Rec) (k : Nat) (hk : k < l.length) (hl : l.length ≤ 2000) (hn : zn.Named l) (v : Value) (w : World) (hrv : RecsAt w v l) :
    Calls Tryz.prog 49 #[.int .i64 5, .string apex, v, .int .i64 k] w fun e w' => e = .returned (.bool (zn.soaB apex l k)) ∧ Below w.heap.size w w' := by
  have hsz : ∀ r ∈ l, r.owner.size ≤ 1099511627776 := fun r hr => by have := checkB_size (hn r hr); omega
  obtain ⟨b, off, cap, rfl, hcap⟩ := recs_some hrv hk
  obtain ⟨hb, c0, c1, c2, c3, c4⟩ := cells_at hrv hk
  have hki : (k : Int) < (l.length : Int) := by omega
  obtain ⟨w1, hw1⟩ : ∃ W, W = w.alloc (.cells (recC l[k]).toArray 53) := ⟨_, rfl⟩
  obtain ⟨hB1, hz1, hx⟩ := rec_new w w1 l[k] hw1
  have hrv1 := hrv.below hB1
  have lt1 : w.heap.size < w1.heap.size := by omega
  have hso := hsz l[k] (List.getElem_mem hk)
  obtain ⟨x0, x1, x2, x3, x4⟩ := id hx
  have HW1 := Lib.hid hw1; have HB1 := Lib.hid hB1; have HZ1 := Lib.hid hz1; have HX := Lib.hid hx; have HRV := Lib.hid hrv; have HRV1 := Lib.hid hrv1; have HSZ := Lib.hid hsz
  clear hw1 hB1 hz1 hx hrv hrv1 hsz
  have hs1 := HB1.out.size
  by_cases h6 : l[k].typ = 6
  · have b6 : (l[k].typ != 6) = false := by rw [h6]; rfl
    have HN := Lib.hid hn; have H6 := Lib.hid h6
    clear hn h6
    go_enter Tryz.func49, Tryz.ntmps49
    go_wp2_with fail
    rw [← HW1.out]
    clear c0 c1 c2 c3 c4
    go_loop [11] (fun jv => ∃ j : Nat, j ≤ k ∧ jv = .int .i64 (j : Int) ∧ (∀ i (hi : i < l.length), i < j → l[i].typ ≠ 6)) (fun jv => k - (intOf jv).toNat)
    case atStart => exact ⟨0, Nat.zero_le _, rfl, (fun i hi h => by omega)⟩
    case round =>
      obtain ⟨j, hj, rfl, hno⟩ := hrel
      by_cases hlt : j < k
      · have hjl : j < l.length := by omega
        have hji : (j : Int) < (l.length : Int) := by omega
        obtain ⟨hb', y0, y1, y2, y3, y4⟩ := cells_at HRV1.out hjl
        by_cases hj6 : l[j].typ = 6
        · have bj : (l[j].typ == 6) = true := by rw [beq_iff_eq]; exact hj6
          have hres : zn.soaB apex l k = true := zn.soa_hit hk H6.out hlt hj6
          have HNO := Lib.hid hno; have HJ6 := Lib.hid hj6; have HRES := Lib.hid hres
          clear hno hj6 hres
          go_wp2_with fail
          go_ret
          exact ⟨ret_b HRES.out.symm, HB1.out⟩
        · have bj : (l[j].typ == 6) = false := by rw [beq_eq_false_iff_ne]; exact hj6
          have hno2 : ∀ i (hi : i < l.length), i < j + 1 → l[i].typ ≠ 6 := fun i hi h => by
            rcases Nat.lt_or_ge i j with h' | h'
            · exact hno i hi h'
            · obtain rfl : i = j := by omega
              exact hj6
          have HNO := Lib.hid hno; have HJ6 := Lib.hid hj6; have HNO2 := Lib.hid hno2
          clear hno hj6 hno2
          go_wp2_with fail
          go_round
          case rel => exact ⟨j + 1, by omega, by go_num, HNO2.out⟩
          case measure => simp [intOf]; omega
      · obtain rfl : j = k := by omega
        have hres : zn.soaB apex l j = !equalB l[j].owner apex := zn.soa_miss hk H6.out hno
        have HNO := Lib.hid hno; have HRES := Lib.hid hres
        clear hno hres
        go_wp2_with fail
        refine (requal_any _ _ hso hap _).mono ?_
        rintro e w2 ⟨rfl, hB2⟩
        have HB2 := Lib.hid (HB1.out.trans (hB2.mono HB1.out.size))
        clear hB2
        go_wp2_with fail
        go_ret
        exact ⟨ret_b HRES.out.symm, HB2.out⟩
  · have b6 : (l[k].typ != 6) = true := by rw [bne_iff_ne]; exact h6
    have hres : zn.soaB apex l k = false := zn.soa_other hk h6
    have HN := Lib.hid hn; have H6 := Lib.hid h6; have HRES := Lib.hid hres
    clear hn h6 hres
    go_enter Tryz.func49, Tryz.ntmps49
    go_wp2_with fail
    go_ret
    exact ⟨ret_b HRES.out.symm, by rw [← HW1.out]; exact HB1.out⟩
end Go.Proofs.YtpjoaghnciomeaaGreat

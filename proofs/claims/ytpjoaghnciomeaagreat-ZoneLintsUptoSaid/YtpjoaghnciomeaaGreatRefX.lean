/-
  The reference's zone: breaks, rule 10.
-/
import Derived.Test.YtpjoaghnciomeaaGreatRefV
namespace Go.Proofs.YtpjoaghnciomeaaGreat
open Go.RowKit Go.Shelf Go.Proofs.YtpjoaghnciomeaaGreat.nm Go.Proofs.YtpjoaghnciomeaaGreat.od








set_option maxRecDepth 100000 in
set_option maxHeartbeats 4000000 in
theorem rbreaks_10 (apex : ByteArray) (l : List Rec) (k : Nat) (hk : k < l.length) (hl : l.length ≤ 2000) (hn : zn.Named l) (v : Value) (w : World) (hrv : RecsAt w v l) :
    Calls Tryz.prog 49 #[.int .i64 10, .string apex, v, .int .i64 k] w fun e w' => e = .returned (.bool (zn.bad6 (zn.rowsS l) l[k])) ∧ Below w.heap.size w w' := by
  have hsz : ∀ r ∈ l, r.owner.size ≤ 1099511627776 := fun r hr => by have := checkB_size (hn r hr); omega
  obtain ⟨b, off, cap, rfl, hcap⟩ := recs_some hrv hk
  obtain ⟨hb, c0, c1, c2, c3, c4⟩ := cells_at hrv hk
  have hki : (k : Int) < (l.length : Int) := by omega
  obtain ⟨w1, hw1⟩ : ∃ W, W = w.alloc (.cells (recC l[k]).toArray 53) := ⟨_, rfl⟩
  obtain ⟨hB1, hz1, hx⟩ := rec_new w w1 l[k] hw1
  have hrv1 := hrv.below hB1
  have lt1 : w.heap.size < w1.heap.size := by omega
  have hso := hsz l[k] (List.getElem_mem hk)
  obtain ⟨x0, x1, x2, x3, x4⟩ := id hx
  have HW1 := Lib.hid hw1; have HB1 := Lib.hid hB1; have HZ1 := Lib.hid hz1; have HX := Lib.hid hx; have HRV := Lib.hid hrv; have HRV1 := Lib.hid hrv1; have HSZ := Lib.hid hsz
  clear hw1 hB1 hz1 hx hrv hrv1 hsz
  have hs1 := HB1.out.size
  have HN := Lib.hid hn
  clear hn
  go_enter Tryz.func49, Tryz.ntmps49
  go_wp2_with fail
  rw [← HW1.out]
  clear c0 c1 c2 c3 c4 x0 x1 x2 x3 x4
  go_loopw [15] (fun jv wr => ∃ j : Nat, j ≤ k ∧ jv = .int .i64 (j : Int) ∧ (l[k].typ ≠ 46 → ∀ i (hi : i < l.length), i < j → zn.keyR l[i] ≠ zn.keyR l[k]) ∧ Below w1.heap.size w1 wr) (fun jv _ => k - (intOf jv).toNat)
  case atStart => exact ⟨0, Nat.zero_le _, rfl, (fun _ i hi h => by omega), Below.refl _ _⟩
  case round =>
    obtain ⟨j, hj, rfl, hno, hB⟩ := hrel
    by_cases hlt : j < k
    · have hjl : j < l.length := by omega
      have hji : (j : Int) < (l.length : Int) := by omega
      obtain ⟨hb', ra⟩ := cells_at HRV1.out hjl
      obtain ⟨y0, y1, y2, y3, y4⟩ := ra.keep (hB.block _ hb')
      obtain ⟨x0, x1, x2, x3, x4⟩ := HX.out.keep (hB.block _ lt1)
      have e0 := gw_cell y0
      have e1 := gw_cell y1
      have e3 := gw_cell y3
      have f0 := gw_cell x0
      have f1 := gw_cell x1
      have f3 := gw_cell x3
      have sj := HSZ.out _ (List.getElem_mem hjl)
      have hsr := hB.size
      clear x0 x1 x2 x3 x4 y0 y1 y2 y3 y4
      have nj := HN.out _ (List.getElem_mem hjl)
      have nk := HN.out _ (List.getElem_mem hk)
      have hkey := zn.key_iff nj nk
      have hnx : (l[k].typ ≠ 46 → zn.keyR l[j] ≠ zn.keyR l[k]) → l[k].typ ≠ 46 → ∀ i (hi : i < l.length), i < j + 1 → zn.keyR l[i] ≠ zn.keyR l[k] := fun h9 h46 i hi h => by
        rcases Nat.lt_or_ge i j with h' | h'
        · exact hno h46 i hi h'
        · obtain rfl : i = j := by omega
          exact h9 h46
      by_cases h46 : l[k].typ = 46
      · have b46 : (l[k].typ != 46) = false := by rw [h46]; rfl
        have hno2 := hnx (fun h => absurd h46 h)
        clear nj nk hkey
        have H46 := Lib.hid h46; have HNO := Lib.hid hno; have HB := Lib.hid hB; have HNO2 := Lib.hid hno2
        clear h46 hno hB hno2
        clear hnx
        go_wp2_with fail
        refine wp_region_gw (by kernel_rfl) (by kernel_rfl) ?_
        repeat (with_reducible refine wpQuiet_step (fun K hK => ?_); go_simp; (try simp only [undef]); first | (with_reducible refine hK _ ?_; clear hK K) | (apply Exists.intro; refine ⟨fun _ => ?_, hK _ ?_⟩; (first | (fail)); clear hK K) | (with_reducible refine ⟨fun _ h => (by cases h), ?_⟩; with_reducible refine hK _ ?_; clear hK K))
        refine wpQuiet_nil ?_
        (try simp only [show Value.tuple #[] = undef from rfl])
        intro W hW
        have hBW : Below wr.heap.size wr W := by obtain ⟨g, rfl⟩ := hW; exact gw_below _ g
        clear hW
        have HBW := Lib.hid (HB.out.trans (hBW.mono hsr))
        clear hBW
        go_wp2_with fail
        go_roundw
        case rel => exact ⟨j + 1, by omega, by go_num, HNO2.out, HBW.out⟩
        case measure => simp [intOf]; omega
      · have b46 : (l[k].typ != 46) = true := by rw [bne_iff_ne]; exact h46
        by_cases ht : l[j].typ = l[k].typ
        · have bt : (l[j].typ == l[k].typ) = true := by rw [beq_iff_eq]; exact ht
          cases he : equalB l[j].owner l[k].owner
          · have hno2 := hnx (fun _ h => by
              have := (hkey.1 h).2
              rw [he] at this
              cases this)
            have CE : Hid (∀ g, Calls Tryz.prog 60 #[.string l[j].owner, .string l[k].owner] (gw wr g) fun e w'' => e = .returned (.bool false) ∧ ∃ g', w'' = gw wr g') := Lib.hid fun g => calls_gw (by rw [← he]; exact requal_any _ _ sj hso _)
            clear nj nk hkey
            have H46 := Lib.hid h46; have HNO := Lib.hid hno; have HB := Lib.hid hB; have HNO2 := Lib.hid hno2; have HT := Lib.hid ht; have HE := Lib.hid he
            clear h46 hno hB hno2 ht he
            clear hnx
            go_wp2_with fail
            refine wp_region_gw (by kernel_rfl) (by kernel_rfl) ?_
            repeat (with_reducible refine wpQuiet_step (fun K hK => ?_); go_simp; (try simp only [undef]); first | (with_reducible refine hK _ ?_; clear hK K) | (apply Exists.intro; refine ⟨fun _ => ?_, hK _ ?_⟩; (first | (go_at_call 60; with_reducible exact CE.out _)); clear hK K) | (with_reducible refine ⟨fun _ h => (by cases h), ?_⟩; with_reducible refine hK _ ?_; clear hK K))
            refine wpQuiet_nil ?_
            (try simp only [show Value.tuple #[] = undef from rfl])
            intro W hW
            have hBW : Below wr.heap.size wr W := by obtain ⟨g, rfl⟩ := hW; exact gw_below _ g
            clear hW
            have HBW := Lib.hid (HB.out.trans (hBW.mono hsr))
            clear hBW
            go_wp2_with fail
            go_roundw
            case rel => exact ⟨j + 1, by omega, by go_num, HNO2.out, HBW.out⟩
            case measure => simp [intOf]; omega
          · have hres : zn.bad6 (zn.rowsS l) l[k] = decide (l[j].ttl ≠ l[k].ttl) := zn.bad6_hit hk hjl h46 (hkey.2 ⟨ht, he⟩) (hno h46)
            have CE : Hid (∀ g, Calls Tryz.prog 60 #[.string l[j].owner, .string l[k].owner] (gw wr g) fun e w'' => e = .returned (.bool true) ∧ ∃ g', w'' = gw wr g') := Lib.hid fun g => calls_gw (by rw [← he]; exact requal_any _ _ sj hso _)
            clear nj nk hkey
            have H46 := Lib.hid h46; have HNO := Lib.hid hno; have HB := Lib.hid hB; have HT := Lib.hid ht; have HE := Lib.hid he; have HRES := Lib.hid hres
            clear h46 hno hB ht he hres
            clear hnx
            go_wp2_with fail
            refine wp_region_gw (by kernel_rfl) (by kernel_rfl) ?_
            repeat (with_reducible refine wpQuiet_step (fun K hK => ?_); go_simp; (try simp only [undef]); first | (with_reducible refine hK _ ?_; clear hK K) | (apply Exists.intro; refine ⟨fun _ => ?_, hK _ ?_⟩; (first | (go_at_call 60; with_reducible exact CE.out _)); clear hK K) | (with_reducible refine ⟨fun _ h => (by cases h), ?_⟩; with_reducible refine hK _ ?_; clear hK K))
            refine wpQuiet_nil ?_
            (try simp only [show Value.tuple #[] = undef from rfl])
            intro W hW
            have hBW : Below wr.heap.size wr W := by obtain ⟨g, rfl⟩ := hW; exact gw_below _ g
            clear hW
            have HBW := Lib.hid (HB.out.trans (hBW.mono hsr))
            clear hBW
            obtain ⟨y0, y1, y2, y3, y4⟩ := (cells_at HRV1.out hjl).2.keep (HBW.out.block _ hb')
            obtain ⟨x0, x1, x2, x3, x4⟩ := HX.out.keep (HBW.out.block _ lt1)
            have g3 := gw_cell y3
            have g4 := gw_cell x3
            clear x0 x1 x2 x3 x4 y0 y1 y2 y3 y4 e0 e1 e3 f0 f1 f3
            go_wp2_with fail
            refine wp_region_gw (by kernel_rfl) (by kernel_rfl) ?_
            repeat (with_reducible refine wpQuiet_step (fun K hK => ?_); go_simp; (try simp only [undef]); first | (with_reducible refine hK _ ?_; clear hK K))
            refine wpQuiet_nil ?_
            (try simp only [show Value.tuple #[] = undef from rfl])
            intro W2 hW2
            have hBW2 : Below W.heap.size W W2 := by obtain ⟨g, rfl⟩ := hW2; exact gw_below _ g
            clear hW2
            have HBW2 := Lib.hid (HB1.out.trans ((HBW.out.trans (hBW2.mono HBW.out.size)).mono hs1))
            clear hBW2
            go_wp2_with fail
            go_ret
            exact ⟨ret_b (by rw [HRES.out]; by_cases h : l[j].ttl = l[k].ttl <;> simp [h]), HBW2.out⟩
        · have bt : (l[j].typ == l[k].typ) = false := by rw [beq_eq_false_iff_ne]; exact ht
          have hno2 := hnx (fun _ h => ht (hkey.1 h).1)
          clear nj nk hkey
          have H46 := Lib.hid h46; have HNO := Lib.hid hno; have HB := Lib.hid hB; have HNO2 := Lib.hid hno2; have HT := Lib.hid ht
          clear h46 hno hB hno2 ht
          clear hnx
          go_wp2_with fail
          refine wp_region_gw (by kernel_rfl) (by kernel_rfl) ?_
          repeat (with_reducible refine wpQuiet_step (fun K hK => ?_); go_simp; (try simp only [undef]); first | (with_reducible refine hK _ ?_; clear hK K) | (apply Exists.intro; refine ⟨fun _ => ?_, hK _ ?_⟩; (first | (fail)); clear hK K) | (with_reducible refine ⟨fun _ h => (by cases h), ?_⟩; with_reducible refine hK _ ?_; clear hK K))
          refine wpQuiet_nil ?_
          (try simp only [show Value.tuple #[] = undef from rfl])
          intro W hW
          have hBW : Below wr.heap.size wr W := by obtain ⟨g, rfl⟩ := hW; exact gw_below _ g
          clear hW
          have HBW := Lib.hid (HB.out.trans (hBW.mono hsr))
          clear hBW
          go_wp2_with fail
          go_roundw
          case rel => exact ⟨j + 1, by omega, by go_num, HNO2.out, HBW.out⟩
          case measure => simp [intOf]; omega
    · obtain rfl : j = k := by omega
      have hres : zn.bad6 (zn.rowsS l) l[j] = false := by
        by_cases h46 : l[j].typ = 46
        · exact zn.bad6_sig h46
        · exact zn.bad6_miss hk (hno h46)
      have HBE := Lib.hid (HB1.out.trans (hB.mono hs1))
      have HNO := Lib.hid hno; have HB := Lib.hid hB; have HRES := Lib.hid hres
      clear hno hB hres
      go_wp2_with fail
      go_ret
      exact ⟨ret_b HRES.out.symm, HBE.out⟩
end Go.Proofs.YtpjoaghnciomeaaGreat

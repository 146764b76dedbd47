import Derived.Test.YtdjjemajfphjaaaGreatQRefW
namespace Go.Proofs.YtdjjemajfphjaaaGreat
open Go.RowKit Go.Shelf Go.Proofs.YtdjjemajfphjaaaGreat.nm Go.Proofs.YtdjjemajfphjaaaGreat.od
set_option maxRecDepth 100000 in
set_option maxHeartbeats 4000000 in
theorem rbreaks_10 (apex : ByteArray) (l : List Rec) (k : Nat) (hk : k < l.length) (hl : l.length ≤ 2000) (hn : zn.Named l) (v : Value) (w : World) (hrv : RecsAt w v l) :
    Calls Tryz.prog 62 #[.int .i64 10, .string apex, v, .int .i64 k] w fun e w' => e = .returned (.bool (zn.bad6 (zn.rowsS l) l[k])) ∧ Below w.heap.size w w' := by
  have hsz : ∀ r ∈ l, r.owner.size ≤ 1099511627776 := fun r hr => by have := checkB_size (hn r hr); omega
  obtain ⟨b, off, cap, rfl, hcap⟩ := recs_some hrv hk
  obtain ⟨hb, c0, c1, c2, c3, c4⟩ := cells_at hrv hk
  have hki : (k : Int) < (l.length : Int) := by omega
  obtain ⟨w1, hw1⟩ : ∃ W, W = w.alloc (.cells (recC l[k]).toArray 51) := ⟨_, rfl⟩
  obtain ⟨hB1, hz1, hx⟩ := rec_new w w1 l[k] hw1
  have hrv1 := hrv.below hB1
  have lt1 : w.heap.size < w1.heap.size := by omega
  have hso := hsz l[k] (List.getElem_mem hk)
  obtain ⟨x0, x1, x2, x3, x4⟩ := id hx
  have HW1 := Lib.hid hw1; have HB1 := Lib.hid hB1; have HZ1 := Lib.hid hz1; have HX := Lib.hid hx; have HRV := Lib.hid hrv; have HRV1 := Lib.hid hrv1; have HSZ := Lib.hid hsz
  clear hw1 hB1 hz1 hx hrv hrv1 hsz
  have hs1 := HB1.out.size
  have HN := Lib.hid hn
  clear hn
  go_enter Tryz.func62, Tryz.ntmps62
  go_wp2_with fail
  rw [← HW1.out]
  clear c0 c1 c2 c3 c4 x0 x1 x2 x3 x4
  go_loopw [15] (fun jv wr => ∃ j : Nat, j ≤ k ∧ jv = .int .i64 (j : Int) ∧ (l[k].typ ≠ 46 → ∀ i (hi : i < l.length), i < j → zn.keyR l[i] ≠ zn.keyR l[k]) ∧ Below w1.heap.size w1 wr) (fun jv _ => k - (intOf jv).toNat)
  case atStart => exact ⟨0, Nat.zero_le _, rfl, (fun _ i hi h => by omega), Below.refl _ _⟩
  case round =>
    obtain ⟨j, hj, rfl, hno, hB⟩ := hrel
    by_cases hlt : j < k
    · have hjl : j < l.length := by omega
      have hji : (j : Int) < (l.length : Int) := by omega
      obtain ⟨hb', ra⟩ := cells_at HRV1.out hjl
      obtain ⟨y0, y1, y2, y3, y4⟩ := ra.keep (hB.block _ hb')
      obtain ⟨x0, x1, x2, x3, x4⟩ := HX.out.keep (hB.block _ lt1)
      have e0 := gw_cell y0
      have e1 := gw_cell y1
      have e3 := gw_cell y3
      have f0 := gw_cell x0
      have f1 := gw_cell x1
      have f3 := gw_cell x3
      have sj := HSZ.out _ (List.getElem_mem hjl)
      have hsr := hB.size
      clear x0 x1 x2 x3 x4 y0 y1 y2 y3 y4
      have nj := HN.out _ (List.getElem_mem hjl)
      have nk := HN.out _ (List.getElem_mem hk)
      have hkey := zn.key_iff nj nk
      have hnx : (l[k].typ ≠ 46 → zn.keyR l[j] ≠ zn.keyR l[k]) → l[k].typ ≠ 46 → ∀ i (hi : i < l.length), i < j + 1 → zn.keyR l[i] ≠ zn.keyR l[k] := fun h9 h46 i hi h => by
        rcases Nat.lt_or_ge i j with h' | h'
        · exact hno h46 i hi h'
        · obtain rfl : i = j := by omega
          exact h9 h46
      by_cases h46 : l[k].typ = 46
      · have b46 : (l[k].typ != 46) = false := by rw [h46]; rfl
        have hno2 := hnx (fun h => absurd h46 h)
        clear nj nk hkey
        have H46 := Lib.hid h46; have HNO := Lib.hid hno; have HB := Lib.hid hB; have HNO2 := Lib.hid hno2
        clear h46 hno hB hno2
        clear hnx
        go_wp2_with fail
        refine wp_region_gw (by kernel_rfl) (by kernel_rfl) ?_
        repeat (with_reducible refine wpQuiet_step (fun K hK => ?_); go_simp; (try simp only [undef]); first | (with_reducible refine hK _ ?_; clear hK K) | (apply Exists.intro; refine ⟨fun _ => ?_, hK _ ?_⟩; (first | (fail)); clear hK K) | (with_reducible refine ⟨fun _ h => (by cases h), ?_⟩; with_reducible refine hK _ ?_; clear hK K))
        refine wpQuiet_nil ?_
        (try simp only [show Value.tuple #[] = undef from rfl])
        intro W hW
        have hBW : Below wr.heap.size wr W := by obtain ⟨g, rfl⟩ := hW; exact gw_below _ g
        clear hW
        have HBW := Lib.hid (HB.out.trans (hBW.mono hsr))
        clear hBW
        go_wp2_with fail
        go_roundw
        case rel => exact ⟨j + 1, by omega, by go_num, HNO2.out, HBW.out⟩
        case measure => simp [intOf]; omega
      · have b46 : (l[k].typ != 46) = true := by rw [bne_iff_ne]; exact h46
        by_cases ht : l[j].typ = l[k].typ
        · have bt : (l[j].typ == l[k].typ) = true := by rw [beq_iff_eq]; exact ht
          cases he : equalB l[j].owner l[k].owner
          · have hno2 := hnx (fun _ h => by
              have := (hkey.1 h).2
              rw [he] at this
              cases this)
            have CE : Hid (∀ g, Calls Tryz.prog 35 #[.string l[j].owner, .string l[k].owner] (gw wr g) fun e w'' => e = .returned (.bool false) ∧ ∃ g', w'' = gw wr g') := Lib.hid fun g => calls_gw (by rw [← he]; exact requal_any _ _ sj hso _)
            clear nj nk hkey
            have H46 := Lib.hid h46; have HNO := Lib.hid hno; have HB := Lib.hid hB; have HNO2 := Lib.hid hno2; have HT := Lib.hid ht; have HE := Lib.hid he
            clear h46 hno hB hno2 ht he
            clear hnx
            go_wp2_with fail
            refine wp_region_gw (by kernel_rfl) (by kernel_rfl) ?_
            repeat (with_reducible refine wpQuiet_step (fun K hK => ?_); go_simp; (try simp only [undef]); first | (with_reducible refine hK _ ?_; clear hK K) | (apply Exists.intro; refine ⟨fun _ => ?_, hK _ ?_⟩; (first | (go_at_call 35; with_reducible exact CE.out _)); clear hK K) | (with_reducible refine ⟨fun _ h => (by cases h), ?_⟩; with_reducible refine hK _ ?_; clear hK K))
            refine wpQuiet_nil ?_
            (try simp only [show Value.tuple #[] = undef from rfl])
            intro W hW
            have hBW : Below wr.heap.size wr W := by obtain ⟨g, rfl⟩ := hW; exact gw_below _ g
            clear hW
            have HBW := Lib.hid (HB.out.trans (hBW.mono hsr))
            clear hBW
            go_wp2_with fail
            go_roundw
            case rel => exact ⟨j + 1, by omega, by go_num, HNO2.out, HBW.out⟩
            case measure => simp [intOf]; omega
          · have hres : zn.bad6 (zn.rowsS l) l[k] = decide (l[j].ttl ≠ l[k].ttl) := zn.bad6_hit hk hjl h46 (hkey.2 ⟨ht, he⟩) (hno h46)
            have CE : Hid (∀ g, Calls Tryz.prog 35 #[.string l[j].owner, .string l[k].owner] (gw wr g) fun e w'' => e = .returned (.bool true) ∧ ∃ g', w'' = gw wr g') := Lib.hid fun g => calls_gw (by rw [← he]; exact requal_any _ _ sj hso _)
            clear nj nk hkey
            have H46 := Lib.hid h46; have HNO := Lib.hid hno; have HB := Lib.hid hB; have HT := Lib.hid ht; have HE := Lib.hid he; have HRES := Lib.hid hres
            clear h46 hno hB ht he hres
            clear hnx
            go_wp2_with fail
            refine wp_region_gw (by kernel_rfl) (by kernel_rfl) ?_
            repeat (with_reducible refine wpQuiet_step (fun K hK => ?_); go_simp; (try simp only [undef]); first | (with_reducible refine hK _ ?_; clear hK K) | (apply Exists.intro; refine ⟨fun _ => ?_, hK _ ?_⟩; (first | (go_at_call 35; with_reducible exact CE.out _)); clear hK K) | (with_reducible refine ⟨fun _ h => (by cases h), ?_⟩; with_reducible refine hK _ ?_; clear hK K))
            refine wpQuiet_nil ?_
            (try simp only [show Value.tuple #[] = undef from rfl])
            intro W hW
            have hBW : Below wr.heap.size wr W := by obtain ⟨g, rfl⟩ := hW; exact gw_below _ g
            clear hW
            have HBW := Lib.hid (HB.out.trans (hBW.mono hsr))
            clear hBW
            obtain ⟨y0, y1, y2, y3, y4⟩ := (cells_at HRV1.out hjl).2.keep (HBW.out.block _ hb')
            obtain ⟨x0, x1, x2, x3, x4⟩ := HX.out.keep (HBW.out.block _ lt1)
            have g3 := gw_cell y3
            have g4 := gw_cell x3
            clear x0 x1 x2 x3 x4 y0 y1 y2 y3 y4 e0 e1 e3 f0 f1 f3
            go_wp2_with fail
            refine wp_region_gw (by kernel_rfl) (by kernel_rfl) ?_
            repeat (with_reducible refine wpQuiet_step (fun K hK => ?_); go_simp; (try simp only [undef]); first | (with_reducible refine hK _ ?_; clear hK K))
            refine wpQuiet_nil ?_
            (try simp only [show Value.tuple #[] = undef from rfl])
            intro W2 hW2
            have hBW2 : Below W.heap.size W W2 := by obtain ⟨g, rfl⟩ := hW2; exact gw_below _ g
            clear hW2
            have HBW2 := Lib.hid (HB1.out.trans ((HBW.out.trans (hBW2.mono HBW.out.size)).mono hs1))
            clear hBW2
            go_wp2_with fail
            go_ret
            exact ⟨ret_b (by rw [HRES.out]; by_cases h : l[j].ttl = l[k].ttl <;> simp [h]), HBW2.out⟩
        · have bt : (l[j].typ == l[k].typ) = false := by rw [beq_eq_false_iff_ne]; exact ht
          have hno2 := hnx (fun _ h => ht (hkey.1 h).1)
          clear nj nk hkey
          have H46 := Lib.hid h46; have HNO := Lib.hid hno; have HB := Lib.hid hB; have HNO2 := Lib.hid hno2; have HT := Lib.hid ht
          clear h46 hno hB hno2 ht
          clear hnx
          go_wp2_with fail
          refine wp_region_gw (by kernel_rfl) (by kernel_rfl) ?_
          repeat (with_reducible refine wpQuiet_step (fun K hK => ?_); go_simp; (try simp only [undef]); first | (with_reducible refine hK _ ?_; clear hK K) | (apply Exists.intro; refine ⟨fun _ => ?_, hK _ ?_⟩; (first | (fail)); clear hK K) | (with_reducible refine ⟨fun _ h => (by cases h), ?_⟩; with_reducible refine hK _ ?_; clear hK K))
          refine wpQuiet_nil ?_
          (try simp only [show Value.tuple #[] = undef from rfl])
          intro W hW
          have hBW : Below wr.heap.size wr W := by obtain ⟨g, rfl⟩ := hW; exact gw_below _ g
          clear hW
          have HBW := Lib.hid (HB.out.trans (hBW.mono hsr))
          clear hBW
          go_wp2_with fail
          go_roundw
          case rel => exact ⟨j + 1, by omega, by go_num, HNO2.out, HBW.out⟩
          case measure => simp [intOf]; omega
    · obtain rfl : j = k := by omega
      have hres : zn.bad6 (zn.rowsS l) l[j] = false := by
        by_cases h46 : l[j].typ = 46
        · exact zn.bad6_sig h46
        · exact zn.bad6_miss hk (hno h46)
      have HBE := Lib.hid (HB1.out.trans (hB.mono hs1))
      have HNO := Lib.hid hno; have HB := Lib.hid hB; have HRES := Lib.hid hres
      clear hno hB hres
      go_wp2_with fail
      go_ret
      exact ⟨ret_b HRES.out.symm, HBE.out⟩
end Go.Proofs.YtdjjemajfphjaaaGreat
namespace Go.Proofs.YtdjjemajfphjaaaGreat
open Go.RowKit Go.Shelf Go.Proofs.YtdjjemajfphjaaaGreat.nm Go.Proofs.YtdjjemajfphjaaaGreat.od
namespace zn
def brkR (apex : ByteArray) (l : List Rec) (r k : Nat) : Bool :=
  if r = 2 then atB l bad1 k else if r = 3 then atB l (fun x => !withinB x.owner apex) k else if r = 4 then twiceB l k else if r = 5 then soaB apex l k
  else if r = 6 then false else if r = 7 then atB l bad3 k else if r = 8 then atB l (bad4 (allF l)) k else if r = 9 then atB l (bad5 (foldS apex) (rowsS l) (belowF l)) k else atB l (bad6 (rowsS l)) k
def codeR (r : Nat) : Int := if r = 2 then 8 else if r = 3 then 5 else if r = 4 then 19 else if r = 5 then 15 else if r = 7 then 22 else if r = 8 then 17 else if r = 9 then 18 else if r = 10 then 21 else 0
def chainR (apex : ByteArray) (l : List Rec) : Nat → Nat → Option (Int × Int)
  | 0, _ => none
  | f + 1, r => match firstB (brkR apex l r) l.length with
    | some k => some (k, codeR r)
    | none => if r = 5 ∧ hasB l apex 6 = false then some (-1, 15) else if r = 6 ∧ hasB l apex 2 = false then some (-1, 16) else chainR apex l f (r + 1)
theorem has_rows {l : List Rec} {n : ByteArray} (hn : Named l) (hc : checkB n = true) (t : Int) : hasB l n t = true ↔ rowsS l (foldS n, t) ≠ [] := by
  unfold hasB
  rw [List.any_eq_true]
  constructor
  · rintro ⟨r, hr, h⟩ e
    simp only [Bool.and_eq_true, decide_eq_true_eq] at h
    have := (equal_fold (hn r hr) hc).1 h.2
    have hm : r ∈ rowsS l (foldS n, t) := mem_rowsS.2 ⟨hr, by unfold keyR; rw [this, h.1]⟩
    rw [e] at hm
    simp at hm
  · intro h
    obtain ⟨r, hr⟩ := List.exists_mem_of_ne_nil _ h
    obtain ⟨h1, h2⟩ := mem_rowsS.1 hr
    unfold keyR at h2
    simp only [Prod.mk.injEq] at h2
    exact ⟨r, h1, by rw [decide_eq_true h2.2, (equal_fold (hn r h1) hc).2 h2.1]; rfl⟩
theorem has_soa {l : List Rec} {apex : ByteArray} (h : firstB (soaB apex l) l.length = none) : hasB l apex 6 = false ↔ soaC l = 0 := by
  rw [soaC_zero, Bool.eq_false_iff]
  unfold hasB
  rw [ne_eq, List.any_eq_true]
  constructor
  · intro hh r hr h6
    exact hh ⟨r, hr, by rw [decide_eq_true h6, (soa_iff.1 h).2 r hr h6]; rfl⟩
  · rintro hh ⟨r, hr, h2⟩
    simp only [Bool.and_eq_true, decide_eq_true_eq] at h2
    exact hh r hr h2.1
theorem firstB_false (n : Nat) : firstB (fun _ => false) n = none := firstB_none fun _ _ => rfl
theorem chain_some {apex : ByteArray} {l : List Rec} {f r k : Nat} (h : firstB (brkR apex l r) l.length = some k) : chainR apex l (f + 1) r = some ((k : Int), codeR r) := by
  rw [chainR, h]
theorem chain_none {apex : ByteArray} {l : List Rec} {f r : Nat} (h : firstB (brkR apex l r) l.length = none) : chainR apex l (f + 1) r = if r = 5 ∧ hasB l apex 6 = false then some (-1, 15) else if r = 6 ∧ hasB l apex 2 = false then some (-1, 16) else chainR apex l f (r + 1) := by
  rw [chainR, h]
theorem chain_newE {apex : ByteArray} {l : List Rec} (hc : checkB apex = true) (hl : ¬ 2000 < l.length) : newE apex l = chainR apex l 9 2 := by
  have e2 : brkR apex l 2 = atB l bad1 := rfl
  have e3 : brkR apex l 3 = atB l (fun x => !withinB x.owner apex) := rfl
  have e4 : brkR apex l 4 = twiceB l := rfl
  have e5 : brkR apex l 5 = soaB apex l := rfl
  have e6 : brkR apex l 6 = fun _ => false := rfl
  have e7 : brkR apex l 7 = atB l bad3 := rfl
  have e8 : brkR apex l 8 = atB l (bad4 (allF l)) := rfl
  have e9 : brkR apex l 9 = atB l (bad5 (foldS apex) (rowsS l) (belowF l)) := rfl
  have e10 : brkR apex l 10 = atB l (bad6 (rowsS l)) := rfl
  unfold newE
  rw [if_neg (by rw [hc]; simp), if_neg hl]
  unfold plainR
  cases h2 : firstB (atB l bad1) l.length with
  | some k => rw [chain_some (f := 8) (r := 2) (by rw [e2]; exact h2)]; rfl
  | none =>
    have hn : Named l := fun r hr => by
      have := at_iff.1 h2 r hr
      unfold bad1 at this
      cases hh : checkB r.owner
      · rw [hh] at this; simp at this
      · rfl
    rw [chain_none (f := 8) (r := 2) (by rw [e2]; exact h2)]
    simp only [show ¬ (2 = 5 ∧ hasB l apex 6 = false) from fun h => by omega, show ¬ (2 = 6 ∧ hasB l apex 2 = false) from fun h => by omega, if_false]
    cases h3 : firstB (atB l fun r => !withinB r.owner apex) l.length with
    | some k => rw [chain_some (f := 7) (r := 3) (by rw [e3]; exact h3)]; rfl
    | none =>
      rw [chain_none (f := 7) (r := 3) (by rw [e3]; exact h3)]
      simp only [show ¬ (3 = 5 ∧ hasB l apex 6 = false) from fun h => by omega, show ¬ (3 = 6 ∧ hasB l apex 2 = false) from fun h => by omega, if_false]
      unfold rulesR
      cases h4 : firstB (twiceB l) l.length with
      | some k => rw [chain_some (f := 6) (r := 4) (by rw [e4]; exact h4)]; rfl
      | none =>
        rw [chain_none (f := 6) (r := 4) (by rw [e4]; exact h4)]
        simp only [show ¬ (4 = 5 ∧ hasB l apex 6 = false) from fun h => by omega, show ¬ (4 = 6 ∧ hasB l apex 2 = false) from fun h => by omega, if_false]
        cases h5 : firstB (soaB apex l) l.length with
        | some k => rw [chain_some (f := 5) (r := 5) (by rw [e5]; exact h5)]; rfl
        | none =>
          rw [chain_none (f := 5) (r := 5) (by rw [e5]; exact h5)]
          simp only
          by_cases s0 : soaC l = 0
          · rw [if_pos s0, if_pos ⟨by trivial, (has_soa h5).2 s0⟩]
          · have q56 : ¬ (5 = 6 ∧ hasB l apex 2 = false) := fun h => by omega
            have q65 : ¬ (6 = 5 ∧ hasB l apex 6 = false) := fun h => by omega
            have q5 : ¬ (True ∧ hasB l apex 6 = false) := fun h => s0 ((has_soa h5).1 h.2)
            rw [if_neg s0, if_neg q5, if_neg q56, chain_none (f := 4) (r := 6) (by rw [e6]; exact firstB_false _), if_neg q65]
            by_cases n0 : (rowsS l (foldS apex, 2)).length = 0
            · have : hasB l apex 2 = false := by
                rw [Bool.eq_false_iff]
                intro h
                exact (has_rows hn hc 2).1 h (List.eq_nil_of_length_eq_zero n0)
              rw [if_pos n0, if_pos ⟨by trivial, this⟩]
            · have : ¬ hasB l apex 2 = false := by
                intro h
                have h2 := (has_rows hn hc 2).2 (fun e => n0 (by rw [e]; rfl))
                rw [h] at h2
                cases h2
              rw [if_neg n0, if_neg (fun h => this h.2)]
              cases h7 : firstB (atB l bad3) l.length with
              | some k => rw [chain_some (f := 3) (r := 7) (by rw [e7]; exact h7)]; rfl
              | none =>
                rw [chain_none (f := 3) (r := 7) (by rw [e7]; exact h7)]
                simp only [show ¬ (7 = 5 ∧ hasB l apex 6 = false) from fun h => by omega, show ¬ (7 = 6 ∧ hasB l apex 2 = false) from fun h => by omega, if_false]
                cases h8 : firstB (atB l (bad4 (allF l))) l.length with
                | some k => rw [chain_some (f := 2) (r := 8) (by rw [e8]; exact h8)]; rfl
                | none =>
                  rw [chain_none (f := 2) (r := 8) (by rw [e8]; exact h8)]
                  simp only [show ¬ (8 = 5 ∧ hasB l apex 6 = false) from fun h => by omega, show ¬ (8 = 6 ∧ hasB l apex 2 = false) from fun h => by omega, if_false]
                  cases h9 : firstB (atB l (bad5 (foldS apex) (rowsS l) (belowF l))) l.length with
                  | some k => rw [chain_some (f := 1) (r := 9) (by rw [e9]; exact h9)]; rfl
                  | none =>
                    rw [chain_none (f := 1) (r := 9) (by rw [e9]; exact h9)]
                    simp only [show ¬ (9 = 5 ∧ hasB l apex 6 = false) from fun h => by omega, show ¬ (9 = 6 ∧ hasB l apex 2 = false) from fun h => by omega, if_false]
                    cases h10 : firstB (atB l (bad6 (rowsS l))) l.length with
                    | some k => rw [chain_some (f := 0) (r := 10) (by rw [e10]; exact h10)]; rfl
                    | none =>
                      rw [chain_none (f := 0) (r := 10) (by rw [e10]; exact h10)]
                      simp only [show ¬ (10 = 5 ∧ hasB l apex 6 = false) from fun h => by omega, show ¬ (10 = 6 ∧ hasB l apex 2 = false) from fun h => by omega, if_false]
                      rfl
theorem chain_hit {apex : ByteArray} {l : List Rec} {f r k : Nat} (hk : k < l.length) (h : brkR apex l r k = true) (hb : ∀ j, j < k → brkR apex l r j = false) : chainR apex l (f + 1) r = some ((k : Int), codeR r) := by
  rw [chain_some (firstB_some hk h hb)]
theorem chain_miss {apex : ByteArray} {l : List Rec} {f r : Nat} (h : ∀ j, j < l.length → brkR apex l r j = false) : chainR apex l (f + 1) r = if r = 5 ∧ hasB l apex 6 = false then some (-1, 15) else if r = 6 ∧ hasB l apex 2 = false then some (-1, 16) else chainR apex l f (r + 1) := by
  rw [chain_none (firstB_none h)]
end zn
theorem rbreaks_any (apex : ByteArray) (hap : checkB apex = true) (l : List Rec) (k : Nat) (hk : k < l.length) (hl : l.length ≤ 2000) (hsz : ∀ r ∈ l, r.owner.size ≤ 1099511627776) (r : Nat) (h2 : 2 ≤ r) (h10 : r ≤ 10) (hn : 4 ≤ r → zn.Named l) (v : Value) (w : World) (hrv : RecsAt w v l) :
    Calls Tryz.prog 62 #[.int .i64 (r : Int), .string apex, v, .int .i64 k] w fun e w' => e = .returned (.bool (zn.brkR apex l r k)) ∧ Below w.heap.size w w' := by
  have hapz : apex.size ≤ 1099511627776 := by have := checkB_size hap; omega
  match r, h2, h10 with
  | 2, _, _ =>
    have e : zn.brkR apex l 2 k = zn.bad1 l[k] := zn.atB_get hk
    rw [e]
    exact rbreaks_2 apex l k hk hl hsz v w hrv
  | 3, _, _ =>
    have e : zn.brkR apex l 3 k = (fun x : Rec => !withinB x.owner apex) l[k] := zn.atB_get hk
    rw [e]
    exact rbreaks_3 apex hapz l k hk hl hsz v w hrv
  | 4, _, _ => exact rbreaks_4 apex l k hk hl (hn (by omega)) v w hrv
  | 5, _, _ => exact rbreaks_5 apex hapz l k hk hl (hn (by omega)) v w hrv
  | 6, _, _ => exact rbreaks_6 apex l k hk hl (hn (by omega)) v w hrv
  | 7, _, _ =>
    have e : zn.brkR apex l 7 k = zn.bad3 l[k] := zn.atB_get hk
    rw [e]
    exact rbreaks_7 apex l k hk hl (hn (by omega)) v w hrv
  | 8, _, _ =>
    have e : zn.brkR apex l 8 k = (zn.bad4 (zn.allF l)) l[k] := zn.atB_get hk
    rw [e]
    exact rbreaks_8 apex l k hk hl (hn (by omega)) v w hrv
  | 9, _, _ =>
    have e : zn.brkR apex l 9 k = (zn.bad5 (foldS apex) (zn.rowsS l) (zn.belowF l)) l[k] := zn.atB_get hk
    rw [e]
    exact rbreaks_9 apex hap l k hk hl (hn (by omega)) v w hrv
  | 10, _, _ =>
    have e : zn.brkR apex l 10 k = (zn.bad6 (zn.rowsS l)) l[k] := zn.atB_get hk
    rw [e]
    exact rbreaks_10 apex l k hk hl (hn (by omega)) v w hrv
end Go.Proofs.YtdjjemajfphjaaaGreat
namespace Go.Proofs.YtdjjemajfphjaaaGreat
open Go.RowKit Go.Shelf Go.Proofs.YtdjjemajfphjaaaGreat.nm Go.Proofs.YtdjjemajfphjaaaGreat.od
def RZone (w : World) (z : Nat) (apex : ByteArray) (L : List Rec) : Prop :=
  ∃ g cap, w.heap[z]? = some (.cells #[.string apex, .slice (some ⟨g, 0, none⟩) L.length cap] 44 (0, 0)) ∧ RecsAt w (.slice (some ⟨g, 0, none⟩) L.length cap) L
theorem RZone.below {w w' : World} {z : Nat} {apex : ByteArray} {L : List Rec} (h : RZone w z apex L) (hb : Below w.heap.size w w') : RZone w' z apex L := by
  obtain ⟨g, cap, h1, h2⟩ := h
  exact ⟨g, cap, (hb.block z (heap_lt h1)).trans h1, h2.below hb⟩
def RMake (apex : ByteArray) (l : List Rec) (w : World) (e : Ending) (w' : World) : Prop := Below w.heap.size w w' ∧ match zn.newE apex l with
  | some (k, c) => e = .returned (.tuple #[.pointer none, .int .i64 k, .int .i64 c])
  | none => ∃ z L, SortedOf l L ∧ e = .returned (.tuple #[.pointer (some ⟨z, 0, none⟩), .int .i64 0, .int .i64 0]) ∧ RZone w' z apex L
theorem RMake.bad {apex : ByteArray} {l : List Rec} {w w' : World} {k c : Int} (h : zn.newE apex l = some (k, c)) (hB : Below w.heap.size w w') : RMake apex l w (.returned (.tuple #[.pointer none, .int .i64 k, .int .i64 c])) w' := by
  refine ⟨hB, ?_⟩
  rw [h]
theorem RMake.good {apex : ByteArray} {l L : List Rec} {w w' : World} {z : Nat} (h : zn.newE apex l = none) (hB : Below w.heap.size w w') (hs : SortedOf l L) (hz : RZone w' z apex L) : RMake apex l w (.returned (.tuple #[.pointer (some ⟨z, 0, none⟩), .int .i64 0, .int .i64 0])) w' := by
  refine ⟨hB, ?_⟩
  rw [h]
  exact ⟨z, L, hs, rfl, hz⟩
def codesC : Array Value := #[.int .i64 0, .int .i64 0, .int .i64 8, .int .i64 5, .int .i64 19, .int .i64 15, .int .i64 0, .int .i64 22, .int .i64 17, .int .i64 18, .int .i64 21]
theorem codes_at {w : World} {b : Nat} (h : w.heap[b]? = some (.cells codesC 47 (0, 0))) (r : Nat) (h2 : 2 ≤ r) (h10 : r ≤ 10) : w.cell? ⟨b, r, none⟩ = some (.int .i64 (zn.codeR r)) := by
  rw [heap_cell h]
  match r, h2, h10 with
  | 2, _, _ => rfl
  | 3, _, _ => rfl
  | 4, _, _ => rfl
  | 5, _, _ => rfl
  | 6, _, _ => rfl
  | 7, _, _ => rfl
  | 8, _, _ => rfl
  | 9, _, _ => rfl
  | 10, _, _ => rfl
set_option maxRecDepth 100000 in
set_option maxHeartbeats 4000000 in
theorem rmake_any (apex : ByteArray) (hapz : apex.size ≤ 1099511627776) (l : List Rec) (hsz : ∀ r ∈ l, r.owner.size ≤ 1099511627776) (v : Value) (hf : SliceForm v) (w : World) (hrv : RecsAt w v l) :
    Calls Tryz.prog 19 #[.string apex, v] w fun e w' => RMake apex l w e w' := by
  obtain ⟨a, cap, hv, hcap, _⟩ := id hrv
  cases hap : checkB apex
  · have hr : zn.newE apex l = some (-1, 1) := by unfold zn.newE; rw [if_pos hap]
    have HAP := Lib.hid hap; have HR := Lib.hid hr; have HRV := Lib.hid hrv; have HSZ := Lib.hid hsz; have HF := Lib.hid hf; have HV := Lib.hid hv
    clear hap hr hrv hsz hf hv
    go_enter Tryz.func19, Tryz.ntmps19
    go_wp2_with fail
    refine (risname_any _ hapz _).mono ?_
    rintro e w2 ⟨rfl, hB2⟩
    rw [HAP.out]
    go_wp2_with fail
    go_ret3
    exact RMake.bad HR.out hB2
  · by_cases hl : 2000 < l.length
    · have hr : zn.newE apex l = some (-1, 20) := newE_many hap hl
      have hl' : (2000 : Int) < (l.length : Int) := by omega
      subst hv
      have HAP := Lib.hid hap; have HR := Lib.hid hr; have HRV := Lib.hid hrv; have HSZ := Lib.hid hsz; have HF := Lib.hid hf
      clear hap hr hrv hsz hf
      go_enter Tryz.func19, Tryz.ntmps19
      go_wp2_with fail
      refine (risname_any _ hapz _).mono ?_
      rintro e w2 ⟨rfl, hB2⟩
      rw [HAP.out]
      go_wp2_with fail
      go_ret3
      exact RMake.bad HR.out hB2
    · have hr := zn.chain_newE hap hl
      have hl' : (l.length : Int) ≤ 2000 := by omega
      have hl2 : l.length ≤ 2000 := by omega
      subst hv
      have HAP := Lib.hid hap; have HR := Lib.hid hr; have HRV := Lib.hid hrv; have HSZ := Lib.hid hsz; have HF := Lib.hid hf
      clear hap hr hrv hsz hf
      clear hl
      go_enter Tryz.func19, Tryz.ntmps19
      go_wp2_with fail
      refine (risname_any _ hapz _).mono ?_
      rintro e w2 ⟨rfl, hB2⟩
      rw [HAP.out]
      obtain ⟨w3, hw3⟩ : ∃ W, W = w2.alloc (.cells codesC 47) := ⟨_, rfl⟩
      have hB3 : Below w2.heap.size w2 w3 := by rw [hw3]; exact (Below.refl _ _).alloc (Nat.le_refl _) _
      have hcod : w3.heap[w2.heap.size]? = some (.cells codesC 47 (0, 0)) := by rw [hw3]; exact heap_alloc_new _ _
      have hzc := heap_lt hcod
      have hrv3 := (HRV.out.below hB2).below hB3
      have HBw3 := Lib.hid (hB2.trans (hB3.mono hB2.size))
      have hs3 := HBw3.out.size
      unfold codesC at hw3
      have HW3 := Lib.hid hw3; have HCOD := Lib.hid hcod; have HRV3 := Lib.hid hrv3
      clear hw3 hcod hrv3
      clear hB2 hB3
      go_wp2_with fail
      rw [← HW3.out]
      go_loopw [8, 9] (fun rv _ wr => ∃ r : Nat, 2 ≤ r ∧ r ≤ 11 ∧ rv = .int .i64 (r : Int) ∧ zn.newE apex l = zn.chainR apex l (11 - r) r ∧ (3 ≤ r → zn.Named l) ∧ Below w3.heap.size w3 wr) (fun rv _ _ => 11 - (intOf rv).toNat)
      case atStart => exact ⟨2, by omega, by omega, rfl, HR.out, (fun h => by omega), Below.refl _ _⟩
      case round =>
        obtain ⟨r, hr2, hr11, rfl, hne, hnm, hB⟩ := hrel
        have hsr := hB.size
        have HNE := Lib.hid hne; have HNM := Lib.hid hnm; have HB := Lib.hid hB
        clear hne hnm hB
        by_cases h10 : r ≤ 10
        · have h10' : (r : Int) ≤ 10 := by omega
          have hr2' : (2 : Int) ≤ (r : Int) := by omega
          go_wp2_with fail
          obtain ⟨wo, hwo⟩ : ∃ wo : World, wo = wr := ⟨_, rfl⟩
          subst hwo
          go_loopw [23, 9] (fun kv _ wi => ∃ k : Nat, k ≤ l.length ∧ kv = .int .i64 (k : Int) ∧ (∀ j, j < k → zn.brkR apex l r j = false) ∧ Below w3.heap.size w3 wi) (fun kv _ _ => l.length - (intOf kv).toNat)
          case atStart => exact ⟨0, Nat.zero_le _, rfl, (fun j h => by omega), HB.out⟩
          case round =>
            obtain ⟨k, hk, rfl, hno, hBi⟩ := hrel
            have hsi := hBi.size
            have HNO := Lib.hid hno; have HBI := Lib.hid hBi
            clear hno hBi
            by_cases hlt : k < l.length
            · have hcall := rbreaks_any apex HAP.out l k hlt hl2 HSZ.out r hr2 h10 (fun h => HNM.out (by omega)) _ wr (HRV3.out.below HBI.out)
              cases hb : zn.brkR apex l r k
              · have hno2 : ∀ j, j < k + 1 → zn.brkR apex l r j = false := fun j h => by
                  rcases Nat.lt_or_ge j k with h' | h'
                  · exact HNO.out j h'
                  · obtain rfl : j = k := by omega
                    exact hb
                rw [hb] at hcall
                have HNO2 := Lib.hid hno2; have HB := Lib.hid hb; have HCALL := Lib.hid hcall
                clear hno2 hb hcall
                go_wp2_with fail
                refine HCALL.out.mono ?_
                rintro e w5 ⟨rfl, hB5⟩
                have HB5 := Lib.hid (HBI.out.trans (hB5.mono hsi))
                clear hB5
                go_wp2_with fail
                go_roundw
                case rel => exact ⟨k + 1, by omega, by go_num, HNO2.out, HB5.out⟩
                case measure => simp [intOf]; omega
              · have hres : zn.newE apex l = some ((k : Int), zn.codeR r) := by
                  rw [HNE.out, show 11 - r = (10 - r) + 1 by omega]
                  exact zn.chain_hit hlt hb HNO.out
                rw [hb] at hcall
                have HB := Lib.hid hb; have HCALL := Lib.hid hcall; have HRES := Lib.hid hres
                clear hb hcall hres
                go_wp2_with fail
                refine HCALL.out.mono ?_
                rintro e w5 ⟨rfl, hB5⟩
                have HB5 := Lib.hid (HBI.out.trans (hB5.mono hsi))
                have hcc := (HB5.out.cell (p := ⟨w2.heap.size, r, none⟩) hzc).trans (codes_at HCOD.out r hr2 h10)
                have e1 := gw_cell hcc
                have lr : (0 : Int) ≤ (r : Int) := by omega
                have lr2 : (r : Int) < 11 := by omega
                clear hB5 hcc
                go_wp2_with fail
                refine wp_region_gw (by kernel_rfl) (by kernel_rfl) ?_
                repeat (with_reducible refine wpQuiet_step (fun K hK => ?_); go_simp; (try simp only [undef]); first | (with_reducible refine hK _ ?_; clear hK K))
                refine wpQuiet_nil ?_
                (try simp only [show Value.tuple #[] = undef from rfl])
                intro W hW
                have hBW : Below w5.heap.size w5 W := by obtain ⟨g, rfl⟩ := hW; exact gw_below _ g
                clear hW
                have HBW := Lib.hid (HBw3.out.trans ((HB5.out.trans (hBW.mono HB5.out.size)).mono hs3))
                clear hBW e1
                go_wp2_with fail
                go_ret3
                exact RMake.bad HRES.out HBW.out
            · obtain rfl : k = l.length := by omega
              have hst : zn.newE apex l = if r = 5 ∧ zn.hasB l apex 6 = false then some (-1, 15) else if r = 6 ∧ zn.hasB l apex 2 = false then some (-1, 16) else zn.chainR apex l (11 - (r + 1)) (r + 1) := by
                rw [HNE.out, show 11 - r = (11 - (r + 1)) + 1 by omega]
                exact zn.chain_miss HNO.out
              have hnm2 : 3 ≤ r + 1 → zn.Named l := fun h => by
                by_cases h3 : 3 ≤ r
                · exact HNM.out h3
                · obtain rfl : r = 2 := by omega
                  intro x hx
                  obtain ⟨j, hj, rfl⟩ := List.getElem_of_mem hx
                  have := HNO.out j hj
                  have h2 : zn.atB l zn.bad1 j = false := this
                  rw [zn.atB_get hj] at h2
                  unfold zn.bad1 at h2
                  cases hh : checkB l[j].owner
                  · rw [hh] at h2; simp at h2
                  · rfl
              have hhas := fun n hn t => rhas_any l (by omega) HSZ.out n hn t _ wr (HRV3.out.below HBI.out)
              have HNM2 := Lib.hid hnm2; have HHAS := Lib.hid hhas
              clear hnm2 hhas
              by_cases h5 : r = 5
              · have b5 : ((r : Int) == 5) = true := by rw [beq_iff_eq]; omega
                have b6 : ((r : Int) == 6) = false := by rw [beq_eq_false_iff_ne]; omega
                cases hh : zn.hasB l apex 6
                · have hres : zn.newE apex l = some (-1, 15) := by rw [hst, if_pos ⟨h5, hh⟩]
                  have H5 := Lib.hid h5; have HH := Lib.hid hh; have HRES := Lib.hid hres
                  clear h5 hh hres
                  clear hst
                  go_wp2_with fail
                  refine (HHAS.out apex hapz 6).mono ?_
                  rintro e w5 ⟨rfl, hB5⟩
                  rw [HH.out]
                  have HB5 := Lib.hid (HBw3.out.trans ((HBI.out.trans (hB5.mono hsi)).mono hs3))
                  clear hB5
                  go_wp2_with fail
                  go_ret3
                  exact RMake.bad HRES.out HB5.out
                · have hres : zn.newE apex l = zn.chainR apex l (11 - (r + 1)) (r + 1) := by rw [hst, if_neg (fun h => by rw [hh] at h; exact absurd h.2 (by simp)), if_neg (fun h => by omega)]
                  have H5 := Lib.hid h5; have HH := Lib.hid hh; have HRES := Lib.hid hres
                  clear h5 hh hres
                  clear hst
                  go_wp2_with fail
                  refine (HHAS.out apex hapz 6).mono ?_
                  rintro e w5 ⟨rfl, hB5⟩
                  rw [HH.out]
                  have HB5 := Lib.hid (HBI.out.trans (hB5.mono hsi))
                  clear hB5
                  go_wp2_with fail
                  go_roundw
                  case rel => exact ⟨r + 1, by omega, by omega, by go_num, HRES.out, HNM2.out, HB5.out⟩
                  case measure => simp [intOf]; omega
              · have b5 : ((r : Int) == 5) = false := by rw [beq_eq_false_iff_ne]; omega
                rw [if_neg (fun h => h5 h.1)] at hst
                by_cases h6 : r = 6
                · have b6 : ((r : Int) == 6) = true := by rw [beq_iff_eq]; omega
                  cases hh : zn.hasB l apex 2
                  · have hres : zn.newE apex l = some (-1, 16) := by rw [hst, if_pos ⟨h6, hh⟩]
                    have H5 := Lib.hid h5; have H6 := Lib.hid h6; have HH := Lib.hid hh; have HRES := Lib.hid hres
                    clear h5 h6 hh hres
                    clear hst
                    go_wp2_with fail
                    refine (HHAS.out apex hapz 2).mono ?_
                    rintro e w5 ⟨rfl, hB5⟩
                    rw [HH.out]
                    have HB5 := Lib.hid (HBw3.out.trans ((HBI.out.trans (hB5.mono hsi)).mono hs3))
                    clear hB5
                    go_wp2_with fail
                    go_ret3
                    exact RMake.bad HRES.out HB5.out
                  · have hres : zn.newE apex l = zn.chainR apex l (11 - (r + 1)) (r + 1) := by rw [hst, if_neg (fun h => by rw [hh] at h; exact absurd h.2 (by simp))]
                    have H5 := Lib.hid h5; have H6 := Lib.hid h6; have HH := Lib.hid hh; have HRES := Lib.hid hres
                    clear h5 h6 hh hres
                    clear hst
                    go_wp2_with fail
                    refine (HHAS.out apex hapz 2).mono ?_
                    rintro e w5 ⟨rfl, hB5⟩
                    rw [HH.out]
                    have HB5 := Lib.hid (HBI.out.trans (hB5.mono hsi))
                    clear hB5
                    go_wp2_with fail
                    go_roundw
                    case rel => exact ⟨r + 1, by omega, by omega, by go_num, HRES.out, HNM2.out, HB5.out⟩
                    case measure => simp [intOf]; omega
                · have b6 : ((r : Int) == 6) = false := by rw [beq_eq_false_iff_ne]; omega
                  rw [if_neg (fun h => h6 h.1)] at hst
                  have H5 := Lib.hid h5; have H6 := Lib.hid h6; have HST := Lib.hid hst
                  clear h5 h6 hst
                  go_wp2_with fail
                  go_roundw
                  case rel => exact ⟨r + 1, by omega, by omega, by go_num, HST.out, HNM2.out, HBI.out⟩
                  case measure => simp [intOf]; omega
        · have h10' : (10 : Int) < (r : Int) := by omega
          have hres : zn.newE apex l = none := by
            rw [HNE.out, show 11 - r = 0 by omega]
            rfl
          have hpos : 0 < l.length := rules_pos (zn.valid_of hres).rules
          have hs := rsorted_any l.length l (Nat.le_refl _) (by omega) (HNM.out (by omega)) _ wr HF.out (HRV3.out.below HB.out)
          have HRES := Lib.hid hres; have HS := Lib.hid hs
          clear hres hs
          go_wp2_with fail
          refine HS.out.mono ?_
          rintro e w5 ⟨v5, L, rfl, hB5, hso, hown⟩
          obtain ⟨g, c5, rfl⟩ : ∃ g c5, v5 = .slice (some ⟨g, 0, none⟩) L.length c5 := by
            obtain ⟨g, c, hv, _⟩ := hown.form (by rw [hso.1.length_eq]; exact hpos)
            exact ⟨g, c, hv⟩
          have hz5 := HB.out.trans (hB5.mono hsr)
          have hrec := owns_recs hown
          have HPOST : Hid (RMake apex l w (.returned (.tuple #[.pointer (some ⟨w5.heap.size, 0, none⟩), .int .i64 0, .int .i64 0])) (w5.alloc (.cells #[.string apex, .slice (some ⟨g, 0, none⟩) L.length c5] 44))) := by
            have hA : Below w5.heap.size w5 (w5.alloc (.cells #[.string apex, .slice (some ⟨g, 0, none⟩) L.length c5] 44)) := (Below.refl _ _).alloc (Nat.le_refl _) _
            exact Lib.hid (RMake.good HRES.out (HBw3.out.trans ((hz5.trans (hA.mono hz5.size)).mono hs3)) hso ⟨g, c5, heap_new_at rfl, hrec.below hA⟩)
          clear hz5 hrec hB5 hso hown
          go_wp2_with fail
          go_ret3
          exact HPOST.out
end Go.Proofs.YtdjjemajfphjaaaGreat

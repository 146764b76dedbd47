/-
  gazetteerlaw11.PolicyFair holds for every input. No condition.
-/
import Derived.Test.YtnbdlaedbbcnjaaLimK
import Derived.Test.YtnbdlaedbbcnjaaFairP
namespace Go.Proofs.Ytnbdlaedbbcnjaa
open Go.RowKit Go.ChangeShapes Go.WideShapes Go.ChangeAt Go.Deep

theorem info_int : (Try.prog.info? 3).map (fun i => (i.zero, i.size, i.bytes)) = some (some (.int .i64 0), 1, 8) := by kernel_rfl

theorem limT_int : ∀ o, LimT o → ¬ OfType 3 o := by
  intro o h h'
  cases o with
  | cells c t fz =>
    rcases h with h | h | h <;> rw [OfType, h] at h' <;> exact absurd h' (by decide)
  | _ => exact h'

set_option maxHeartbeats 1000000 in
set_option maxRecDepth 100000 in
theorem fair_good (rate burst : Int) (s : ByteArray) (A : Option Addr) (n c : Nat) (zs : List Int) (w : World) (hr0 : 0 ≤ rate) (hr1 : rate ≤ 1000) (hb0 : 1 ≤ burst) (hb1 : burst ≤ 1000)
    (hn : n ≤ 300) (hlen : n ≤ zs.length) (hz : ∀ z ∈ zs, -9223372036854775808 ≤ z ∧ z ≤ 9223372036854775807)
    (hcell : ∀ (k : Nat) (z : Int), k < n → zs[k]? = some z → ∃ b off, A = some ⟨b, off, none⟩ ∧ b < w.heap.size ∧ w.cell? ⟨b, off + k, none⟩ = some (.int .i64 z)) :
    Calls Try.prog 4 #[.int .i64 rate, .int .i64 burst, .string s, .slice A n c] w fun e w' => e = .returned (.bool true) ∧ Below w.heap.size w w' := by
  have HC := Lib.hid hcell; have HZ := Lib.hid hz; have HL := Lib.hid hlen
  clear hcell hz hlen
  obtain ⟨i0, hi0, hz0, hz1, hz2⟩ := info_parts info_int
  go_enter Try.func4, Try.ntmps4
  go_wp2_with (first
    | (go_at_call 6; refine (newLimiter_good rate burst w hr0 hr1 hb0 hb1).mono ?_; rintro e w1 ⟨lp, rfl, hi1, hf1⟩)
    | (go_at_call 7; refine (alive_any _).mono ?_; rintro e w2 ⟨rfl, hf2⟩))
  have hi2 := hi1.fr (fr_of_below (T := fun _ => False) hf2) (fun _ _ h => h)
  have hB2 := hf1.below.trans (hf2.mono hf1.below.size)
  clear hi1 hf1 hf2
  go_loopw [40, 11, 12, 13, 14, 15, 64] (fun i nw tv _ _ _ _ wr => ∃ (k : Nat) (now : Int) (ts : List Int) (S : List lim.One), k ≤ n ∧ i = .int .i64 k ∧ nw = .int .i64 now ∧ 0 ≤ now ∧ now ≤ 20 * k ∧
      RowAt wr w.heap.size 3 1 tv ts.length (ts.map (Value.int .i64)) ∧ ts.length ≤ k ∧ LimInv wr w.heap.size lp rate burst S ∧ lim.Good burst S ∧ ((addrB s = true ∧ lim.Fair rate burst now (lim.keyOf s) S ts ∧ (k = 0 → S = [])) ∨ (addrB s = false ∧ S = [] ∧ ts = [])) ∧ Below w.heap.size w wr)
    (fun i _ _ _ _ _ _ _ => n - (intOf i).toNat)
  case atStart => exact ⟨0, 0, [], [], by omega, rfl, rfl, by omega, by omega, RowAt.nil_ _ _ _ _, by simp, hi2, lim.good_nil _, by cases h : addrB s with | true => exact .inl ⟨rfl, .inl ⟨rfl, rfl⟩, fun _ => rfl⟩ | false => exact .inr ⟨rfl, rfl, rfl⟩, hB2⟩
  case round =>
    obtain ⟨k, now, ts, S, hk, rfl, rfl, n0, n1, hrow, htk, hinv, hgood, hcase, hB⟩ := hrel
    clear hi2 hB2
    have HROW := Lib.hid hrow; have HINV := Lib.hid hinv; have HG := Lib.hid hgood; have HCA := Lib.hid hcase; have HB := Lib.hid hB
    clear hrow hinv hgood hcase
    by_cases hlt : k < n
    · obtain ⟨z, hzk⟩ : ∃ z, zs[k]? = some z := ⟨_, List.getElem?_eq_getElem (by have := HL.out; omega)⟩
      obtain ⟨z0, z1⟩ := HZ.out z (List.mem_of_getElem? hzk)
      obtain ⟨b, off, rfl, hbb, g1⟩ := HC.out k z hlt hzk
      have g1 := (hB.cell (p := ⟨b, off + k, none⟩) hbb).trans g1
      clear hB hzk
      go_upto_if 46 with fail
      go_cut [14] (fun s14 wx => ∃ d : Int, 0 ≤ d ∧ d ≤ 9223372036854775807 ∧ s14 = .int .i64 d ∧ wr = wx)
      case first =>
        by_cases hneg : z < 0
        · go_wp2
          go_meet
          exact ⟨_, by omega, by omega, rfl, rfl⟩
        · go_wp2
          go_meet
          exact ⟨z, by omega, by omega, rfl, rfl⟩
      case rest =>
        obtain ⟨d, d0, d1, rfl, rfl⟩ := hcut
        clear g1
        obtain ⟨N, hN⟩ : ∃ N, N = now + d % 20 := ⟨_, rfl⟩
        have hN0 : now ≤ N := by omega
        have hN1 : N ≤ now + 19 := by omega
        have hS2 := lim.allow_good (rate := rate) (burst := burst) (now := N) (S := S) (frm := s) hr0 hb0 (by omega) HG.out
        have hall := fun w' hi => allow_any s N w.heap.size lp rate burst S w' HG.out hr0 hr1 hb0 hb1 (by omega) (by omega) hi
        have hst : (addrB s = true ∧ (lim.allow rate burst N S s).1 = true ∧ lim.Fair rate burst N (lim.keyOf s) (lim.allow rate burst N S s).2 (ts ++ [N])) ∨
            (addrB s = true ∧ k ≠ 0 ∧ (lim.allow rate burst N S s).1 = false ∧ lim.Fair rate burst N (lim.keyOf s) (lim.allow rate burst N S s).2 ts) ∨
            (addrB s = false ∧ (lim.allow rate burst N S s).1 = false ∧ (lim.allow rate burst N S s).2 = [] ∧ ts = []) := by
          rcases HCA.out with ⟨h1, h2, h3⟩ | ⟨h1, h2, h3⟩
          · have ha : lim.allow rate burst N S s = lim.ask rate burst N S (lim.keyOf s) := by
              unfold lim.allow
              rw [if_pos (by simpa [addrB] using h1)]
            rw [ha]
            have h4 := lim.fair_step (d := N - now) hr0 hb0 n0 (by omega) h2
            rw [show now + (N - now) = N from by omega] at h4
            rcases h4 with ⟨a, b⟩ | ⟨a, b, c⟩
            · exact .inl ⟨h1, a, b⟩
            · exact .inr (.inl ⟨h1, fun hk0 => b (h3 hk0), a, c⟩)
          · have ha : lim.allow rate burst N S s = (false, S) := by
              unfold lim.allow
              rw [if_neg (by intro h; rw [show addrB s = true from by simpa [addrB] using h] at h1; cases h1)]
            rw [ha]
            exact .inr (.inr ⟨h1, rfl, h2, h3⟩)
        rw [hN] at hall
        have HNN := Lib.hid hN
        have HALL := Lib.hid hall; have HS2 := Lib.hid hS2; have HST := Lib.hid hst
        clear hall hS2 hst hN HCA HG
        rcases HST.out with ⟨ha, hr, hf⟩ | ⟨ha, hk0, hr, hf⟩ | ⟨ha, hr, hs2, hts⟩
        · have HF := Lib.hid hf; have HR := Lib.hid hr; have HA := Lib.hid ha
          clear hf hr ha HST
          have q3 : ts.length + 1 ≤ maxLen := by unfold maxLen; omega
          have Q3 := Lib.hid q3
          clear q3
          have q5 := HB.out.size
          go_wp2_with (first
            | (go_at_call 8; refine (HALL.out _ HINV.out).mono ?_; rintro e w5 ⟨rfl, hi5, hf5⟩; rw [← HNN.out] at hi5 ⊢; rw [HR.out]; have hrow5 := HROW.out.fr hf5 (fun cur h => limT_int _ h rfl); have hb5 := HB.out.trans hf5.below; have q6 := hb5.size; have HI5 := Lib.hid hi5; have HROW5 := Lib.hid hrow5; have HB5 := Lib.hid hb5; clear hi5 hf5 hrow5 hb5)
            | (at_builtin; refine wpList_append_row _ rfl _ _ 36 rfl w.heap.size 3 i0 (.int .i64 0) 1 8 Try.underlying36 hi0 hz0 hz1 hz2 rfl (by decide) _ ts.length (ts.map (Value.int .i64)) rfl (HROW5.out.alloc _) ⟨w5.heap.size, 0, none⟩ 1 1 [.int .i64 N] rfl rfl (cell_one_new _ _ _) (by simp [Value.oneCell']) Q3.out (by omega) (by simp; omega) ?_; intro v' w6 hr6 hg6; have hr6' := Lib.hid hr6; obtain ⟨g, off6, cap6, hv6, hcap6, _, hcl6, _⟩ := hr6.form (by omega); have HCL6 := Lib.hid hcl6; have HG6 := Lib.hid hg6; clear hr6 hg6 hcl6; subst hv6))
          go_loop [64, 15] (fun i _ => ∃ j : Nat, j ≤ ts.length + 1 ∧ i = .int .i64 j) (fun i _ => ts.length + 1 - (intOf i).toNat)
          case atStart => exact ⟨0, by omega, rfl⟩
          case round =>
            obtain ⟨j, hj, rfl⟩ := hrel
            by_cases hjl : j < ts.length + 1
            · obtain ⟨x, hx⟩ : ∃ x, (ts ++ [N])[j]? = some x := ⟨_, List.getElem?_eq_getElem (by simp; omega)⟩
              obtain ⟨x0, x1, x2⟩ := lim.fair_ok HF.out hx
              have hcx : w6.cell? ⟨g, off6 + j, none⟩ = some (.int .i64 x) := HCL6.out j _ (by
                have : (List.map (Value.int .i64) ts ++ [Value.int .i64 N]) = (ts ++ [N]).map (Value.int .i64) := by simp
                rw [this, List.getElem?_map, hx]; rfl)
              have m0 : 0 ≤ rate * (N - x) := Int.mul_nonneg hr0 (by omega)
              have m1 : rate * (N - x) ≤ 1000 * 7000 := Int.le_trans (Int.mul_le_mul_of_nonneg_right hr1 (by omega)) (Int.mul_le_mul_of_nonneg_left (by omega) (by omega))
              rw [List.length_append] at x2
              simp only [List.length_cons, List.length_nil] at x2
              clear hx
              go_wp2
              go_round
              case rel => exact ⟨j + 1, by omega, by go_num⟩
              case measure => simp [intOf]; omega
            · go_wp2
              go_roundw
              case rel =>
                have e1 : (ts ++ [N]).map (Value.int .i64) = ts.map (Value.int .i64) ++ [Value.int .i64 N] := by simp
                have e2 : (ts ++ [N]).length = ts.length + 1 := by simp
                have hgr := (HROW5.out.alloc (.cells #[.int .i64 N] 3)).grew HG6.out (by simp; omega)
                have hal := (Fr.refl w.heap.size (fun _ => False) w5).alloc q6 (.cells #[.int .i64 N] 3)
                refine ⟨k + 1, N, ts ++ [N], _, by omega, by go_num, rfl, by omega, by omega, ?_, by omega, (HI5.out.fr hal (fun _ _ h => h)).fr hgr limT_int, HS2.out, .inl ⟨HA.out, HF.out, fun h => absurd h (by omega)⟩, (HB5.out.trans hal.below).trans hgr.below⟩
                rw [e1, e2]
                exact hr6'.out
              case measure => simp [intOf]; omega
        · have HF := Lib.hid hf; have HR := Lib.hid hr; have HA := Lib.hid ha
          clear hf hr ha HST
          have b0 : ((k : Int) == 0) = false := by rw [beq_eq_false_iff_ne]; omega
          have q5 := HB.out.size
          clear hk0
          go_wp2_with (first
            | (go_at_call 8; refine (HALL.out _ HINV.out).mono ?_; rintro e w5 ⟨rfl, hi5, hf5⟩; rw [← HNN.out] at hi5 ⊢; rw [HR.out]; have hrow5 := HROW.out.fr hf5 (fun cur h => limT_int _ h rfl); have hb5 := HB.out.trans hf5.below; have q6 := hb5.size; have HI5 := Lib.hid hi5; have HROW5 := Lib.hid hrow5; have HB5 := Lib.hid hb5; clear hi5 hf5 hrow5 hb5))
          go_roundw
          case rel => exact ⟨k + 1, N, ts, _, by omega, by go_num, rfl, by omega, by omega, HROW5.out, by omega, HI5.out, HS2.out, .inl ⟨HA.out, HF.out, fun h => absurd h (by omega)⟩, HB5.out⟩
          case measure => simp [intOf]; omega
        · have HR := Lib.hid hr; have HA := Lib.hid ha; have HT := Lib.hid hts; have HE := Lib.hid hs2
          have hs4 : ¬ (s.size = 4 ∨ s.size = 16) := by
            intro h
            rw [show addrB s = true from by simpa [addrB] using h] at ha
            cases ha
          have b4 : ((s.size : Int) == 4) = false := by rw [beq_eq_false_iff_ne]; omega
          have b16 : ((s.size : Int) == 16) = false := by rw [beq_eq_false_iff_ne]; omega
          clear hr ha hts hs2 HST hs4
          have q5 := HB.out.size
          go_wp2_with (first
            | (go_at_call 8; refine (HALL.out _ HINV.out).mono ?_; rintro e w5 ⟨rfl, hi5, hf5⟩; rw [← HNN.out] at hi5 ⊢; rw [HR.out]; have hrow5 := HROW.out.fr hf5 (fun cur h => limT_int _ h rfl); have hb5 := HB.out.trans hf5.below; have q6 := hb5.size; have HI5 := Lib.hid hi5; have HROW5 := Lib.hid hrow5; have HB5 := Lib.hid hb5; clear hi5 hf5 hrow5 hb5))
          all_goals
            go_roundw
            case rel => exact ⟨k + 1, N, ts, _, by omega, by go_num, rfl, by omega, by omega, HROW5.out, by omega, HI5.out, HS2.out, .inr ⟨HA.out, HE.out, HT.out⟩, HB5.out⟩
            case measure => simp [intOf]; omega
    · go_wp2
      go_ret
      exact ⟨rfl, hB⟩

theorem fair_many (rate burst : Int) (s : ByteArray) (A : Option Addr) (n c : Nat) (w : World) (hr0 : 0 ≤ rate) (hr1 : rate ≤ 1000) (hb0 : 1 ≤ burst) (hb1 : burst ≤ 1000) (hn : 300 < n) :
    Calls Try.prog 4 #[.int .i64 rate, .int .i64 burst, .string s, .slice A n c] w fun e w' => e = .returned (.bool true) ∧ Below w.heap.size w w' := by
  go_enter Try.func4, Try.ntmps4
  go_wp2_with (first
    | (go_at_call 6; refine (newLimiter_good rate burst w hr0 hr1 hb0 hb1).mono ?_; rintro e w1 ⟨lp, rfl, hi1, hf1⟩)
    | (go_at_call 7; refine (alive_any _).mono ?_; rintro e w2 ⟨rfl, hf2⟩))
  go_ret
  exact ⟨rfl, hf1.below.trans (hf2.mono hf1.below.size)⟩

theorem fair_bad (rate burst : Int) (s v : Value) (w : World) (h : rate < 0 ∨ 1000 < rate ∨ burst < 1 ∨ 1000 < burst) :
    Calls Try.prog 4 #[.int .i64 rate, .int .i64 burst, s, v] w fun e w' => e = .returned (.bool true) ∧ Below w.heap.size w w' := by
  have HH := Lib.hid h
  clear h
  go_enter Try.func4, Try.ntmps4
  go_wp2_with (first
    | (go_at_call 6; refine (newLimiter_bad rate burst w HH.out).mono ?_; rintro e w1 ⟨rfl, rfl⟩)
    | (go_at_call 7; refine (alive_any _).mono ?_; rintro e w2 ⟨rfl, hf2⟩))
  go_ret
  exact ⟨rfl, hf2⟩

theorem fair_any (rate burst : Int) (s : ByteArray) (A : Option Addr) (n c : Nat) (zs : List Int) (w : World)
    (hlen : n ≤ zs.length) (hz : ∀ z ∈ zs, -9223372036854775808 ≤ z ∧ z ≤ 9223372036854775807)
    (hcell : ∀ (k : Nat) (z : Int), k < n → zs[k]? = some z → ∃ b off, A = some ⟨b, off, none⟩ ∧ b < w.heap.size ∧ w.cell? ⟨b, off + k, none⟩ = some (.int .i64 z)) :
    Calls Try.prog 4 #[.int .i64 rate, .int .i64 burst, .string s, .slice A n c] w fun e w' => e = .returned (.bool true) ∧ Below w.heap.size w w' := by
  by_cases h : rate < 0 ∨ 1000 < rate ∨ burst < 1 ∨ 1000 < burst
  · exact fair_bad rate burst _ _ w h
  · by_cases hn : n ≤ 300
    · exact fair_good rate burst s A n c zs w (by omega) (by omega) (by omega) (by omega) hn hlen hz hcell
    · exact fair_many rate burst s A n c w (by omega) (by omega) (by omega) (by omega) (by omega)

/-- A slice of ints that came in. -/
theorem open_nums {H : Type} {enc : TypeId × Value → H} {W : World} {A : Option Addr} {n c : Nat} {fuel : Nat} {x : DataW H × List MemPlace} {spare : Nat → Bool} {held : Bool}
    (hf : DataW.trod enc Try.prog W 0 spare held fuel 36 [.slice A n c] = some x) :
    ∃ zs : List Int, n ≤ zs.length ∧ (∀ z ∈ zs, -9223372036854775808 ≤ z ∧ z ≤ 9223372036854775807) ∧
      ∀ (k : Nat) (z : Int), k < n → zs[k]? = some z → ∃ b off, A = some ⟨b, off, none⟩ ∧ b < W.heap.size ∧ W.cell? ⟨b, off + k, none⟩ = some (.int .i64 z) := by
  rcases open_ints Try.underlying36 Try.underlying3 (by kernel_rfl) hf with ⟨hcs, _⟩ | ⟨a, l, cp, zs, hcs, _, hl, hm, hz, _, hcell, hwz⟩
  · simp only [List.cons.injEq, Value.slice.injEq, and_true] at hcs
    obtain ⟨rfl, rfl, rfl⟩ := hcs
    exact ⟨[], by simp, by simp, fun k z h _ => by omega⟩
  · simp only [List.cons.injEq, Value.slice.injEq, and_true] at hcs
    obtain ⟨rfl, rfl, rfl⟩ := hcs
    have hz' : n ≤ zs.length := by rw [hz]; split <;> omega
    refine ⟨zs, by omega, fun z hz => i64_bounds (hwz z hz), fun k z hk hkz => ?_⟩
    have c0 := hcell 0 (by omega)
    have ck := hcell k (by omega)
    obtain ⟨b, off, spot⟩ := a
    have hspot : spot = none := by
      have := World.cell?_spot c0
      simpa [Addr.add] using this
    subst hspot
    rw [Addr.add_lit] at ck
    have hg : zs.getD k 0 = z := by rw [List.getD_eq_getElem?_getD, hkz]; rfl
    rw [hg] at ck
    exact ⟨b, off, rfl, World.block_lt_of_cell? _ _ ck, ck⟩

set_option maxRecDepth 100000 in
theorem fair_lifted (os : Os) (started : os.Started) (H : Type) (enc : TypeId × Value → H) :
    ReturnsInHanded {} Try.checked os 4 .any (Rows.policyFairSpec.pre6 enc Try.prog Try.f4 Rows.policyFairRow.domain false) (Rows.policyFairSpec.post enc Try.prog Try.f4 false true false false) := by
  refine returnsInHanded_of_change (C := Try.checked) own started (by kernel_rfl) Try.func4
    (ChangeSpec.witness6 (enc := enc) (C := Try.checked) false ⟨#[], #[.int .i64 0, .int .i64 0, .string ByteArray.empty, .slice none 0 0], []⟩ 8 (by kernel_rfl) (by kernel_rfl) (by kernel_rfl) (by kernel_rfl)) ?_
  intro W base args ds gs before hval0 hW hcnd _
  have hval : ∀ (j : Nat) t v, Try.f4.params[j]? = some t → args[j]? = some v → Value.okWide Try.prog W .any base t v := hval0
  have hW' := hW
  obtain ⟨p, q, hA0, hV, rfl, hfz, hnd⟩ := hW
  have hA : DataW.TrodAll enc Try.prog W 0 (fun _ => true) true Try.f4.params.toList args.toList ds p := hA0
  rw [Try.params4] at hA hval
  obtain ⟨v0, vs0, d0, ds0, p0, q0, hargs, rfl, rfl, h0, r0⟩ := trodAll_cons hA
  obtain ⟨v1, vs1, d1, ds1, p1, q1, rfl, rfl, rfl, h1, r1⟩ := trodAll_cons r0
  obtain ⟨v2, vs2, d2, ds2, p2, q2, rfl, rfl, rfl, h2, r2⟩ := trodAll_cons r1
  obtain ⟨v3, vs3, d3, ds3, p3, q3, rfl, rfl, rfl, h3, r3⟩ := trodAll_cons r2
  obtain ⟨rfl, rfl, rfl⟩ := trodAll_nil r3
  obtain rfl : args = #[v0, v1, v2, v3] := by cases args; simp_all
  obtain ⟨rfl, rfl⟩ := trodVars_none hV
  obtain ⟨a0, rfl, rfl, rfl, w0⟩ := open_int Try.underlying3 (hval 0 3 v0 rfl rfl) h0
  obtain ⟨a1, rfl, rfl, rfl, w1⟩ := open_int Try.underlying3 (hval 1 3 v1 rfl rfl) h1
  obtain ⟨s, rfl, rfl, rfl, hs⟩ := Go.ChangeMaps.open_string Try.underlying9 (hval 2 9 v2 rfl rfl) h2
  obtain ⟨A, n, c, rfl⟩ := okWide_slice Try.underlying36 (hval 3 36 v3 rfl rfl)
  have k3 := h3
  have lt3 : ∀ x ∈ p3, x.block < W.heap.size := by obtain ⟨m, hm⟩ := k3; exact DataW.trod_lt m _ _ _ hm
  obtain ⟨fuel, hf⟩ := h3
  obtain ⟨zs, g1, g2, g3⟩ := open_nums hf
  clear hA0 hval0
  refine (fair_any a0 a1 s A n c zs W g1 g2 g3).mono fun e W' ⟨he, bel⟩ => ?_
  subst he
  exact ⟨_, rfl, _, _, _, [], _, [], hW', trodAll_mk1 (shut_bool Try.underlying4 _), (trodAll_cons_mk (shut_int Try.underlying3 w0) (trodAll_cons_mk (shut_int Try.underlying3 w1) (trodAll_cons_mk (Go.ChangeMaps.shut_string Try.underlying9 hs) (trodAll_cons_mk (Below.trod laidOut (by kernel_rfl) (of_decide_eq_true (by kernel_rfl)) k3 bel lt3) trodAll_mk0)))), rfl, bel.frame _, fun h => by cases h⟩

theorem policyFair_holds : Rows.PolicyFairSaid :=
  OpenClaim.holds_of_wide 4 Try.f4 rfl rfl rfl rfl rfl rfl rfl ⟨rfl, rfl, rfl, rfl, rfl⟩ rfl rfl rfl rfl rfl (by kernel_rfl) Try.func4 (by kernel_rfl)
    (of_decide_eq_true (by kernel_rfl)) (by unfold Func.isWrapper; first | (rw [if_pos (by decide +kernel)]; kernel_rfl) | (rw [if_neg (by decide +kernel)]; exact ⟨rfl, rfl⟩))
    (fun os started H enc _ => fair_lifted os started H enc)
#print axioms policyFair_holds
end Go.Proofs.Ytnbdlaedbbcnjaa

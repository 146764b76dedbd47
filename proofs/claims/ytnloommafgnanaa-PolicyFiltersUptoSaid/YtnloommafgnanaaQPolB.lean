/-
  policy.Rule and gazetteerref11.Rule.
-/
import Derived.Test.YtnloommafgnanaaQPolA
namespace Go.Proofs.Ytnloommafgnanaa
open Go.RowKit Go.Shelf Go.Proofs.Ytnloommafgnanaa.nm Go.Proofs.Ytnloommafgnanaa.od

namespace pf
theorem optI_none : optI none = -1 := rfl
theorem optI_some (k : Nat) : optI (some k) = (k : Int) := rfl
theorem check_none {a : ByteArray} (h : checkB a = true) (ha : rows a = none) : False := by
  rw [checkB_rows, ha] at h
  cases h
theorem equalB_comm (a b : ByteArray) : equalB a b = equalB b a := by
  cases ha : rows a with
  | none =>
    cases h : equalB a b with
    | true => exact (check_none (equal_check h).1 ha).elim
    | false =>
      cases h2 : equalB b a with
      | true => exact (check_none (equal_check h2).2 ha).elim
      | false => rfl
  | some x =>
    cases hb : rows b with
    | none =>
      cases h : equalB a b with
      | true => exact (check_none (equal_check h).2 hb).elim
      | false =>
        cases h2 : equalB b a with
        | true => exact (check_none (equal_check h2).1 hb).elim
        | false => rfl
    | some y =>
      rw [equal_rows ha hb, equal_rows hb ha]
      exact decide_eq_decide.2 ⟨Eq.symm, Eq.symm⟩
section
variable {l : List Rul} {n : ByteArray} {k : Nat}
theorem at_rule (h : k < l.length) : l[k]! = l[k] := getElem!_pos l k h
theorem best_skip (h : hitB n l[k]! = false) : bestTo l n (k + 1) = bestTo l n k := by
  rw [bestTo]
  cases bestTo l n k with
  | none => simp only [stepR]; rw [if_neg (by rw [h]; simp)]
  | some b => simp only [stepR]; rw [if_neg (by rw [h]; simp)]
theorem best_first (h : hitB n l[k]! = true) (h0 : bestTo l n k = none) : bestTo l n (k + 1) = some k := by
  rw [bestTo, h0]; simp only [stepR]; rw [if_pos h]
theorem best_take {b : Nat} (h : hitB n l[k]! = true) (h0 : bestTo l n k = some b) (h1 : l[b]!.below = true) (h2 : l[k]!.below = false ∨ countI l[b]!.name < countI l[k]!.name) : bestTo l n (k + 1) = some k := by
  rw [bestTo, h0]; simp only [stepR]; rw [if_pos ⟨h, h1, h2⟩]
theorem best_stay {b : Nat} (h0 : bestTo l n k = some b) (h : ¬ (l[b]!.below = true ∧ (l[k]!.below = false ∨ countI l[b]!.name < countI l[k]!.name))) : bestTo l n (k + 1) = some b := by
  rw [bestTo, h0]; simp only [stepR]; rw [if_neg (fun x => h x.2)]
theorem below_skip (h : ¬ (hitB n l[k]! = true ∧ l[k]!.below = true)) : belowTo l n (k + 1) = belowTo l n k := by
  rw [belowTo]
  cases belowTo l n k with
  | none => simp only [stepB]; rw [if_neg h]
  | some b => simp only [stepB]; rw [if_neg (fun x => h ⟨x.1, x.2.1⟩)]
theorem below_first (h : hitB n l[k]! = true) (h1 : l[k]!.below = true) (h0 : belowTo l n k = none) : belowTo l n (k + 1) = some k := by
  rw [belowTo, h0]; simp only [stepB]; rw [if_pos ⟨h, h1⟩]
theorem below_take {b : Nat} (h : hitB n l[k]! = true) (h1 : l[k]!.below = true) (h0 : belowTo l n k = some b) (h2 : countI l[b]!.name < countI l[k]!.name) : belowTo l n (k + 1) = some k := by
  rw [belowTo, h0]; simp only [stepB]; rw [if_pos ⟨h, h1, h2⟩]
theorem below_stay {b : Nat} (h0 : belowTo l n k = some b) (h2 : ¬ countI l[b]!.name < countI l[k]!.name) : belowTo l n (k + 1) = some b := by
  rw [belowTo, h0]; simp only [stepB]; rw [if_neg (fun x => h2 x.2.2)]
theorem belowTo_lt (l : List Rul) (n : ByteArray) : ∀ (k b : Nat), belowTo l n k = some b → b < k
  | 0, b, h => by cases h
  | k + 1, b, h => by
    rw [belowTo] at h
    cases hb : belowTo l n k with
    | none =>
      rw [hb] at h
      simp only [stepB] at h
      split at h
      · cases h; omega
      · cases h
    | some c =>
      have ih := belowTo_lt l n k c hb
      rw [hb] at h
      simp only [stepB] at h
      split at h
      · cases h; omega
      · cases h; omega
theorem hit_wrong {r : Rul} (h : rightB r = false) : hitB n r = false := by simp [hitB, h]
theorem hit_exact {r : Rul} (h : rightB r = true) (h1 : r.below = false) : hitB n r = equalB n r.name := by simp [hitB, h, h1]
theorem hit_below {r : Rul} (h : rightB r = true) (h1 : r.below = true) : hitB n r = (!equalB n r.name && withinB n r.name) := by simp [hitB, h, h1]
end
end pf

theorem rul_cells {w : World} {b off cap m : Nat} {l : List Rul} (h : RulsAt w (.slice (some ⟨b, off, none⟩) m cap) l) {j : Nat} (hj : j < l.length) : b < w.heap.size ∧ RulAt w b (off + j * 6) l[j] := by
  obtain ⟨a', cap', hv, _, hr⟩ := h
  obtain ⟨b', off', ha, hbl, hx⟩ := hr j hj
  simp only [Value.slice.injEq] at hv
  rw [← hv.1] at ha
  simp only [Option.some.injEq, Addr.mk.injEq, and_true] at ha
  obtain ⟨rfl, rfl⟩ := ha
  exact ⟨hbl, hx⟩

set_option maxRecDepth 100000 in
set_option maxHeartbeats 8000000 in
theorem rule_any (l : List Rul) (hl : l.length ≤ 1000000000000) (n : ByteArray) (v : Value) (w : World) (hv : RulsAt w v l) :
    Calls Try.prog 6 #[v, .string n] w fun e w' => e = .returned (.int .i64 (pf.optI (pf.ruleO l n))) ∧ Below w.heap.size w w' := by
  obtain ⟨a, cap, rfl, -⟩ := id hv
  have HRV := Lib.hid hv
  clear hv
  go_enter Try.func6, Try.ntmps6
  go_wp2_with fail
  go_loopw [11, 5, 6, 7, 8] (fun kv bv _ _ _ wr => ∃ k : Nat, k ≤ l.length ∧ kv = .int .i64 (k : Int) ∧ bv = .int .i64 (pf.optI (pf.bestTo l n k)) ∧ Below w.heap.size w wr) (fun kv _ _ _ _ _ => l.length - (intOf kv).toNat)
  case atStart => exact ⟨0, Nat.zero_le _, rfl, rfl, Below.refl _ _⟩
  case round =>
    obtain ⟨k, hk, rfl, rfl, hB⟩ := hrel
    have hsr := hB.size
    obtain ⟨o, ho⟩ : ∃ o, o = pf.bestTo l n k := ⟨_, rfl⟩
    rw [← ho]
    by_cases hlt : k < l.length
    · obtain ⟨_, _, hv, _, hr⟩ := HRV.out.below hB
      simp only [Value.slice.injEq] at hv
      obtain ⟨rfl, -, rfl⟩ := hv
      obtain ⟨bb, off, rfl, hbl, c0, c1, c2, c3, c4, c5⟩ := hr k hlt
      clear hr
      have hki : (k : Int) < (l.length : Int) := by omega
      obtain ⟨r, hr0⟩ : ∃ r, r = l[k] := ⟨_, rfl⟩
      rw [← hr0] at c0 c1 c2 c3 c4 c5
      have hr : l[k]! = r := by rw [hr0]; exact pf.at_rule hlt
      obtain ⟨w1, hw1⟩ : ∃ X, X = wr.alloc (.cells (rulC r).toArray 51) := ⟨_, rfl⟩
      obtain ⟨hB1, hs1, hx1⟩ := rul_new wr w1 r hw1
      have lt1 : wr.heap.size < w1.heap.size := by omega
      have HB1 := Lib.hid (hB.trans (hB1.mono hsr))
      obtain ⟨p0, p1, p2, p3, p4, p5⟩ := id hx1
      clear hB1 hs1
      have HO := Lib.hid ho; have HR0 := Lib.hid hr0; have HR := Lib.hid hr; have HW1 := Lib.hid hw1; have HX1 := Lib.hid hx1; have HB := Lib.hid hB
      clear ho hr0 hr hw1 hx1 hB
      go_wp2_with fail
      rw [← HW1.out]
      refine (equal_any _ _ _).mono ?_
      rintro e w2 ⟨rfl, hB2⟩
      have HX2 := Lib.hid (HX1.out.below lt1 hB2)
      have HB2 := Lib.hid (HB1.out.trans (hB2.mono HB1.out.size))
      have lt2 : wr.heap.size < w2.heap.size := Nat.lt_of_lt_of_le lt1 hB2.size
      obtain ⟨eq, heq⟩ : ∃ b, b = equalB n r.name := ⟨_, rfl⟩
      rw [← heq]
      clear hB2 p0 p1 p2 p3 p4 p5 c0 c1 c2 c3 c4 c5
      obtain ⟨p0, p1, p2, p3, p4, p5⟩ := id HX2.out
      have HEQ := Lib.hid heq
      clear heq
      go_wp2_with fail
      refine (right_any r _).mono ?_
      rintro e w3 ⟨rfl, hB3⟩
      have HX3 := Lib.hid (HX2.out.below lt2 hB3)
      have hB3' := HB2.out.trans (hB3.mono HB2.out.size)
      have lt3 : wr.heap.size < w3.heap.size := Nat.lt_of_lt_of_le lt2 hB3.size
      clear hB3 p0 p1 p2 p3 p4 p5
      obtain ⟨p0, p1, p2, p3, p4, p5⟩ := id HX3.out
      cases hrt : pf.rightB r
      · have hst : pf.bestTo l n (k + 1) = o := (pf.best_skip (by rw [HR.out]; exact pf.hit_wrong hrt)).trans HO.out.symm
        have HST := Lib.hid hst; have HRT := Lib.hid hrt
        clear hst hrt
        have HBN := Lib.hid hB3'
        clear hB3'
        go_wp2_with fail
        go_roundw
        case rel => exact ⟨k + 1, by omega, by go_num, by rw [HST.out], HBN.out⟩
        case measure => simp [intOf]; omega
      · cases hbe : r.below
        · rw [hbe] at p1
          cases eq
          · have hst : pf.bestTo l n (k + 1) = o := (pf.best_skip (by rw [HR.out, pf.hit_exact hrt hbe]; exact HEQ.out.symm)).trans HO.out.symm
            have HST := Lib.hid hst; have HRT := Lib.hid hrt; have HBE := Lib.hid hbe
            clear hst hrt hbe
            have HBN := Lib.hid hB3'
            clear hB3'
            go_wp2_with fail
            go_roundw
            case rel => exact ⟨k + 1, by omega, by go_num, by rw [HST.out], HBN.out⟩
            case measure => simp [intOf]; omega
          · have hhit : pf.hitB n r = true := by rw [pf.hit_exact hrt hbe]; exact HEQ.out.symm
            have HB3 := Lib.hid hB3'
            have hbe' : r.below = false := hbe
            have p1' : w3.cell? ⟨wr.heap.size, 1, none⟩ = some (.bool r.below) := by rw [hbe]; exact p1
            have HRT := Lib.hid hrt; have HHIT := Lib.hid hhit; have HBE := Lib.hid hbe
            clear hrt hhit hbe
            clear hB3'
            go_upto_region 7 with fail
            clear p1
            have p1 := p1'
            clear p1' hbe'
            -- the rule that counts so far against this one; W: the world, hit: HIT
            have g1 : ∀ p, (gw w3 p).cell? ⟨wr.heap.size, 1, none⟩ = some (.bool r.below) := gw_cell p1
            have g0 : ∀ p, (gw w3 p).cell? ⟨wr.heap.size, 0, none⟩ = some (.string r.name) := gw_cell p0
            have CN : Hid (∀ s g, Calls Try.prog 21 #[.string s] (gw w3 g) fun e w'' => e = .returned (.int .i64 (countI s)) ∧ ∃ g', w'' = gw w3 g') := Lib.hid fun s g => calls_gw (count_any s _)
            clear p0 p1 p2 p3 p4 p5
            cases o with
            | none =>
              have hst : pf.bestTo l n (k + 1) = some k := pf.best_first (by rw [HR.out]; exact HHIT.out) HO.out.symm
              have HST := Lib.hid hst
              clear hst
              rw [pf.optI_none]
              go_wp2_with fail
              refine wp_region_gw (by kernel_rfl) (by kernel_rfl) ?_
              repeat (with_reducible refine wpQuiet_step (fun K hK => ?_); go_simp; (try simp only [undef]); first | (with_reducible refine hK _ ?_; clear hK K) | (apply Exists.intro; refine ⟨fun _ => ?_, hK _ ?_⟩; (first | (go_at_call 21; with_reducible exact CN.out _ _)); clear hK K) | (with_reducible refine ⟨fun _ h => (by cases h), ?_⟩; with_reducible refine hK _ ?_; clear hK K))
              refine wpQuiet_nil ?_
              (try simp only [show Value.tuple #[] = undef from rfl])
              intro W5 hW5
              have hBW5 : Below w3.heap.size w3 W5 := by obtain ⟨g, rfl⟩ := hW5; exact gw_below _ g
              clear hW5
              have HB5 := Lib.hid (HB3.out.trans (hBW5.mono HB3.out.size))
              clear hBW5
              go_wp2_with fail
              go_roundw
              case rel => exact ⟨k + 1, by omega, by go_num, by rw [HST.out]; rfl, HB5.out⟩
              case measure => simp [intOf]; omega
            | some b =>
              have hbk : b < k := (pf.bestTo_hit l n k b HO.out.symm).1
              have hbl2 : b < l.length := by omega
              obtain ⟨hbb, d0, d1, d2, d3, d4, d5⟩ := rul_cells (HRV.out.below HB3.out) hbl2
              obtain ⟨rb, hrb⟩ : ∃ r, r = l[b] := ⟨_, rfl⟩
              rw [← hrb] at d0 d1 d2 d3 d4 d5
              have hrb' : l[b]! = rb := by rw [hrb]; exact pf.at_rule hbl2
              have q0 := gw_cell d0
              have q1 := gw_cell d1
              have hbi : (b : Int) < (l.length : Int) := by omega
              have hb0 : decide ((b : Int) < 0) = false := decide_eq_false (by omega)
              rw [pf.optI_some]
              clear d0 d1 d2 d3 d4 d5 hbk
              have HRB := Lib.hid hrb; have HRB' := Lib.hid hrb'
              clear hrb hrb'
              cases hbe : rb.below
              · have hst : pf.bestTo l n (k + 1) = some b := pf.best_stay HO.out.symm (fun x => by rw [HRB'.out, hbe] at x; exact absurd x.1 (by simp))
                rw [hbe] at q1
                have HST := Lib.hid hst; have HBE := Lib.hid hbe
                clear hst hbe
                go_wp2_with fail
                refine wp_region_gw (by kernel_rfl) (by kernel_rfl) ?_
                repeat (with_reducible refine wpQuiet_step (fun K hK => ?_); go_simp; (try simp only [undef]); first | (with_reducible refine hK _ ?_; clear hK K) | (apply Exists.intro; refine ⟨fun _ => ?_, hK _ ?_⟩; (first | (go_at_call 21; with_reducible exact CN.out _ _)); clear hK K) | (with_reducible refine ⟨fun _ h => (by cases h), ?_⟩; with_reducible refine hK _ ?_; clear hK K))
                refine wpQuiet_nil ?_
                (try simp only [show Value.tuple #[] = undef from rfl])
                intro W5 hW5
                have hBW5 : Below w3.heap.size w3 W5 := by obtain ⟨g, rfl⟩ := hW5; exact gw_below _ g
                clear hW5
                have HB5 := Lib.hid (HB3.out.trans (hBW5.mono HB3.out.size))
                clear hBW5
                go_wp2_with fail
                go_roundw
                case rel => exact ⟨k + 1, by omega, by go_num, by rw [HST.out]; rfl, HB5.out⟩
                case measure => simp [intOf]; omega
              · rw [hbe] at q1
                cases hke : r.below
                · have hst : pf.bestTo l n (k + 1) = some k := pf.best_take (by rw [HR.out]; exact HHIT.out) HO.out.symm (by rw [HRB'.out]; exact hbe) (.inl (by rw [HR.out]; exact hke))
                  rw [hke] at g1
                  have HST := Lib.hid hst; have HBE := Lib.hid hbe; have HKE := Lib.hid hke
                  clear hst hbe hke
                  go_wp2_with fail
                  refine wp_region_gw (by kernel_rfl) (by kernel_rfl) ?_
                  repeat (with_reducible refine wpQuiet_step (fun K hK => ?_); go_simp; (try simp only [undef]); first | (with_reducible refine hK _ ?_; clear hK K) | (apply Exists.intro; refine ⟨fun _ => ?_, hK _ ?_⟩; (first | (go_at_call 21; with_reducible exact CN.out _ _)); clear hK K) | (with_reducible refine ⟨fun _ h => (by cases h), ?_⟩; with_reducible refine hK _ ?_; clear hK K))
                  refine wpQuiet_nil ?_
                  (try simp only [show Value.tuple #[] = undef from rfl])
                  intro W5 hW5
                  have hBW5 : Below w3.heap.size w3 W5 := by obtain ⟨g, rfl⟩ := hW5; exact gw_below _ g
                  clear hW5
                  have HB5 := Lib.hid (HB3.out.trans (hBW5.mono HB3.out.size))
                  clear hBW5
                  go_wp2_with fail
                  go_roundw
                  case rel => exact ⟨k + 1, by omega, by go_num, by rw [HST.out]; rfl, HB5.out⟩
                  case measure => simp [intOf]; omega
                · rw [hke] at g1
                  by_cases hc : countI rb.name < countI r.name
                  · have hst : pf.bestTo l n (k + 1) = some k := pf.best_take (by rw [HR.out]; exact HHIT.out) HO.out.symm (by rw [HRB'.out]; exact hbe) (.inr (by rw [HR.out, HRB'.out]; exact hc))
                    have hc' : decide (countI rb.name < countI r.name) = true := decide_eq_true hc
                    have HST := Lib.hid hst; have HBE := Lib.hid hbe; have HKE := Lib.hid hke
                    clear hst hbe hke
                    clear hc
                    go_wp2_with fail
                    refine wp_region_gw (by kernel_rfl) (by kernel_rfl) ?_
                    repeat (with_reducible refine wpQuiet_step (fun K hK => ?_); go_simp; (try simp only [undef]); first | (with_reducible refine hK _ ?_; clear hK K) | (apply Exists.intro; refine ⟨fun _ => ?_, hK _ ?_⟩; (first | (go_at_call 21; with_reducible exact CN.out _ _)); clear hK K) | (with_reducible refine ⟨fun _ h => (by cases h), ?_⟩; with_reducible refine hK _ ?_; clear hK K))
                    refine wpQuiet_nil ?_
                    (try simp only [show Value.tuple #[] = undef from rfl])
                    intro W5 hW5
                    have hBW5 : Below w3.heap.size w3 W5 := by obtain ⟨g, rfl⟩ := hW5; exact gw_below _ g
                    clear hW5
                    have HB5 := Lib.hid (HB3.out.trans (hBW5.mono HB3.out.size))
                    clear hBW5
                    go_wp2_with fail
                    go_roundw
                    case rel => exact ⟨k + 1, by omega, by go_num, by rw [HST.out]; rfl, HB5.out⟩
                    case measure => simp [intOf]; omega
                  · have hst : pf.bestTo l n (k + 1) = some b := pf.best_stay HO.out.symm (fun x => x.2.elim (fun y => by rw [HR.out, hke] at y; cases y) (fun y => hc (by rw [HR.out, HRB'.out] at y; exact y)))
                    have hc' : decide (countI rb.name < countI r.name) = false := decide_eq_false hc
                    have HST := Lib.hid hst; have HBE := Lib.hid hbe; have HKE := Lib.hid hke
                    clear hst hbe hke
                    clear hc
                    go_wp2_with fail
                    refine wp_region_gw (by kernel_rfl) (by kernel_rfl) ?_
                    repeat (with_reducible refine wpQuiet_step (fun K hK => ?_); go_simp; (try simp only [undef]); first | (with_reducible refine hK _ ?_; clear hK K) | (apply Exists.intro; refine ⟨fun _ => ?_, hK _ ?_⟩; (first | (go_at_call 21; with_reducible exact CN.out _ _)); clear hK K) | (with_reducible refine ⟨fun _ h => (by cases h), ?_⟩; with_reducible refine hK _ ?_; clear hK K))
                    refine wpQuiet_nil ?_
                    (try simp only [show Value.tuple #[] = undef from rfl])
                    intro W5 hW5
                    have hBW5 : Below w3.heap.size w3 W5 := by obtain ⟨g, rfl⟩ := hW5; exact gw_below _ g
                    clear hW5
                    have HB5 := Lib.hid (HB3.out.trans (hBW5.mono HB3.out.size))
                    clear hBW5
                    go_wp2_with fail
                    go_roundw
                    case rel => exact ⟨k + 1, by omega, by go_num, by rw [HST.out]; rfl, HB5.out⟩
                    case measure => simp [intOf]; omega
        · rw [hbe] at p1
          cases eq
          · have HB3 := Lib.hid hB3'
            have HRT := Lib.hid hrt; have HBE := Lib.hid hbe
            clear hrt hbe
            clear hB3'
            go_wp2_with fail
            refine (within_any _ _ _).mono ?_
            rintro e w4 ⟨rfl, hB4⟩
            have HX4 := Lib.hid (HX3.out.below lt3 hB4)
            have hB4' := HB3.out.trans (hB4.mono HB3.out.size)
            clear hB4 p0 p1 p2 p3 p4 p5
            obtain ⟨p0, p1, p2, p3, p4, p5⟩ := id HX4.out
            rw [HBE.out] at p1
            cases hwi : withinB n r.name
            · have hst : pf.bestTo l n (k + 1) = o := (pf.best_skip (by rw [HR.out, pf.hit_below HRT.out HBE.out, ← HEQ.out, hwi]; rfl)).trans HO.out.symm
              have HST := Lib.hid hst; have HWI := Lib.hid hwi
              clear hst hwi
              have HBN := Lib.hid hB4'
              clear hB4'
              go_wp2_with fail
              go_roundw
              case rel => exact ⟨k + 1, by omega, by go_num, by rw [HST.out], HBN.out⟩
              case measure => simp [intOf]; omega
            · have hhit : pf.hitB n r = true := by rw [pf.hit_below HRT.out HBE.out, ← HEQ.out, hwi]; rfl
              have HB4 := Lib.hid hB4'
              have p1' : w4.cell? ⟨wr.heap.size, 1, none⟩ = some (.bool r.below) := by rw [HBE.out]; exact p1
              have HP1' := Lib.hid p1'
              have HHIT := Lib.hid hhit; have HWI := Lib.hid hwi
              clear hhit hwi
              clear hB4' p1'
              go_upto_region 7 with fail
              clear p1
              have p1 := HP1'.out
              -- the rule that counts so far against this one; W: the world, hit: HIT
              have g1 : ∀ p, (gw w4 p).cell? ⟨wr.heap.size, 1, none⟩ = some (.bool r.below) := gw_cell p1
              have g0 : ∀ p, (gw w4 p).cell? ⟨wr.heap.size, 0, none⟩ = some (.string r.name) := gw_cell p0
              have CN : Hid (∀ s g, Calls Try.prog 21 #[.string s] (gw w4 g) fun e w'' => e = .returned (.int .i64 (countI s)) ∧ ∃ g', w'' = gw w4 g') := Lib.hid fun s g => calls_gw (count_any s _)
              clear p0 p1 p2 p3 p4 p5
              cases o with
              | none =>
                have hst : pf.bestTo l n (k + 1) = some k := pf.best_first (by rw [HR.out]; exact HHIT.out) HO.out.symm
                have HST := Lib.hid hst
                clear hst
                rw [pf.optI_none]
                go_wp2_with fail
                refine wp_region_gw (by kernel_rfl) (by kernel_rfl) ?_
                repeat (with_reducible refine wpQuiet_step (fun K hK => ?_); go_simp; (try simp only [undef]); first | (with_reducible refine hK _ ?_; clear hK K) | (apply Exists.intro; refine ⟨fun _ => ?_, hK _ ?_⟩; (first | (go_at_call 21; with_reducible exact CN.out _ _)); clear hK K) | (with_reducible refine ⟨fun _ h => (by cases h), ?_⟩; with_reducible refine hK _ ?_; clear hK K))
                refine wpQuiet_nil ?_
                (try simp only [show Value.tuple #[] = undef from rfl])
                intro W5 hW5
                have hBW5 : Below w4.heap.size w4 W5 := by obtain ⟨g, rfl⟩ := hW5; exact gw_below _ g
                clear hW5
                have HB5 := Lib.hid (HB4.out.trans (hBW5.mono HB4.out.size))
                clear hBW5
                go_wp2_with fail
                go_roundw
                case rel => exact ⟨k + 1, by omega, by go_num, by rw [HST.out]; rfl, HB5.out⟩
                case measure => simp [intOf]; omega
              | some b =>
                have hbk : b < k := (pf.bestTo_hit l n k b HO.out.symm).1
                have hbl2 : b < l.length := by omega
                obtain ⟨hbb, d0, d1, d2, d3, d4, d5⟩ := rul_cells (HRV.out.below HB4.out) hbl2
                obtain ⟨rb, hrb⟩ : ∃ r, r = l[b] := ⟨_, rfl⟩
                rw [← hrb] at d0 d1 d2 d3 d4 d5
                have hrb' : l[b]! = rb := by rw [hrb]; exact pf.at_rule hbl2
                have q0 := gw_cell d0
                have q1 := gw_cell d1
                have hbi : (b : Int) < (l.length : Int) := by omega
                have hb0 : decide ((b : Int) < 0) = false := decide_eq_false (by omega)
                rw [pf.optI_some]
                clear d0 d1 d2 d3 d4 d5 hbk
                have HRB := Lib.hid hrb; have HRB' := Lib.hid hrb'
                clear hrb hrb'
                cases hbe : rb.below
                · have hst : pf.bestTo l n (k + 1) = some b := pf.best_stay HO.out.symm (fun x => by rw [HRB'.out, hbe] at x; exact absurd x.1 (by simp))
                  rw [hbe] at q1
                  have HST := Lib.hid hst; have HBE := Lib.hid hbe
                  clear hst hbe
                  go_wp2_with fail
                  refine wp_region_gw (by kernel_rfl) (by kernel_rfl) ?_
                  repeat (with_reducible refine wpQuiet_step (fun K hK => ?_); go_simp; (try simp only [undef]); first | (with_reducible refine hK _ ?_; clear hK K) | (apply Exists.intro; refine ⟨fun _ => ?_, hK _ ?_⟩; (first | (go_at_call 21; with_reducible exact CN.out _ _)); clear hK K) | (with_reducible refine ⟨fun _ h => (by cases h), ?_⟩; with_reducible refine hK _ ?_; clear hK K))
                  refine wpQuiet_nil ?_
                  (try simp only [show Value.tuple #[] = undef from rfl])
                  intro W5 hW5
                  have hBW5 : Below w4.heap.size w4 W5 := by obtain ⟨g, rfl⟩ := hW5; exact gw_below _ g
                  clear hW5
                  have HB5 := Lib.hid (HB4.out.trans (hBW5.mono HB4.out.size))
                  clear hBW5
                  go_wp2_with fail
                  go_roundw
                  case rel => exact ⟨k + 1, by omega, by go_num, by rw [HST.out]; rfl, HB5.out⟩
                  case measure => simp [intOf]; omega
                · rw [hbe] at q1
                  cases hke : r.below
                  · have hst : pf.bestTo l n (k + 1) = some k := pf.best_take (by rw [HR.out]; exact HHIT.out) HO.out.symm (by rw [HRB'.out]; exact hbe) (.inl (by rw [HR.out]; exact hke))
                    rw [hke] at g1
                    have HST := Lib.hid hst; have HBE := Lib.hid hbe; have HKE := Lib.hid hke
                    clear hst hbe hke
                    go_wp2_with fail
                    refine wp_region_gw (by kernel_rfl) (by kernel_rfl) ?_
                    repeat (with_reducible refine wpQuiet_step (fun K hK => ?_); go_simp; (try simp only [undef]); first | (with_reducible refine hK _ ?_; clear hK K) | (apply Exists.intro; refine ⟨fun _ => ?_, hK _ ?_⟩; (first | (go_at_call 21; with_reducible exact CN.out _ _)); clear hK K) | (with_reducible refine ⟨fun _ h => (by cases h), ?_⟩; with_reducible refine hK _ ?_; clear hK K))
                    refine wpQuiet_nil ?_
                    (try simp only [show Value.tuple #[] = undef from rfl])
                    intro W5 hW5
                    have hBW5 : Below w4.heap.size w4 W5 := by obtain ⟨g, rfl⟩ := hW5; exact gw_below _ g
                    clear hW5
                    have HB5 := Lib.hid (HB4.out.trans (hBW5.mono HB4.out.size))
                    clear hBW5
                    go_wp2_with fail
                    go_roundw
                    case rel => exact ⟨k + 1, by omega, by go_num, by rw [HST.out]; rfl, HB5.out⟩
                    case measure => simp [intOf]; omega
                  · rw [hke] at g1
                    by_cases hc : countI rb.name < countI r.name
                    · have hst : pf.bestTo l n (k + 1) = some k := pf.best_take (by rw [HR.out]; exact HHIT.out) HO.out.symm (by rw [HRB'.out]; exact hbe) (.inr (by rw [HR.out, HRB'.out]; exact hc))
                      have hc' : decide (countI rb.name < countI r.name) = true := decide_eq_true hc
                      have HST := Lib.hid hst; have HBE := Lib.hid hbe; have HKE := Lib.hid hke
                      clear hst hbe hke
                      clear hc
                      go_wp2_with fail
                      refine wp_region_gw (by kernel_rfl) (by kernel_rfl) ?_
                      repeat (with_reducible refine wpQuiet_step (fun K hK => ?_); go_simp; (try simp only [undef]); first | (with_reducible refine hK _ ?_; clear hK K) | (apply Exists.intro; refine ⟨fun _ => ?_, hK _ ?_⟩; (first | (go_at_call 21; with_reducible exact CN.out _ _)); clear hK K) | (with_reducible refine ⟨fun _ h => (by cases h), ?_⟩; with_reducible refine hK _ ?_; clear hK K))
                      refine wpQuiet_nil ?_
                      (try simp only [show Value.tuple #[] = undef from rfl])
                      intro W5 hW5
                      have hBW5 : Below w4.heap.size w4 W5 := by obtain ⟨g, rfl⟩ := hW5; exact gw_below _ g
                      clear hW5
                      have HB5 := Lib.hid (HB4.out.trans (hBW5.mono HB4.out.size))
                      clear hBW5
                      go_wp2_with fail
                      go_roundw
                      case rel => exact ⟨k + 1, by omega, by go_num, by rw [HST.out]; rfl, HB5.out⟩
                      case measure => simp [intOf]; omega
                    · have hst : pf.bestTo l n (k + 1) = some b := pf.best_stay HO.out.symm (fun x => x.2.elim (fun y => by rw [HR.out, hke] at y; cases y) (fun y => hc (by rw [HR.out, HRB'.out] at y; exact y)))
                      have hc' : decide (countI rb.name < countI r.name) = false := decide_eq_false hc
                      have HST := Lib.hid hst; have HBE := Lib.hid hbe; have HKE := Lib.hid hke
                      clear hst hbe hke
                      clear hc
                      go_wp2_with fail
                      refine wp_region_gw (by kernel_rfl) (by kernel_rfl) ?_
                      repeat (with_reducible refine wpQuiet_step (fun K hK => ?_); go_simp; (try simp only [undef]); first | (with_reducible refine hK _ ?_; clear hK K) | (apply Exists.intro; refine ⟨fun _ => ?_, hK _ ?_⟩; (first | (go_at_call 21; with_reducible exact CN.out _ _)); clear hK K) | (with_reducible refine ⟨fun _ h => (by cases h), ?_⟩; with_reducible refine hK _ ?_; clear hK K))
                      refine wpQuiet_nil ?_
                      (try simp only [show Value.tuple #[] = undef from rfl])
                      intro W5 hW5
                      have hBW5 : Below w4.heap.size w4 W5 := by obtain ⟨g, rfl⟩ := hW5; exact gw_below _ g
                      clear hW5
                      have HB5 := Lib.hid (HB4.out.trans (hBW5.mono HB4.out.size))
                      clear hBW5
                      go_wp2_with fail
                      go_roundw
                      case rel => exact ⟨k + 1, by omega, by go_num, by rw [HST.out]; rfl, HB5.out⟩
                      case measure => simp [intOf]; omega
          · have hst : pf.bestTo l n (k + 1) = o := (pf.best_skip (by rw [HR.out, pf.hit_below hrt hbe, ← HEQ.out]; rfl)).trans HO.out.symm
            have HST := Lib.hid hst; have HRT := Lib.hid hrt; have HBE := Lib.hid hbe
            clear hst hrt hbe
            have HBN := Lib.hid hB3'
            clear hB3'
            go_wp2_with fail
            go_roundw
            case rel => exact ⟨k + 1, by omega, by go_num, by rw [HST.out], HBN.out⟩
            case measure => simp [intOf]; omega
    · obtain rfl : k = l.length := by omega
      have hres : pf.optI o = pf.optI (pf.ruleO l n) := by rw [ho]; rfl
      rw [hres]
      have HB := Lib.hid hB; have HRES := Lib.hid hres; have HO := Lib.hid ho
      clear hB hres ho
      clear hlt
      go_wp2_with fail
      go_ret
      exact ⟨rfl, HB.out⟩
end Go.Proofs.Ytnloommafgnanaa

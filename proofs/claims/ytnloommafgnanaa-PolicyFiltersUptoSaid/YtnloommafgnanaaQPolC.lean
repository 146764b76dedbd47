/-
  gazetteerref11.Rule.
-/
import Derived.Test.YtnloommafgnanaaQPolB
namespace Go.Proofs.Ytnloommafgnanaa
open Go.RowKit Go.Shelf Go.Proofs.Ytnloommafgnanaa.nm Go.Proofs.Ytnloommafgnanaa.od

namespace pf
theorem exact_no {n : ByteArray} {r : Rul} (h : rightB r = false ∨ r.below = true ∨ equalB n r.name = false) : exactB n r = false := by
  unfold exactB hitB
  rcases h with h | h | h
  · simp [h]
  · simp [h]
  · cases r.below <;> simp [h]
theorem exact_yes {n : ByteArray} {r : Rul} (h : rightB r = true) (h1 : r.below = false) (h2 : equalB n r.name = true) : exactB n r = true := by
  unfold exactB hitB
  simp [h, h1, h2]
theorem no_next {l : List Rul} {n : ByteArray} {k : Nat} (h : ∀ j, j < k → exactB n l[j]! = false) (h1 : exactB n l[k]! = false) : ∀ j, j < k + 1 → exactB n l[j]! = false := fun j hj => by
  rcases Nat.lt_or_ge j k with h2 | h2
  · exact h j h2
  · rw [show j = k by omega]; exact h1
end pf

set_option maxRecDepth 100000 in
set_option maxHeartbeats 8000000 in
theorem rrule_any (l : List Rul) (hl : l.length ≤ 1000000000000) (hsz : ∀ r ∈ l, r.name.size ≤ 1099511627776) (n : ByteArray) (hn : n.size ≤ 1099511627776) (v : Value) (w : World) (hv : RulsAt w v l) :
    Calls Try.prog 7 #[v, .string n] w fun e w' => e = .returned (.int .i64 (pf.optI (pf.ruleO l n))) ∧ Below w.heap.size w w' := by
  obtain ⟨a, cap, rfl, -⟩ := id hv
  have HRV := Lib.hid hv; have HSZ := Lib.hid hsz; have HN := Lib.hid hn
  clear hv hsz hn
  go_enter Try.func7, Try.ntmps7
  go_wp2_with fail
  go_loopw [12, 5, 6] (fun kv _ _ wr => ∃ k : Nat, k ≤ l.length ∧ kv = .int .i64 (k : Int) ∧ (∀ j, j < k → pf.exactB n l[j]! = false) ∧ Below w.heap.size w wr) (fun kv _ _ _ => l.length - (intOf kv).toNat)
  case atStart => exact ⟨0, Nat.zero_le _, rfl, (fun j hj => absurd hj (Nat.not_lt_zero _)), Below.refl _ _⟩
  case round =>
    obtain ⟨k, hk, rfl, hno, hB⟩ := hrel
    have hsr := hB.size
    by_cases hlt : k < l.length
    · obtain ⟨_, _, hv, _, hr⟩ := HRV.out.below hB
      simp only [Value.slice.injEq] at hv
      obtain ⟨rfl, -, rfl⟩ := hv
      obtain ⟨bb, off, rfl, hbl, c0, c1, c2, c3, c4, c5⟩ := hr k hlt
      clear hr
      have hki : (k : Int) < (l.length : Int) := by omega
      obtain ⟨r, hr0⟩ : ∃ r, r = l[k] := ⟨_, rfl⟩
      have hrn : r.name.size ≤ 1099511627776 := HSZ.out r (by rw [hr0]; exact List.getElem_mem hlt)
      rw [← hr0] at c0 c1 c2 c3 c4 c5
      have hr : l[k]! = r := by rw [hr0]; exact pf.at_rule hlt
      obtain ⟨w1, hw1⟩ : ∃ X, X = wr.alloc (.cells (rulC r).toArray 51) := ⟨_, rfl⟩
      obtain ⟨hB1, hs1, hx1⟩ := rul_new wr w1 r hw1
      have lt1 : wr.heap.size < w1.heap.size := by omega
      have HB1 := Lib.hid (hB.trans (hB1.mono hsr))
      obtain ⟨p0, p1, p2, p3, p4, p5⟩ := id hx1
      clear hB1 hs1
      have HRN := Lib.hid hrn
      clear hrn
      have HR0 := Lib.hid hr0; have HR := Lib.hid hr; have HW1 := Lib.hid hw1; have HX1 := Lib.hid hx1; have HB := Lib.hid hB; have HNO := Lib.hid hno
      clear hr0 hr hw1 hx1 hB hno
      go_wp2_with fail
      rw [← HW1.out]
      refine (rright_any r HRN.out _).mono ?_
      rintro e w2 ⟨rfl, hB2⟩
      have HX2 := Lib.hid (HX1.out.below lt1 hB2)
      have hB3 := HB1.out.trans (hB2.mono HB1.out.size)
      clear hB2 p0 p1 p2 p3 p4 p5 c0 c1 c2 c3 c4 c5
      obtain ⟨p0, p1, p2, p3, p4, p5⟩ := id HX2.out
      cases hrt : pf.rightB r
      · have hno2 := pf.no_next HNO.out (by rw [HR.out]; exact pf.exact_no (.inl hrt))
        have HRT := Lib.hid hrt
        clear hrt
        have HNO2 := Lib.hid hno2; have HB3 := Lib.hid hB3
        clear hno2 hB3
        go_wp2_with fail
        go_roundw
        case rel => exact ⟨k + 1, by omega, by go_num, HNO2.out, HB3.out⟩
        case measure => simp [intOf]; omega
      · cases hbe : r.below
        · rw [hbe] at p1
          have HB2 := Lib.hid hB3
          have HRT := Lib.hid hrt; have HBE := Lib.hid hbe
          clear hrt hbe
          clear hB3
          go_wp2_with fail
          refine (requal_any _ _ HRN.out HN.out _).mono ?_
          rintro e w3 ⟨rfl, hB3'⟩
          have hB3 := HB2.out.trans (hB3'.mono HB2.out.size)
          rw [pf.equalB_comm]
          clear hB3' p0 p1 p2 p3 p4 p5
          cases heq : equalB n r.name
          · have hno2 := pf.no_next HNO.out (by rw [HR.out]; exact pf.exact_no (.inr (.inr heq)))
            have HEQ := Lib.hid heq
            clear heq
            have HNO2 := Lib.hid hno2; have HB3 := Lib.hid hB3
            clear hno2 hB3
            go_wp2_with fail
            go_roundw
            case rel => exact ⟨k + 1, by omega, by go_num, HNO2.out, HB3.out⟩
            case measure => simp [intOf]; omega
          · have hres : pf.optI (pf.ruleO l n) = (k : Int) := by rw [pf.ruleO_exact hlt HNO.out (by rw [HR.out]; exact pf.exact_yes HRT.out HBE.out heq)]; rfl
            have HEQ := Lib.hid heq; have HRES := Lib.hid hres; have HB3 := Lib.hid hB3
            clear heq hres hB3
            go_wp2_with fail
            go_ret
            exact ⟨congrArg (fun z => Ending.returned (.int .i64 z)) HRES.out.symm, HB3.out⟩
        · rw [hbe] at p1
          have hno2 := pf.no_next HNO.out (by rw [HR.out]; exact pf.exact_no (.inr (.inl hbe)))
          have HRT := Lib.hid hrt; have HBE := Lib.hid hbe
          clear hrt hbe
          have HNO2 := Lib.hid hno2; have HB3 := Lib.hid hB3
          clear hno2 hB3
          go_wp2_with fail
          go_roundw
          case rel => exact ⟨k + 1, by omega, by go_num, HNO2.out, HB3.out⟩
          case measure => simp [intOf]; omega
    · obtain rfl : k = l.length := by omega
      have hpl := pf.ruleO_plain hno
      obtain ⟨wo, hwo⟩ : ∃ wo : World, wo = wr := ⟨_, rfl⟩
      subst hwo
      have hse := hsr
      have HB := Lib.hid hB; have HPL := Lib.hid hpl; have HNO := Lib.hid hno
      clear hB hpl hno
      clear hlt hk hsr
      go_wp2_with fail
      go_loopw [34, 7, 8, 9] (fun kv bv _ _ wr => ∃ k : Nat, k ≤ l.length ∧ kv = .int .i64 (k : Int) ∧ bv = .int .i64 (pf.optI (pf.belowTo l n k)) ∧ Below w.heap.size w wr) (fun kv _ _ _ _ => l.length - (intOf kv).toNat)
      case atStart => exact ⟨0, Nat.zero_le _, rfl, rfl, HB.out⟩
      case round =>
        obtain ⟨k, hk, rfl, rfl, hB⟩ := hrel
        clear HB
        have hsr := hB.size
        obtain ⟨o, ho⟩ : ∃ o, o = pf.belowTo l n k := ⟨_, rfl⟩
        rw [← ho]
        by_cases hlt : k < l.length
        · obtain ⟨_, _, hv, _, hr⟩ := HRV.out.below hB
          simp only [Value.slice.injEq] at hv
          obtain ⟨rfl, -, rfl⟩ := hv
          obtain ⟨bb, off, rfl, hbl, c0, c1, c2, c3, c4, c5⟩ := hr k hlt
          clear hr
          have hki : (k : Int) < (l.length : Int) := by omega
          obtain ⟨r, hr0⟩ : ∃ r, r = l[k] := ⟨_, rfl⟩
          have hrn : r.name.size ≤ 1099511627776 := HSZ.out r (by rw [hr0]; exact List.getElem_mem hlt)
          rw [← hr0] at c0 c1 c2 c3 c4 c5
          have hr : l[k]! = r := by rw [hr0]; exact pf.at_rule hlt
          obtain ⟨w1, hw1⟩ : ∃ X, X = wr.alloc (.cells (rulC r).toArray 51) := ⟨_, rfl⟩
          obtain ⟨hB1, hs1, p0, p1, p2, p3, p4, p5⟩ := rul_new wr w1 r hw1
          have HB1 := Lib.hid hB1
          obtain ⟨be, hbe⟩ : ∃ b, b = r.below := ⟨_, rfl⟩
          rw [← hbe] at p1
          have g0 := gw_cell p0
          have g1 := gw_cell p1
          have g2 := gw_cell p2
          have g3 := gw_cell p3
          have g4 := gw_cell p4
          have g5 := gw_cell p5
          have CR : Hid (∀ g, Calls Try.prog 22 #[.agg #[.string r.name, .bool be, .int .i64 r.kind, .int .i64 r.typ, .int .i64 r.ttl, .string r.data]] (gw w1 g) fun e w'' => e = .returned (.bool (pf.rightB r)) ∧ ∃ g', w'' = gw w1 g') := Lib.hid fun g => by rw [hbe]; exact calls_gw (rright_any r hrn _)
          have CW : Hid (∀ g, Calls Try.prog 24 #[.string n, .string r.name] (gw w1 g) fun e w'' => e = .returned (.bool (withinB n r.name)) ∧ ∃ g', w'' = gw w1 g') := Lib.hid fun g => calls_gw (rwithin_any _ _ HN.out hrn _)
          have CE : Hid (∀ g, Calls Try.prog 23 #[.string n, .string r.name] (gw w1 g) fun e w'' => e = .returned (.bool (equalB n r.name)) ∧ ∃ g', w'' = gw w1 g') := Lib.hid fun g => calls_gw (requal_any _ _ HN.out hrn _)
          have CK : Hid (∀ g, Calls Try.prog 25 #[.string r.name] (gw w1 g) fun e w'' => e = .returned (.int .i64 (countI r.name)) ∧ ∃ g', w'' = gw w1 g') := Lib.hid fun g => calls_gw (rcount_any _ hrn _)
          clear hB1 hs1 p0 p1 p2 p3 p4 p5
          have HR0 := Lib.hid hr0; have HR := Lib.hid hr; have HW1 := Lib.hid hw1; have HB := Lib.hid hB; have HRN := Lib.hid hrn; have HO := Lib.hid ho
          clear hr0 hr hw1 hB hrn ho
          by_cases hit : pf.hitB n r = true ∧ r.below = true
          · have hrt : pf.rightB r = true := by
              cases h : pf.rightB r
              · rw [pf.hit_wrong h] at hit; exact absurd hit.1 (by simp)
              · rfl
            have hh := hit.1
            rw [pf.hit_below hrt hit.2] at hh
            simp only [Bool.and_eq_true, Bool.not_eq_true'] at hh
            obtain ⟨heq, hwi⟩ := hh
            rw [hrt] at CR
            rw [hwi] at CW
            rw [heq] at CE
            obtain rfl : true = be := (hbe.trans hit.2).symm
            have HBE := Lib.hid hbe
            clear hbe
            cases o with
            | none =>
              have hst : pf.belowTo l n (k + 1) = some k := pf.below_first (by rw [HR.out]; exact hit.1) (by rw [HR.out]; exact hit.2) HO.out.symm
              have HST := Lib.hid hst; have HRT := Lib.hid hrt; have HEQ := Lib.hid heq; have HWI := Lib.hid hwi; have HIT := Lib.hid hit
              clear hst hrt heq hwi hit
              rw [pf.optI_none]
              go_wp2_with fail
              rw [← HW1.out]
              refine wp_region_gw (by kernel_rfl) (by kernel_rfl) ?_
              repeat (with_reducible refine wpQuiet_step (fun K hK => ?_); go_simp; (try simp only [undef]); first | (with_reducible refine hK _ ?_; clear hK K) | (apply Exists.intro; refine ⟨fun _ => ?_, hK _ ?_⟩; (first | (go_at_call 22; with_reducible exact CR.out _) | (go_at_call 24; with_reducible exact CW.out _) | (go_at_call 23; with_reducible exact CE.out _)); clear hK K) | (with_reducible refine ⟨fun _ h => (by cases h), ?_⟩; with_reducible refine hK _ ?_; clear hK K))
              refine wpQuiet_nil ?_
              (try simp only [show Value.tuple #[] = undef from rfl])
              intro W hW
              have hBW : Below w1.heap.size w1 W := by obtain ⟨g, rfl⟩ := hW; exact gw_below _ g
              clear hW
              have HBW := Lib.hid (HB.out.trans ((HB1.out.trans (hBW.mono HB1.out.size)).mono hsr))
              clear hBW
              go_wp2_with fail
              go_roundw
              case rel => exact ⟨k + 1, by omega, by go_num, by rw [HST.out];rfl, HBW.out⟩
              case measure => simp [intOf]; omega
            | some b =>
              have hbk : b < k := pf.belowTo_lt l n k b HO.out.symm
              have hbl2 : b < l.length := by omega
              obtain ⟨hbb, d0, d1, d2, d3, d4, d5⟩ := rul_cells (HRV.out.below HB.out) hbl2
              obtain ⟨rb, hrb⟩ : ∃ r, r = l[b] := ⟨_, rfl⟩
              have hrbn : rb.name.size ≤ 1099511627776 := HSZ.out rb (by rw [hrb]; exact List.getElem_mem hbl2)
              rw [← hrb] at d0 d1 d2 d3 d4 d5
              have hrb' : l[b]! = rb := by rw [hrb]; exact pf.at_rule hbl2
              have d0' : w1.cell? ⟨bb, off + b * 6, none⟩ = some (.string rb.name) := (HB1.out.cell (p := ⟨bb, off + b * 6, none⟩) hbb).trans d0
              have q0 := gw_cell d0'
              have hbi : (b : Int) < (l.length : Int) := by omega
              have hb0 : decide ((b : Int) < 0) = false := decide_eq_false (by omega)
              rw [pf.optI_some]
              have CC : Hid (∀ g, Calls Try.prog 25 #[.string rb.name] (gw w1 g) fun e w'' => e = .returned (.int .i64 (countI rb.name)) ∧ ∃ g', w'' = gw w1 g') := Lib.hid fun g => calls_gw (rcount_any _ hrbn _)
              clear d0 d1 d2 d3 d4 d5 d0' hbk
              have HRB := Lib.hid hrb; have HRB' := Lib.hid hrb'; have HRBN := Lib.hid hrbn
              clear hrb hrb' hrbn
              by_cases hc : countI rb.name < countI r.name
              · have hst : pf.belowTo l n (k + 1) = some k := pf.below_take (by rw [HR.out]; exact hit.1) (by rw [HR.out]; exact hit.2) HO.out.symm (by rw [HR.out, HRB'.out]; exact hc)
                have hc' : decide (countI rb.name < countI r.name) = true := decide_eq_true hc
                have HST := Lib.hid hst; have HRT := Lib.hid hrt; have HEQ := Lib.hid heq; have HWI := Lib.hid hwi; have HIT := Lib.hid hit
                clear hst hrt heq hwi hit
                clear hc
                go_wp2_with fail
                rw [← HW1.out]
                refine wp_region_gw (by kernel_rfl) (by kernel_rfl) ?_
                repeat (with_reducible refine wpQuiet_step (fun K hK => ?_); go_simp; (try simp only [undef]); first | (with_reducible refine hK _ ?_; clear hK K) | (apply Exists.intro; refine ⟨fun _ => ?_, hK _ ?_⟩; (first | (go_at_call 22; with_reducible exact CR.out _) | (go_at_call 24; with_reducible exact CW.out _) | (go_at_call 23; with_reducible exact CE.out _) | (go_at_call 25; with_reducible exact CC.out _) | (go_at_call 25; with_reducible exact CK.out _)); clear hK K) | (with_reducible refine ⟨fun _ h => (by cases h), ?_⟩; with_reducible refine hK _ ?_; clear hK K))
                refine wpQuiet_nil ?_
                (try simp only [show Value.tuple #[] = undef from rfl])
                intro W hW
                have hBW : Below w1.heap.size w1 W := by obtain ⟨g, rfl⟩ := hW; exact gw_below _ g
                clear hW
                have HBW := Lib.hid (HB.out.trans ((HB1.out.trans (hBW.mono HB1.out.size)).mono hsr))
                clear hBW
                go_wp2_with fail
                go_roundw
                case rel => exact ⟨k + 1, by omega, by go_num, by rw [HST.out];rfl, HBW.out⟩
                case measure => simp [intOf]; omega
              · have hst : pf.belowTo l n (k + 1) = some b := pf.below_stay HO.out.symm (fun y => hc (by rw [HR.out, HRB'.out] at y; exact y))
                have hc' : decide (countI rb.name < countI r.name) = false := decide_eq_false hc
                have HST := Lib.hid hst; have HRT := Lib.hid hrt; have HEQ := Lib.hid heq; have HWI := Lib.hid hwi; have HIT := Lib.hid hit
                clear hst hrt heq hwi hit
                clear hc
                go_wp2_with fail
                rw [← HW1.out]
                refine wp_region_gw (by kernel_rfl) (by kernel_rfl) ?_
                repeat (with_reducible refine wpQuiet_step (fun K hK => ?_); go_simp; (try simp only [undef]); first | (with_reducible refine hK _ ?_; clear hK K) | (apply Exists.intro; refine ⟨fun _ => ?_, hK _ ?_⟩; (first | (go_at_call 22; with_reducible exact CR.out _) | (go_at_call 24; with_reducible exact CW.out _) | (go_at_call 23; with_reducible exact CE.out _) | (go_at_call 25; with_reducible exact CC.out _) | (go_at_call 25; with_reducible exact CK.out _)); clear hK K) | (with_reducible refine ⟨fun _ h => (by cases h), ?_⟩; with_reducible refine hK _ ?_; clear hK K))
                refine wpQuiet_nil ?_
                (try simp only [show Value.tuple #[] = undef from rfl])
                intro W hW
                have hBW : Below w1.heap.size w1 W := by obtain ⟨g, rfl⟩ := hW; exact gw_below _ g
                clear hW
                have HBW := Lib.hid (HB.out.trans ((HB1.out.trans (hBW.mono HB1.out.size)).mono hsr))
                clear hBW
                go_wp2_with fail
                go_roundw
                case rel => exact ⟨k + 1, by omega, by go_num, by rw [HST.out];rfl, HBW.out⟩
                case measure => simp [intOf]; omega
          · have hst : pf.belowTo l n (k + 1) = o := (pf.below_skip (by rw [HR.out]; exact hit)).trans HO.out.symm
            cases hrt : pf.rightB r
            · rw [hrt] at CR
              have HST := Lib.hid hst; have HRT := Lib.hid hrt; have HIT := Lib.hid hit; have HBE := Lib.hid hbe
              clear hst hrt hit hbe
              go_wp2_with fail
              rw [← HW1.out]
              refine wp_region_gw (by kernel_rfl) (by kernel_rfl) ?_
              repeat (with_reducible refine wpQuiet_step (fun K hK => ?_); go_simp; (try simp only [undef]); first | (with_reducible refine hK _ ?_; clear hK K) | (apply Exists.intro; refine ⟨fun _ => ?_, hK _ ?_⟩; (first | (go_at_call 22; with_reducible exact CR.out _) | (go_at_call 24; with_reducible exact CW.out _) | (go_at_call 23; with_reducible exact CE.out _)); clear hK K) | (with_reducible refine ⟨fun _ h => (by cases h), ?_⟩; with_reducible refine hK _ ?_; clear hK K))
              refine wpQuiet_nil ?_
              (try simp only [show Value.tuple #[] = undef from rfl])
              intro W hW
              have hBW : Below w1.heap.size w1 W := by obtain ⟨g, rfl⟩ := hW; exact gw_below _ g
              clear hW
              have HBW := Lib.hid (HB.out.trans ((HB1.out.trans (hBW.mono HB1.out.size)).mono hsr))
              clear hBW
              go_wp2_with fail
              go_roundw
              case rel => exact ⟨k + 1, by omega, by go_num, by rw [HST.out], HBW.out⟩
              case measure => simp [intOf]; omega
            · rw [hrt] at CR
              cases be
              · have HST := Lib.hid hst; have HRT := Lib.hid hrt; have HIT := Lib.hid hit; have HBE := Lib.hid hbe
                clear hst hrt hit hbe
                go_wp2_with fail
                rw [← HW1.out]
                refine wp_region_gw (by kernel_rfl) (by kernel_rfl) ?_
                repeat (with_reducible refine wpQuiet_step (fun K hK => ?_); go_simp; (try simp only [undef]); first | (with_reducible refine hK _ ?_; clear hK K) | (apply Exists.intro; refine ⟨fun _ => ?_, hK _ ?_⟩; (first | (go_at_call 22; with_reducible exact CR.out _) | (go_at_call 24; with_reducible exact CW.out _) | (go_at_call 23; with_reducible exact CE.out _)); clear hK K) | (with_reducible refine ⟨fun _ h => (by cases h), ?_⟩; with_reducible refine hK _ ?_; clear hK K))
                refine wpQuiet_nil ?_
                (try simp only [show Value.tuple #[] = undef from rfl])
                intro W hW
                have hBW : Below w1.heap.size w1 W := by obtain ⟨g, rfl⟩ := hW; exact gw_below _ g
                clear hW
                have HBW := Lib.hid (HB.out.trans ((HB1.out.trans (hBW.mono HB1.out.size)).mono hsr))
                clear hBW
                go_wp2_with fail
                go_roundw
                case rel => exact ⟨k + 1, by omega, by go_num, by rw [HST.out], HBW.out⟩
                case measure => simp [intOf]; omega
              · cases hwi : withinB n r.name
                · rw [hwi] at CW
                  have HST := Lib.hid hst; have HRT := Lib.hid hrt; have HIT := Lib.hid hit; have HBE := Lib.hid hbe; have HWI := Lib.hid hwi
                  clear hst hrt hit hbe hwi
                  go_wp2_with fail
                  rw [← HW1.out]
                  refine wp_region_gw (by kernel_rfl) (by kernel_rfl) ?_
                  repeat (with_reducible refine wpQuiet_step (fun K hK => ?_); go_simp; (try simp only [undef]); first | (with_reducible refine hK _ ?_; clear hK K) | (apply Exists.intro; refine ⟨fun _ => ?_, hK _ ?_⟩; (first | (go_at_call 22; with_reducible exact CR.out _) | (go_at_call 24; with_reducible exact CW.out _) | (go_at_call 23; with_reducible exact CE.out _)); clear hK K) | (with_reducible refine ⟨fun _ h => (by cases h), ?_⟩; with_reducible refine hK _ ?_; clear hK K))
                  refine wpQuiet_nil ?_
                  (try simp only [show Value.tuple #[] = undef from rfl])
                  intro W hW
                  have hBW : Below w1.heap.size w1 W := by obtain ⟨g, rfl⟩ := hW; exact gw_below _ g
                  clear hW
                  have HBW := Lib.hid (HB.out.trans ((HB1.out.trans (hBW.mono HB1.out.size)).mono hsr))
                  clear hBW
                  go_wp2_with fail
                  go_roundw
                  case rel => exact ⟨k + 1, by omega, by go_num, by rw [HST.out], HBW.out⟩
                  case measure => simp [intOf]; omega
                · cases heq : equalB n r.name
                  · exact absurd ⟨by rw [pf.hit_below hrt hbe.symm, hwi, heq]; rfl, hbe.symm⟩ hit
                  · rw [hwi] at CW
                    rw [heq] at CE
                    have HST := Lib.hid hst; have HRT := Lib.hid hrt; have HIT := Lib.hid hit; have HBE := Lib.hid hbe; have HWI := Lib.hid hwi; have HEQ := Lib.hid heq
                    clear hst hrt hit hbe hwi heq
                    go_wp2_with fail
                    rw [← HW1.out]
                    refine wp_region_gw (by kernel_rfl) (by kernel_rfl) ?_
                    repeat (with_reducible refine wpQuiet_step (fun K hK => ?_); go_simp; (try simp only [undef]); first | (with_reducible refine hK _ ?_; clear hK K) | (apply Exists.intro; refine ⟨fun _ => ?_, hK _ ?_⟩; (first | (go_at_call 22; with_reducible exact CR.out _) | (go_at_call 24; with_reducible exact CW.out _) | (go_at_call 23; with_reducible exact CE.out _)); clear hK K) | (with_reducible refine ⟨fun _ h => (by cases h), ?_⟩; with_reducible refine hK _ ?_; clear hK K))
                    refine wpQuiet_nil ?_
                    (try simp only [show Value.tuple #[] = undef from rfl])
                    intro W hW
                    have hBW : Below w1.heap.size w1 W := by obtain ⟨g, rfl⟩ := hW; exact gw_below _ g
                    clear hW
                    have HBW := Lib.hid (HB.out.trans ((HB1.out.trans (hBW.mono HB1.out.size)).mono hsr))
                    clear hBW
                    go_wp2_with fail
                    go_roundw
                    case rel => exact ⟨k + 1, by omega, by go_num, by rw [HST.out], HBW.out⟩
                    case measure => simp [intOf]; omega
        · obtain rfl : k = l.length := by omega
          rw [ho]
          have HB := Lib.hid hB; have HO := Lib.hid ho
          clear hB ho
          clear hlt
          go_wp2_with fail
          go_ret
          exact ⟨congrArg (fun z => Ending.returned (.int .i64 (pf.optI z))) HPL.out.symm, HB.out⟩
end Go.Proofs.Ytnloommafgnanaa

/-
  slices.SortStableFunc of records: the merge in place, whole.
-/
import Derived.Test.YtnloommafgnanaaGreatQSymB
namespace Go.Proofs.YtnloommafgnanaaGreat
open Go.RowKit Go.Shelf Go.Sort Go.Proofs.YtnloommafgnanaaGreat.nm Go.Proofs.YtnloommafgnanaaGreat.od Go.Proofs.YtnloommafgnanaaGreat.sm

section
variable {α : Type} [Inhabited α] {rc : α → Rec} {w : World} {blk n : Nat} {cf : α → α → Int} {g : Nat} {lt : α → α → Bool}
/-- What a call of the merge answers. -/
def MergeCall (rc : α → Rec) (w : World) (blk n : Nat) (cf : α → α → Int) (g : Nat) (lt : α → α → Bool) (cap a mm b : Nat) : Prop :=
  ∀ (m : Nat) (dk : Array α) (os : Array Obj), dk.size = n → Pre (ltOf cf) lt a mm b dk →
    Calls Tryz.prog 58 #[.slice (some ⟨blk, 0, none⟩) n cap, .int .i64 (a : Int), .int .i64 (mm : Int), .int .i64 (b : Int), .func (.func g) #[] #[]] (SW rc w blk m dk os) fun en w' =>
      en = .returned (.tuple #[]) ∧ Merged rc w blk n lt a b dk w'
/-- Behind the search and the rotation. -/
def Turned (rc : α → Rec) (w : World) (blk n : Nat) (a i mid e b : Nat) (dk : Array α) (w' : World) : Prop :=
  ∃ m1 d1 o1, w' = SW rc w blk m1 d1 o1 ∧ d1.size = n ∧ PermIn a b dk d1 ∧ ∀ x, x < n → d1[x]! = rotF (fun y => dk[y]!) i mid e x
set_option maxRecDepth 100000 in
set_option maxHeartbeats 16000000 in
theorem sym_mid (hC : SortC rc w blk n) (hcmp : CmpC rc cf g w blk n) (eg : ∀ args w, (callFunc g args).run Tryz.prog w = .ok (.enter g args) w) (hS : SWO lt) (a mm b cap : Nat) (h1 : a + 1 < mm) (h2 : mm + 1 < b)
    (ih : ∀ a' mm' b', b' - a' < b - a → MergeCall rc w blk n cf g lt cap a' mm' b') : MergeCall rc w blk n cf g lt cap a mm b := by
  intro m dk os hs hP
  have HC := Lib.hid hC; have HS := Lib.hid hs; have HCMP := Lib.hid hcmp; have HSW := Lib.hid hS; have HP := Lib.hid hP; have IH := Lib.hid ih
  have hsz := hC.sz; have hbs := hP.bs
  have hbn : b ≤ n := by omega
  have mixed : Tryz.prog.follows .mixedOrders = true := by kernel_rfl
  have e0 : ¬ (mm : Int) - (a : Int) = 1 := by omega
  have e1 : ¬ (b : Int) - (mm : Int) = 1 := by omega
  obtain ⟨mid, hmid⟩ : ∃ mid, mid = (a + b) / 2 := ⟨_, rfl⟩
  obtain ⟨lo, hlo⟩ : ∃ lo, lo = if mid < mm then mid + mm - b else a := ⟨_, rfl⟩
  obtain ⟨hi, hhi⟩ : ∃ hi, hi = if mid < mm then mid else mm := ⟨_, rfl⟩
  have hm1 : 2 * mid ≤ a + b := by omega
  have hm2 : a + b ≤ 2 * mid + 1 := by omega
  have hm3 : a < mid := by omega
  have hm4 : mid < b := by omega
  have HLO := Lib.hid hlo; have HHI := Lib.hid hhi; have HMID := Lib.hid hmid
  have hlohi : a ≤ lo ∧ lo ≤ hi ∧ hi ≤ mm ∧ mid + mm < b + lo + 1 ∧ hi ≤ mid := by
    by_cases hc : mid < mm
    · rw [if_pos hc] at hlo hhi; omega
    · rw [if_neg hc] at hlo hhi; omega
  obtain ⟨l1, l2, l3, l4, l5⟩ := hlohi
  clear hC hcmp hS hP hs hbs ih hlo hhi hmid
  go_enter Tryz.func58, Tryz.ntmps58
  go_upto_if 140 with fail
  clear e0 e1
  rw [show ((a : Int) + (b : Int)) / 2 = (mid : Int) by have := HMID.out; omega]
  go_cut [20, 21] (fun s r wx => s = .int .i64 (lo : Int) ∧ r = .int .i64 (hi : Int) ∧ wx = SW rc w blk m dk os)
  case first =>
    as_aux_lemma =>
      by_cases hc : mid < mm
      · have hc' : (mm : Int) > (mid : Int) := by omega
        have hc2 : (mid : Int) < (mm : Int) := by omega
        go_wp2_with fail
        go_meet
        have e1 := HLO.out; have e2 := HHI.out
        rw [if_pos hc] at e1 e2
        exact ⟨by congr 1; omega, by congr 1; omega, rfl⟩
      · have hc' : ¬ (mm : Int) > (mid : Int) := by omega
        have hc2 : ¬ (mid : Int) < (mm : Int) := by omega
        go_wp2_with fail
        go_meet
        have e1 := HLO.out; have e2 := HHI.out
        rw [if_neg hc] at e1 e2
        exact ⟨by congr 1; omega, by congr 1; omega, rfl⟩
  case rest =>
    obtain ⟨rfl, rfl, rfl⟩ := hcut
    go_wp2_with fail
    obtain ⟨pp, hpp⟩ : ∃ pp, pp = mid + mm - 1 := ⟨_, rfl⟩
    rw [show (mid : Int) + (mm : Int) - 1 = (pp : Int) by omega]
    have HPP := Lib.hid hpp
    have l6 : pp < b + lo := by omega
    have l7 : mm + hi ≤ pp + 1 := by omega
    clear hpp
    go_loopw [20, 21] (fun iv jv wr => ∃ i j m' os', lo ≤ i ∧ i ≤ j ∧ j ≤ hi ∧ iv = .int .i64 (i : Int) ∧ jv = .int .i64 (j : Int) ∧ Hid (wr = SW rc w blk m' dk os' ∧ Srch (fun x => !ltOf cf dk[pp - x]! dk[x]!) lo hi i j)) (fun iv jv _ => (intOf jv).toNat - (intOf iv).toNat)
    case atStart => exact ⟨lo, hi, m, os, Nat.le_refl _, l2, Nat.le_refl _, rfl, rfl, Lib.hid ⟨rfl, Srch.begin _ l2⟩⟩
    case round =>
      obtain ⟨i, j, m', os', him, hij, hjb, rfl, rfl, HR⟩ := hrel
      have hw := HR.out.1
      subst hw
      by_cases hlt : i < j
      · obtain ⟨h, hh⟩ : ∃ h, h = (i + j) / 2 := ⟨_, rfl⟩
        have hih : i ≤ h := by omega
        have hhj : h < j := by omega
        have hn' : h < n := by omega
        go_upto_region 35 with fail
        rw [show ((i : Int) + (j : Int)) / 2 = (h : Int) by omega]
        obtain ⟨q, hq⟩ : ∃ q, q = pp - h := ⟨_, rfl⟩
        have wk : IntKind.i64.wrap ((pp : Int) - (h : Int)) = (q : Int) := by rw [IntKind.wrap_i64]; omega
        have HH := Lib.hid hh
        obtain ⟨x, hx⟩ : ∃ x, dk[q]! = x := ⟨_, rfl⟩
        obtain ⟨y, hy⟩ : ∃ y, dk[h]! = y := ⟨_, rfl⟩
        obtain ⟨wq, hwq⟩ : ∃ X, X = SW rc w blk m' dk os' := ⟨_, rfl⟩
        have gx := at_grown hwq HC.out HS.out (show q < n by omega) hx
        have gy := at_grown hwq HC.out HS.out (show h < n by omega) hy
        have hcg := cmp_grown (x := x) (y := y) hwq HCMP.out HS.out
        have X0 := fun k os' => (gx k os').1; have X1 := fun k os' => (gx k os').2.1; have X2 := fun k os' => (gx k os').2.2.1; have X3 := fun k os' => (gx k os').2.2.2.1; have X4 := fun k os' => (gx k os').2.2.2.2
        have Y0 := fun k os' => (gy k os').1; have Y1 := fun k os' => (gy k os').2.1; have Y2 := fun k os' => (gy k os').2.2.1; have Y3 := fun k os' => (gy k os').2.2.2.1; have Y4 := fun k os' => (gy k os').2.2.2.2
        have hp1 : (q : Int) < (n : Int) := by omega
        have hq1 : (h : Int) < (n : Int) := by omega
        have HX := Lib.hid hx; have HY := Lib.hid hy; have HWQ := Lib.hid hwq
        rw [← hwq]
        clear gx gy hx hy hwq
        have HQ := Lib.hid hq
        clear hh hq
        have A3 := Lib.hid (anti3 HSW.out HP.out l1 l3 l6 l7)
        as_aux_lemma =>
          by_cases hlv : cf x y < 0
          · go_quiet_grown (first | (go_at_fn g; refine Calls.grown_of (hcg _ _)))
            clear X0 X1 X2 X3 X4 Y0 Y1 Y2 Y3 Y4 hcg wk
            have hw2 : grow (wq.drewN nq) osq = SW rc w blk (m' + nq) dk (os' ++ osq) := by rw [HWQ.out]; exact sw_grown _ _
            have HW2 := Lib.hid hw2
            clear hw2
            go_wp2_with fail
            go_roundw
            case rel => exact ⟨i, h, _, _, him, hih, by omega, rfl, rfl, Lib.hid ⟨HW2.out, HR.out.2.down A3.out hih hhj (by have e : ltOf cf dk[pp - h]! dk[h]! = true := by { rw [← HQ.out, HX.out, HY.out]; exact decide_eq_true hlv }; simp only [e, Bool.not_true])⟩⟩
            case measure => simp [intOf]; omega
          · go_quiet_grown (first | (go_at_fn g; refine Calls.grown_of (hcg _ _)))
            clear X0 X1 X2 X3 X4 Y0 Y1 Y2 Y3 Y4 hcg wk
            have hw2 : grow (wq.drewN nq) osq = SW rc w blk (m' + nq) dk (os' ++ osq) := by rw [HWQ.out]; exact sw_grown _ _
            have HW2 := Lib.hid hw2
            clear hw2
            go_wp2_with fail
            go_roundw
            case rel => exact ⟨h + 1, j, _, _, by omega, by omega, hjb, by go_num, rfl, Lib.hid ⟨HW2.out, HR.out.2.up A3.out hih hhj (by have e : ltOf cf dk[pp - h]! dk[h]! = false := by { rw [← HQ.out, HX.out, HY.out]; exact decide_eq_false hlv }; simp only [e, Bool.not_false])⟩⟩
            case measure => simp [intOf]; omega
      · obtain rfl : i = j := by omega
        clear hlt hij
        obtain ⟨e, he⟩ : ∃ e, e = mid + mm - i := ⟨_, rfl⟩
        have g2 : i ≤ mm := by omega
        have g3 : i ≤ mid := by omega
        have g4 : e ≤ b := by omega
        have g5 : mm ≤ e := by omega
        have g6 : mid ≤ e := by omega
        have g1 : a ≤ i := by omega
        go_upto_region 39 with fail
        rw [show (mid : Int) + (mm : Int) - (i : Int) = (e : Int) by omega]
        have HE := Lib.hid he
        clear he
        obtain ⟨tb, htb⟩ : ∃ tb, tb = decide (i < mm ∧ mm < e) := ⟨_, rfl⟩
        have HTB := Lib.hid htb
        clear htb
        go_cut [185] (fun s wx => s = .bool tb ∧ wx = SW rc w blk m' dk os')
        case first =>
          as_aux_lemma =>
            by_cases q1 : i < mm
            · have q1' : (i : Int) < (mm : Int) := by omega
              by_cases q2 : mm < e
              · have q2' : (mm : Int) < (e : Int) := by omega
                go_wp2_with fail
                go_meet
                exact ⟨by rw [HTB.out, decide_eq_true (show i < mm ∧ mm < e from ⟨q1, q2⟩)], rfl⟩
              · have q2' : ¬ (mm : Int) < (e : Int) := by omega
                go_wp2_with fail
                go_meet
                exact ⟨by rw [HTB.out, decide_eq_false (show ¬ (i < mm ∧ mm < e) from fun h => q2 h.2)], rfl⟩
            · have q1' : ¬ (i : Int) < (mm : Int) := by omega
              go_wp2_with fail
              go_meet
              exact ⟨by rw [HTB.out, decide_eq_false (show ¬ (i < mm ∧ mm < e) from fun h => q1 h.1)], rfl⟩
        case rest =>
        obtain ⟨rfl, rfl⟩ := hcut
        go_upto_if 185 with fail
        go_cut [24] (fun s wx => s = .int .i64 (e : Int) ∧ Turned rc w blk n a i mm e b dk wx)
        case first =>
          as_aux_lemma =>
            cases tb with
            | true =>
              have hb := (of_decide_eq_true HTB.out.symm)
              go_wp2_with fail
              refine (rotate_any HC.out i mm e cap _ HS.out hb.1 hb.2 (by omega)).mono ?_
              rintro en w' ⟨rfl, m2, d2, rfl, hs2, hp2, hx2⟩
              have HT := Lib.hid (show Turned rc w blk n a i mm e b dk (SW rc w blk m2 d2 os') from ⟨m2, d2, os', rfl, hs2, permIn_mono _ _ _ _ _ _ g1 g4 (by have := HS.out; omega) hp2, hx2⟩)
              clear hs2 hp2 hx2 hb
              go_wp2_with fail
              go_meet
              exact ⟨rfl, HT.out⟩
            | false =>
              have hb := (of_decide_eq_false HTB.out.symm)
              have HT := Lib.hid (show Turned rc w blk n a i mm e b dk (SW rc w blk m' dk os') from ⟨m', dk, os', rfl, HS.out, permIn_refl _ _ _, fun x _ => by
                rcases Nat.lt_or_ge i mm with hl | hl
                · obtain rfl : mm = e := by omega
                  rw [rot_none_right]
                · obtain rfl : i = mm := by omega
                  rw [rot_none_left]⟩)
              clear hb
              go_wp2_with fail
              go_meet
              exact ⟨rfl, HT.out⟩
        case rest =>
          obtain ⟨rfl, m1, d1, o1, rfl, hs1, hp1, hx1⟩ := hcut
          have hme : i + (e - mm) = mid := by have := HE.out; omega
          have hR : Rot i mm e b dk d1 := ⟨g2, g5, g4, by have := HS.out; omega, by rw [hs1, HS.out], fun x hx => hx1 x (by have := HS.out; omega)⟩
          have hPA := parts3 HSW.out HP.out (mid := mid) (lo := lo) (hi := hi) (i := i) (d' := d1) hm1 HLO.out HHI.out hm2 (by have h := HR.out.2; rw [HPP.out] at h; exact h) (fun x hx => by rw [← HE.out]; exact hx1 x (by have := HS.out; omega))
          have PA := Lib.hid (show Parts lt a i mid e b d1 by have h := hPA.2.2.2.2.2.2; rw [← HE.out] at h; exact h)
          have HRO := Lib.hid hR; have HME := Lib.hid hme
          have HS1 := Lib.hid hs1; have HP1 := Lib.hid hp1
          clear hs1 hp1 hx1 hPA hR hme HTB
          go_upto_region 41 with fail
          obtain ⟨tb, htb⟩ : ∃ tb, tb = decide (a < i ∧ i < mid) := ⟨_, rfl⟩
          have HTB := Lib.hid htb
          clear htb
          go_cut [199] (fun s wx => s = .bool tb ∧ wx = SW rc w blk m1 d1 o1)
          case first =>
            as_aux_lemma =>
              by_cases q1 : a < i
              · have q1' : (a : Int) < (i : Int) := by omega
                by_cases q2 : i < mid
                · have q2' : (i : Int) < (mid : Int) := by omega
                  go_wp2_with fail
                  go_meet
                  exact ⟨by rw [HTB.out, decide_eq_true (show a < i ∧ i < mid from ⟨q1, q2⟩)], rfl⟩
                · have q2' : ¬ (i : Int) < (mid : Int) := by omega
                  go_wp2_with fail
                  go_meet
                  exact ⟨by rw [HTB.out, decide_eq_false (show ¬ (a < i ∧ i < mid) from fun h => q2 h.2)], rfl⟩
              · have q1' : ¬ (a : Int) < (i : Int) := by omega
                go_wp2_with fail
                go_meet
                exact ⟨by rw [HTB.out, decide_eq_false (show ¬ (a < i ∧ i < mid) from fun h => q1 h.1)], rfl⟩
          case rest =>
          obtain ⟨rfl, rfl⟩ := hcut
          go_upto_if 199 with fail
          go_cut [24] (fun s wx => s = .int .i64 (e : Int) ∧ ∃ m2 d2 o2, wx = SW rc w blk m2 d2 o2 ∧ d2.size = n ∧ PermIn a mid d1 d2 ∧ SortedIn lt a mid d2)
          case first =>
            as_aux_lemma =>
              cases tb with
              | true =>
                have hb := (of_decide_eq_true HTB.out.symm)
                go_wp2_with fail
                refine (IH.out a i mid (by omega) m1 d1 o1 HS1.out (pre_low HP.out HRO.out HME.out PA.out hb.1 hb.2)).mono ?_
                rintro en w' ⟨rfl, m2, d2, o2, rfl, hs2, hp2⟩
                have HT := Lib.hid (show ∃ m3 d3 o3, SW rc w blk m2 d2 o2 = SW rc w blk m3 d3 o3 ∧ d3.size = n ∧ PermIn a mid d1 d3 ∧ SortedIn lt a mid d3 from ⟨m2, d2, o2, rfl, hs2, hp2.perm, hp2.sorted⟩)
                clear hs2 hp2 hb
                go_wp2_with fail
                go_meet
                exact ⟨rfl, HT.out⟩
              | false =>
                have hb := (of_decide_eq_false HTB.out.symm)
                have HT := Lib.hid (show ∃ m3 d3 o3, SW rc w blk m1 d1 o1 = SW rc w blk m3 d3 o3 ∧ d3.size = n ∧ PermIn a mid d1 d3 ∧ SortedIn lt a mid d3 from ⟨m1, d1, o1, rfl, HS1.out, permIn_refl _ _ _, low_sorted PA.out hb g1 g3⟩)
                clear hb
                go_wp2_with fail
                go_meet
                exact ⟨rfl, HT.out⟩
          case rest =>
            obtain ⟨rfl, m2, d2, o2, rfl, hs2, hp2, hq2⟩ := hcut
            have HS2 := Lib.hid hs2; have HP2 := Lib.hid hp2; have HQ2 := Lib.hid hq2
            clear hs2 hp2 hq2 HTB
            go_upto_region 43 with fail
            obtain ⟨tb, htb⟩ : ∃ tb, tb = decide (mid < e ∧ e < b) := ⟨_, rfl⟩
            have HTB := Lib.hid htb
            clear htb
            go_cut [213] (fun s wx => s = .bool tb ∧ wx = SW rc w blk m2 d2 o2)
            case first =>
              as_aux_lemma =>
                by_cases q1 : mid < e
                · have q1' : (mid : Int) < (e : Int) := by omega
                  by_cases q2 : e < b
                  · have q2' : (e : Int) < (b : Int) := by omega
                    go_wp2_with fail
                    go_meet
                    exact ⟨by rw [HTB.out, decide_eq_true (show mid < e ∧ e < b from ⟨q1, q2⟩)], rfl⟩
                  · have q2' : ¬ (e : Int) < (b : Int) := by omega
                    go_wp2_with fail
                    go_meet
                    exact ⟨by rw [HTB.out, decide_eq_false (show ¬ (mid < e ∧ e < b) from fun h => q2 h.2)], rfl⟩
                · have q1' : ¬ (mid : Int) < (e : Int) := by omega
                  go_wp2_with fail
                  go_meet
                  exact ⟨by rw [HTB.out, decide_eq_false (show ¬ (mid < e ∧ e < b) from fun h => q1 h.1)], rfl⟩
            case rest =>
            obtain ⟨rfl, rfl⟩ := hcut
            as_aux_lemma =>
              cases tb with
              | true =>
                have hb := (of_decide_eq_true HTB.out.symm)
                go_wp2_with fail
                refine (IH.out mid e b (by omega) m2 d2 o2 HS2.out (pre_high HP.out HRO.out HME.out PA.out HP2.out g1 hb.1 hb.2)).mono ?_
                rintro en w' ⟨rfl, m3, d3, o3, rfl, hs3, hp3⟩
                have HT := Lib.hid (show Merged rc w blk n lt a b dk (SW rc w blk m3 d3 o3) from ⟨m3, d3, o3, rfl, hs3, whole_post (by omega) (by omega) HP.out.bs PA.out HP1.out HP2.out HQ2.out hp3.perm hp3.sorted⟩)
                clear hs3 hp3 hb
                go_wp2_with fail
                go_end0
                exact ⟨rfl, HT.out⟩
              | false =>
                have hb := (of_decide_eq_false HTB.out.symm)
                have HT := Lib.hid (show Merged rc w blk n lt a b dk (SW rc w blk m2 d2 o2) from ⟨m2, d2, o2, rfl, HS2.out, whole_post (by omega) (by omega) HP.out.bs PA.out HP1.out HP2.out HQ2.out (permIn_refl _ _ _) (high_sorted PA.out HP2.out hb g6 g4)⟩)
                clear hb
                go_wp2_with fail
                go_end0
                exact ⟨rfl, HT.out⟩
/-- slices.symMergeCmpFunc of records. -/
theorem symMerge_any (hC : SortC rc w blk n) (hcmp : CmpC rc cf g w blk n) (eg : ∀ args w, (callFunc g args).run Tryz.prog w = .ok (.enter g args) w) (hS : SWO lt) (cap : Nat) : ∀ (N a mm b : Nat), b - a ≤ N → MergeCall rc w blk n cf g lt cap a mm b := by
  intro N
  induction N with
  | zero => intro a mm b h m dk os _ hP; have := hP.am; have := hP.mb; omega
  | succ N ih =>
    intro a mm b h
    by_cases h1 : mm = a + 1
    · subst h1
      intro m dk os hs hP
      exact sym_left hC hcmp eg hS a b cap hs hP
    · by_cases h2 : b = mm + 1
      · subst h2
        intro m dk os hs hP
        exact sym_right hC hcmp eg hS a mm cap hs (by have := hP.am; omega) hP
      · intro m dk os hs hP
        have := hP.am; have := hP.mb
        exact sym_mid hC hcmp eg hS a mm b cap (by omega) (by omega) (fun a' mm' b' hl => ih a' mm' b' (by omega)) m dk os hs hP
end
end Go.Proofs.YtnloommafgnanaaGreat

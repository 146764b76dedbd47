/-
  DERIVED: THE SHELF's CONTRACTS AT THIS DUMP, IN PLAIN WORDS (tools/lay-plain.mjs out of 'YtnloommafgnanaaGreatZShelfC.lean', which tools/lay-shelf.mjs wrote): THE SAME DECLARATIONS UNDER THE SAME NAMES: 'import', 'namespace', 'open', 'def', 'theorem' AND NOTHING ELSE: no command of the shelf's: FOR A HAND-IN. Each laying: the table of numbers ('.._ren') and one theorem, a field a fact of the dump's own or the kernel's comparison; each contract: ONE APPLICATION.
-/
import Derived.Test.YtnloommafgnanaaGreatProg
import Derived.Test.YtnloommafgnanaaGreatQSymC
import Derived.Test.YtnloommafgnanaaGreatQSymR
import Derived.Shelf.SlGeneric
import Derived.Shelf.SlLaysF0
import Derived.Ground.SlsfProg
import Derived.Ground.SlgnProg
import Derived.Shelf.SlSortFuncK.ComposeK
namespace Go.Proofs
open Go.Shelf
def Tryz.insR_ren : Go.Shelf.Ren := ⟨fun | 20 => 57 | n => n, fun | 24 => 42 | 22 => 22 | 3 => 3 | 25 => 51 | 4 => 4 | 0 => 0 | n => n, fun | n => n⟩
theorem Tryz.insR : Go.Proofs.SlLaysF0.n20 Tryz.prog Tryz.insR_ren := {
  mixed := by kernel_rfl
  f20 := ⟨Tryz.f57.name, by decide, Tryz.func57.trans (congrArg some (by kernel_rfl))⟩
  t0 := Tryz.underlying0
  a0 := Tryz.isAgg0
  z0 := Tryz.sizeOf0
  v0 := Tryz.zeroValue0
  t3 := Tryz.underlying3
  a3 := Tryz.isAgg3
  z3 := Tryz.sizeOf3
  v3 := Tryz.zeroValue3
  t4 := Tryz.underlying4
  a4 := Tryz.isAgg4
  z4 := Tryz.sizeOf4
  v4 := Tryz.zeroValue4
  t22 := Tryz.underlying22
  a22 := Tryz.isAgg22
  z22 := Tryz.sizeOf22
  v22 := Tryz.zeroValue22
  t25 := Tryz.underlying51
  a25 := Tryz.isAgg51
  z25 := Tryz.sizeOf51
  v25 := Tryz.zeroValue51 }
end Go.Proofs

/-
  slices.SortStableFunc of records, whole.
-/
namespace Go.Proofs.YtnloommafgnanaaGreat
open Go.RowKit Go.Shelf Go.Sort Go.Proofs.YtnloommafgnanaaGreat.nm Go.Proofs.YtnloommafgnanaaGreat.od Go.Proofs.YtnloommafgnanaaGreat.sm

section
variable {α : Type} [Inhabited α] {rc : α → Rec} {w : World} {blk n m : Nat} {dk : Array α} {os : Array Obj} {cf : α → α → Int} {g : Nat} {lt : α → α → Bool} {tg : α → Nat}
/-- The sort by insertion. -/
theorem ins_any (hC : SortC rc w blk n) (hcmp : CmpC rc cf g w blk n) (eg : ∀ args w, (callFunc g args).run Tryz.prog w = .ok (.enter g args) w) (hS : SWO (ltOf cf)) (a b cap : Nat) (hs : dk.size = n) (hab : a ≤ b) (hb : b ≤ n) :
    Calls Tryz.prog 57 #[.slice (some ⟨blk, 0, none⟩) n cap, .int .i64 (a : Int), .int .i64 (b : Int), .func (.func g) #[] #[]] (SW rc w blk m dk os) fun en w' =>
      en = .returned (.tuple #[]) ∧ ∃ m' os', w' = SW rc w blk m' (insertionSort (ltOf cf) dk a b) os' := by
  obtain ⟨d0, hd0, hH0⟩ := hC.holds
  have hsz := hC.sz
  have hlt := hC.lt
  rw [sw_eq]
  have hH : HoldsK (fun x => recC (rc x)) 5 (sortWorldK (fun x => recC (rc x)) 5 w blk 0 m dk os) blk 0 dk := holdsK_sortWorldK _ 5 w blk 0 m d0 dk os hlt hH0 (by omega)
  have hcc : CmpLays Tryz.prog g #[] (fun x => recC (rc x)) 5 cf blk 0 dk.size (sortWorldK (fun x => recC (rc x)) 5 w blk 0 m dk os) := fun m' os' dk' hdk x y => by
    rw [sortWorldK_on _ 5 w blk 0 m m' dk dk' os os' hlt hdk]
    have := hcmp (m + m') (os ++ os') dk' (by omega) x y
    rw [sw_eq] at this
    exact this
  have hc := AnyQ.insertionSortCmpFunc Tryz.insR 5 (fun w => by kernel_rfl) (fun w => by kernel_rfl) (fun x : α => recC (rc x)) (fun _ => rfl) (fun x v hv => by
      simp only [List.mem_cons, List.not_mem_nil, or_false] at hv
      rcases hv with rfl | rfl | rfl | rfl | rfl <;> rfl) cf g #[] blk 0 cap a b dk _ eg hcc hH (lt_sortWorldK _ 5 w blk 0 m dk os hlt) hab (by omega) (by omega)
  rw [hs] at hc
  refine hc.mono ?_
  rintro e w' ⟨rfl, n', os', rfl⟩
  have hsi : (insertionSort (ltOf cf) dk a b).size = dk.size := (insertionSort_holds hS dk a b hab (by omega)).1.1
  exact ⟨rfl, m + n', os ++ os', by rw [sw_eq, sortWorldK_on _ 5 w blk 0 m n' dk _ os os' hlt hsi]⟩
/-- What the stable sort leaves. -/
def Stabled (rc : α → Rec) (w : World) (blk n : Nat) (lt : α → α → Bool) (dk : Array α) (w' : World) : Prop :=
  ∃ m' d' os', w' = SW rc w blk m' d' os' ∧ d'.size = n ∧ PermIn 0 n dk d' ∧ SortedIn lt 0 n d'
set_option maxRecDepth 100000 in
set_option maxHeartbeats 8000000 in
theorem stable_any (hC : SortC rc w blk n) (hcmp : CmpC rc cf g w blk n) (eg : ∀ args w, (callFunc g args).run Tryz.prog w = .ok (.enter g args) w) (hS : SWO (ltOf cf)) (cap : Nat) (hs : dk.size = n) (htg : ∀ i, i < n → tg dk[i]! = i) :
    Calls Tryz.prog 45 #[.slice (some ⟨blk, 0, none⟩) n cap, .int .i64 (n : Int), .func (.func g) #[] #[]] (SW rc w blk m dk os) fun en w' =>
      en = .returned (.tuple #[]) ∧ Stabled rc w blk n (tlt (ltOf cf) tg) dk w' := by
  have HC := Lib.hid hC; have HS := Lib.hid hs; have HCMP := Lib.hid hcmp; have HTG := Lib.hid htg
  have HS0 := Lib.hid hS
  have HSW := Lib.hid (tlt_swo (tg := tg) hS)
  have hsz := hC.sz
  obtain ⟨lt, hlt⟩ : ∃ lt, lt = tlt (ltOf cf) tg := ⟨_, rfl⟩
  rw [← hlt]
  rw [← hlt] at HSW
  have HLT := Lib.hid hlt
  clear hC hcmp hS hs htg hlt
  go_enter Tryz.func45, Tryz.ntmps45
  go_wp2_with fail
  go_loopw [7, 8] (fun av bv wr => ∃ aa bb m' d' os', aa ≤ n ∧ bb = aa + 20 ∧ av = .int .i64 (aa : Int) ∧ bv = .int .i64 (bb : Int) ∧ Hid (wr = SW rc w blk m' d' os' ∧ d'.size = n ∧ PermIn 0 n dk d' ∧ ∃ q, aa = q * 20 ∧ Done lt tg d' 20 q ∧ ∀ i, aa ≤ i → i < n → tg d'[i]! = i)) (fun av _ _ => n - (intOf av).toNat)
  case atStart => exact ⟨0, 20, m, dk, os, by omega, rfl, rfl, rfl, Lib.hid ⟨rfl, HS.out, permIn_refl _ _ _, 0, by omega, fun q hq => absurd hq (Nat.not_lt_zero _), fun i _ hi => HTG.out i hi⟩⟩
  case round =>
    obtain ⟨aa, bb, m', d', os', han, hbb, rfl, rfl, HR⟩ := hrel
    obtain ⟨hw, hs', hp', q, hq, hd, ht⟩ := HR.out
    subst hw
    have HS' := Lib.hid hs'; have HP' := Lib.hid hp'; have HQ := Lib.hid hq; have HD := Lib.hid hd; have HT := Lib.hid ht; have HBB := Lib.hid hbb
    have hb1 : aa < bb := by omega
    clear hs' hp' hq hd ht hbb HR
    by_cases hle : bb ≤ n
    · have hle' : (bb : Int) ≤ (n : Int) := by omega
      as_aux_lemma =>
        go_wp2_with fail
        refine (ins_any HC.out HCMP.out eg HS0.out aa bb cap HS'.out (by omega) hle).mono ?_
        rintro en w' ⟨rfl, m2, os2, rfl⟩
        have hbf := blk_first (c := ltOf cf) (s := 20) (a := aa) (b := bb) HLT.out HSW.out (by have := HS'.out; have := HBB.out; omega) (by have := HS'.out; omega) (fun i h1 h2 => HT.out i h1 (by have := HS'.out; omega))
        obtain ⟨d2, hd2⟩ : ∃ d2, d2 = insertionSort (ltOf cf) d' aa bb := ⟨_, rfl⟩
        rw [← hd2] at hbf ⊢
        have HBF := Lib.hid hbf
        clear hbf hd2
        go_wp2_with fail
        go_roundw
        case rel =>
          have hq := HQ.out; have hbb := HBB.out
          refine ⟨bb, bb + 20, m2, d2, os2, hle, rfl, rfl, by go_num, Lib.hid ⟨rfl, by rw [HBF.out.1.1]; exact HS'.out, permIn_trans _ _ _ _ _ HP'.out (permIn_mono _ _ _ _ _ _ (by omega) hle (by have := HS'.out; omega) HBF.out.1), q + 1, by omega, done_next HD.out (by rw [← hq]; exact HBF.out.1) (by rw [← hq]; exact HBF.out.2), fun i h1 h2 => ?_⟩⟩
          rw [HBF.out.1.2.1 i (.inr h1)]
          exact HT.out i (by omega) h2
        case measure => simp [intOf]; omega
    · have hle' : ¬ (bb : Int) ≤ (n : Int) := by omega
      go_wp2_with fail
      refine (ins_any HC.out HCMP.out eg HS0.out aa n cap HS'.out han (Nat.le_refl _)).mono ?_
      rintro en w' ⟨rfl, m2, os2, rfl⟩
      have hbf := blk_first (c := ltOf cf) (s := 20) (a := aa) (b := n) HLT.out HSW.out (by have := HS'.out; have := HBB.out; omega) (by have := HS'.out; omega) (fun i h1 h2 => HT.out i h1 (by have := HS'.out; omega))
      obtain ⟨d2, hd2⟩ : ∃ d2, d2 = insertionSort (ltOf cf) d' aa n := ⟨_, rfl⟩
      rw [← hd2] at hbf ⊢
      have HS2 := Lib.hid (show d2.size = n by rw [hbf.1.1]; exact HS'.out)
      have HP2 := Lib.hid (permIn_trans _ _ _ _ _ HP'.out (permIn_mono _ _ _ _ _ _ (by omega) (Nat.le_refl _) (by have := HS'.out; omega) hbf.1))
      have HA2 := Lib.hid (all_of_done (q0 := q + 1) (done_next HD.out (by rw [← HQ.out]; exact hbf.1) (by rw [← HQ.out]; exact hbf.2)) (by have := HS2.out; have := HQ.out; have := HBB.out; omega))
      clear hbf hd2 HS' HP' HQ HD HT HBB hb1 hle hle' han
      go_wp2_with fail
      go_loopw [6] (fun sv wr => ∃ s m' d' os', 20 ≤ s ∧ s ≤ 2 * n + 20 ∧ sv = .int .i64 (s : Int) ∧ Hid (wr = SW rc w blk m' d' os' ∧ d'.size = n ∧ PermIn 0 n dk d' ∧ AllB lt tg d' s)) (fun sv _ => n - (intOf sv).toNat)
      case atStart => exact ⟨20, m2, d2, os2, Nat.le_refl _, by omega, rfl, Lib.hid ⟨rfl, HS2.out, HP2.out, HA2.out⟩⟩
      case round =>
        obtain ⟨s, m', d', os', hs20, hsn, rfl, HR⟩ := hrel
        obtain ⟨hw, hs', hp', ha'⟩ := HR.out
        subst hw
        have HS' := Lib.hid hs'; have HP' := Lib.hid hp'; have HA' := Lib.hid ha'
        clear hs' hp' ha' HR HS2 HP2 HA2
        by_cases hlt : s < n
        · have hlt' : (s : Int) < (n : Int) := by omega
          obtain ⟨s2, hs2⟩ : ∃ s2, s2 = 2 * s := ⟨_, rfl⟩
          have hs2b : s2 ≤ 2 * n + 20 := by omega
          go_wp2_with fail
          rw [show (2 : Int) * (s : Int) = (s2 : Int) by omega]
          have HS2 := Lib.hid hs2
          have hs2p : s < s2 := by omega
          clear hs2
          go_loopw [7, 8] (fun av bv wr => ∃ aa bb m3 d3 os3, aa ≤ n ∧ bb = aa + s2 ∧ av = .int .i64 (aa : Int) ∧ bv = .int .i64 (bb : Int) ∧ Hid (wr = SW rc w blk m3 d3 os3 ∧ d3.size = n ∧ PermIn 0 n dk d3 ∧ ∃ q, aa = q * s2 ∧ Done lt tg d3 s2 q ∧ Todo lt tg d3 s (2 * q))) (fun av _ _ => n - (intOf av).toNat)
          case atStart => exact ⟨0, s2, m', d', os', by omega, by omega, rfl, rfl, Lib.hid ⟨rfl, HS'.out, HP'.out, 0, by omega, fun q hq => absurd hq (Nat.not_lt_zero _), fun q _ hq => HA'.out q hq⟩⟩
          case round =>
            obtain ⟨aa, bb, m3, d3, os3, han, hbb, rfl, rfl, HR⟩ := hrel
            obtain ⟨hw, hs3, hp3, q, hq, hd3, ht3⟩ := HR.out
            subst hw
            have hs2 := HS2.out
            have hq2 : 2 * q * s = aa := by rw [hq, hs2, Nat.mul_comm 2 q, Nat.mul_assoc]
            have hq3 : (2 * q + 1) * s = aa + s := by rw [Nat.add_mul, Nat.one_mul, hq2]
            have hq4 : (2 * q + 2) * s = aa + s + s := by rw [Nat.add_mul, hq2]; omega
            have B1 := Lib.hid (fun (h : aa < n) => (by have := ht3 (2 * q) (Nat.le_refl _) (by omega); rw [hq2] at this; exact this : Blk lt tg d3 s aa))
            have B2 := Lib.hid (fun (h : aa + s < n) => (by have := ht3 (2 * q + 1) (by omega) (by omega); rw [hq3] at this; exact this : Blk lt tg d3 s (aa + s)))
            have HS3 := Lib.hid hs3; have HP3 := Lib.hid hp3; have HQ := Lib.hid hq; have HD3 := Lib.hid hd3; have HT3 := Lib.hid ht3; have HQ4 := Lib.hid hq4; have HBB := Lib.hid hbb
            have hab2 : aa + s < bb := by omega
            have hq5 : (q + 1) * s2 = aa + s2 := by rw [Nat.add_mul, Nat.one_mul, ← hq]
            have HQ5 := Lib.hid hq5
            clear hs3 hp3 hq hd3 ht3 HR hq2 hq3 hq4 hs2 hbb hq5
            have JOIN : Hid (∀ b d4, b = min (aa + s + s) n → aa + s < n → Post lt aa b d3 d4 → d4.size = n ∧ PermIn 0 n dk d4 ∧ Done lt tg d4 s2 (q + 1) ∧ Todo lt tg d4 s (2 * (q + 1))) := Lib.hid (fun b d4 hb hl hp => by
              have e := HS3.out
              have hm := blk_merged (s := s) (B1.out (by omega)) (B2.out hl) (by omega) hp
              rw [← HS2.out, HQ.out] at hm
              have hpp := hp.perm
              refine ⟨by rw [hpp.1]; exact e, permIn_trans _ _ _ _ _ HP3.out (permIn_mono _ _ _ _ _ _ (by omega) (by omega) (by omega) hpp), done_next HD3.out (by rw [← HQ.out]; exact hpp) hm, ?_⟩
              have := todo_next (q0 := 2 * q) HT3.out hpp (by rw [HQ4.out]; omega) (by have h1 := HQ4.out; rw [Nat.add_mul] at h1; omega)
              exact this)
            have PRE : Hid (∀ b, b = min (aa + s + s) n → aa + s < n → Pre (ltOf cf) lt aa (aa + s) b d3) := Lib.hid (fun b hb hl => blk_pre HLT.out (by omega) (B1.out (by omega)) (B2.out hl) (by have := HS3.out; omega) (by have := HS3.out; omega))
            obtain ⟨ms, hms⟩ : ∃ ms, ms = aa + s := ⟨_, rfl⟩
            have hms1 : aa < ms := by omega
            have hms2 : ms < bb := by omega
            have HMS := Lib.hid hms
            clear hab2
            by_cases hle : bb ≤ n
            · have hle' : (bb : Int) ≤ (n : Int) := by omega
              as_aux_lemma =>
                go_wp2_with fail
                rw [show (aa : Int) + (s : Int) = (ms : Int) by omega]
                clear hms
                refine (symMerge_any HC.out HCMP.out eg HSW.out cap _ aa ms bb (Nat.le_refl _) m3 d3 os3 HS3.out (by rw [HMS.out]; exact PRE.out bb (by have := HBB.out; have := HS2.out; omega) (by have := HMS.out; omega))).mono ?_
                rintro en w' ⟨rfl, m4, d4, os4, rfl, hs4, hp4⟩
                have HJ := Lib.hid (JOIN.out bb d4 (by have := HBB.out; have := HS2.out; omega) (by have := HMS.out; omega) hp4)
                clear hs4 hp4 JOIN PRE
                obtain ⟨bb2, hbb2⟩ : ∃ x, x = bb + s2 := ⟨_, rfl⟩
                go_wp2_with fail
                go_roundw
                case rel => exact ⟨bb, bb2, m4, d4, os4, hle, hbb2, rfl, by congr 1; have := HS2.out; omega, Lib.hid ⟨rfl, HJ.out.1, HJ.out.2.1, q + 1, by rw [HQ5.out]; exact HBB.out, HJ.out.2.2.1, HJ.out.2.2.2⟩⟩
                case measure => simp [intOf]; omega
            · have hle' : ¬ (bb : Int) ≤ (n : Int) := by omega
              have HNB := Lib.hid (show n < bb by omega)
              clear hle
              by_cases hms3 : ms < n
              · have hms3' : (ms : Int) < (n : Int) := by omega
                as_aux_lemma =>
                  go_wp2_with fail
                  rw [show (aa : Int) + (s : Int) = (ms : Int) by omega]
                  clear hms
                  go_wp2_with fail
                  refine (symMerge_any HC.out HCMP.out eg HSW.out cap _ aa ms n (Nat.le_refl _) m3 d3 os3 HS3.out (by rw [HMS.out]; exact PRE.out n (by have := HBB.out; have := HS2.out; have := HNB.out; omega) (by have := HMS.out; omega))).mono ?_
                  rintro en w' ⟨rfl, m4, d4, os4, rfl, hs4, hp4⟩
                  have hJ := JOIN.out n d4 (by have := HBB.out; have := HS2.out; have := HNB.out; omega) (by have := HMS.out; omega) hp4
                  have HA4 := Lib.hid (all_of_done (q0 := q + 1) hJ.2.2.1 (by have := HQ5.out; have := HBB.out; have := HNB.out; omega))
                  have HJ := Lib.hid hJ
                  clear hs4 hp4 JOIN PRE hJ
                  go_wp2_with fail
                  go_roundw
                  case rel => exact ⟨s2, m4, d4, os4, by omega, hs2b, by congr 1; have := HS2.out; omega, Lib.hid ⟨rfl, HJ.out.1, HJ.out.2.1, HA4.out⟩⟩
                  case measure => simp [intOf]; omega
              · have hms3' : ¬ (ms : Int) < (n : Int) := by omega
                as_aux_lemma =>
                  have hA : AllB lt tg d3 s2 := by
                    rcases Nat.lt_or_ge aa n with hl | hl
                    · have hb := blk_alone (B1.out hl) (by have := HS3.out; have := HMS.out; omega)
                      rw [← HS2.out, HQ.out] at hb
                      exact all_of_done (q0 := q + 1) (done_next HD3.out (permIn_refl _ _ (q * s2)) hb) (by have := HS3.out; have := HQ5.out; have := HBB.out; have := HNB.out; omega)
                    · exact all_of_done HD3.out (by have := HS3.out; have := HQ.out; omega)
                  have HA4 := Lib.hid hA
                  have hdec : ¬ (aa : Int) + (s : Int) < (n : Int) := by omega
                  clear hA hms JOIN PRE
                  go_wp2_with fail
                  go_roundw
                  case rel => exact ⟨s2, m3, d3, os3, by omega, hs2b, by congr 1; have := HS2.out; omega, Lib.hid ⟨rfl, HS3.out, HP3.out, HA4.out⟩⟩
                  case measure => simp [intOf]; omega
        · have hlt' : ¬ (s : Int) < (n : Int) := by omega
          go_wp2_with fail
          go_end0
          have hz := sorted_of_all HA'.out (by have := HS'.out; omega)
          rw [HS'.out] at hz
          exact ⟨rfl, m', d', os', rfl, HS'.out, HP'.out, hz⟩
set_option maxRecDepth 100000 in
set_option maxHeartbeats 1000000 in
theorem sortStable_any (hC : SortC rc w blk n) (hcmp : CmpC rc cf g w blk n) (eg : ∀ args w, (callFunc g args).run Tryz.prog w = .ok (.enter g args) w) (hS : SWO (ltOf cf)) (cap : Nat) (hs : dk.size = n) (htg : ∀ i, i < n → tg dk[i]! = i) :
    Calls Tryz.prog 21 #[.slice (some ⟨blk, 0, none⟩) n cap, .func (.func g) #[] #[]] (SW rc w blk m dk os) fun en w' =>
      en = .returned (.tuple #[]) ∧ Stabled rc w blk n (tlt (ltOf cf) tg) dk w' := by
  have HC := Lib.hid (stable_any (m := m) (os := os) hC hcmp eg hS cap hs htg)
  clear hC hcmp hS hs htg
  go_enter Tryz.func21, Tryz.ntmps21
  go_wp2_with fail
  refine HC.out.mono ?_
  rintro en w' ⟨rfl, hst⟩
  have HST := Lib.hid hst
  clear hst
  go_wp2_with fail
  go_end0
  exact ⟨rfl, HST.out⟩
end
/-- The stable sort of records, told of a list: T are the records with the places where they stood. -/
def StableOf (cf : Rec → Rec → Int) (l : List Rec) (T : List (Rec × Nat)) : Prop :=
  T.Perm l.zipIdx ∧ T.Pairwise (fun x y => tlt (fun a b : Rec × Nat => decide (cf a.1 b.1 < 0)) (·.2) y x = false)
end Go.Proofs.YtnloommafgnanaaGreat

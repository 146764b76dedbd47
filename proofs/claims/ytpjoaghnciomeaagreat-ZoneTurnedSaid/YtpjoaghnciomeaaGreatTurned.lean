/-
  gazetteerlaw3.ZoneTurned: its walk.
-/
import Derived.Test.YtpjoaghnciomeaaGreatSameB
import Derived.Test.YtpjoaghnciomeaaGreatLintA
namespace Go.Proofs.YtpjoaghnciomeaaGreat
open Go.RowKit Go.Shelf Go.WideMaps Go.Proofs.YtpjoaghnciomeaaGreat.nm Go.Proofs.YtpjoaghnciomeaaGreat.od

/-- A record, written over in a row of the call's own. -/
theorem ownsRow_setRec {w : World} {base g n cap k : Nat} {l : List Rec} (h : w.ownsRow base 53 5 (.slice (some ⟨g, 0, none⟩) n cap) n (recsC l)) (hk : k < l.length) (hn : n = l.length) (r : Rec) :
    (((((w.setCell ⟨g, k * 5, none⟩ (.string r.owner)).setCell ⟨g, k * 5 + 1, none⟩ (.int .i64 r.typ)).setCell ⟨g, k * 5 + 2, none⟩ (.int .i64 r.cls)).setCell ⟨g, k * 5 + 3, none⟩ (.int .i64 r.ttl)).setCell ⟨g, k * 5 + 4, none⟩ (.string r.data)).ownsRow
      base 53 5 (.slice (some ⟨g, 0, none⟩) n cap) n (recsC (l.set k r)) := by
  subst hn
  obtain ⟨h1, h2⟩ := h
  refine ⟨by rw [recsC_len, List.length_set], ?_⟩
  rcases h2 with ⟨h3, _⟩ | ⟨g', cap', cur, hv, hb, hg, hc, hm, hs, ht⟩
  · cases h3
  · simp only [Value.slice.injEq, Option.some.injEq, Addr.mk.injEq, and_true, true_and] at hv
    obtain ⟨rfl, rfl⟩ := hv
    refine .inr ⟨g, cap, _, rfl, hb, heap_set_at (heap_set_at (heap_set_at (heap_set_at (heap_set_at hg _ _) _ _) _ _) _ _) _ _, hc, hm, by simpa using hs, ?_⟩
    simp only [Array.toList_setIfInBounds, List.take_set, ht]
    have e : l = l.take k ++ l[k] :: l.drop (k + 1) := by rw [← List.drop_eq_getElem_cons hk, List.take_append_drop]
    have hl : (recsC (l.take k)).length = k * 5 := by rw [recsC_len, List.length_take]; congr 1; omega
    have e1 : recsC l = recsC (l.take k) ++ (recC l[k] ++ recsC (l.drop (k + 1))) := by
      conv => lhs; rw [e]
      rw [recsC_apps, recsC_cons]
    have e2 : recsC (l.set k r) = recsC (l.take k) ++ (recC r ++ recsC (l.drop (k + 1))) := by
      rw [List.set_eq_take_append_cons_drop, if_pos hk, recsC_apps, recsC_cons]
    rw [e1, e2]
    simp only [List.set_append_right _ _ (show (recsC (l.take k)).length ≤ k * 5 by omega), List.set_append_right _ _ (show (recsC (l.take k)).length ≤ k * 5 + 1 by omega), List.set_append_right _ _ (show (recsC (l.take k)).length ≤ k * 5 + 2 by omega),
      List.set_append_right _ _ (show (recsC (l.take k)).length ≤ k * 5 + 3 by omega), List.set_append_right _ _ (show (recsC (l.take k)).length ≤ k * 5 + 4 by omega), hl, Nat.sub_self, Nat.add_sub_cancel_left]
    rfl

/-- Two records, changed for one another. -/
def swapL (l : List Rec) (k : Nat) : List Rec := match l[0]?, l[k]? with
  | some a, some b => (l.set 0 b).set k a
  | _, _ => l
theorem swapL_perm (l : List Rec) (k : Nat) : (swapL l k).Perm l := by
  unfold swapL
  split
  · rename_i a b h0 hk
    obtain ⟨i0, rfl⟩ := List.getElem?_eq_some_iff.1 h0
    obtain ⟨ik, rfl⟩ := List.getElem?_eq_some_iff.1 hk
    rcases Nat.eq_zero_or_pos k with rfl | hpos
    · rw [List.set_set, List.set_getElem_self]
    · obtain ⟨x, l, rfl⟩ : ∃ x l', l = x :: l' := List.exists_cons_of_length_pos i0
      obtain ⟨j, rfl⟩ : ∃ j, k = j + 1 := ⟨k - 1, by omega⟩
      simp only [List.getElem_cons_zero, List.getElem_cons_succ, List.set_cons_zero, List.set_cons_succ]
      have hj : j < l.length := by simpa using ik
      have e : l = l.take j ++ l[j] :: l.drop (j + 1) := by rw [← List.drop_eq_getElem_cons hj, List.take_append_drop]
      rw [List.set_eq_take_append_cons_drop, if_pos hj]
      conv => rhs; rw [e]
      have p1 : (l[j] :: (l.take j ++ x :: l.drop (j + 1))).Perm (l[j] :: x :: (l.take j ++ l.drop (j + 1))) := (List.perm_middle).cons _
      have p2 : (x :: (l.take j ++ l[j] :: l.drop (j + 1))).Perm (x :: l[j] :: (l.take j ++ l.drop (j + 1))) := (List.perm_middle).cons _
      exact p1.trans ((List.Perm.swap _ _ _).trans p2.symm)
  · exact List.Perm.refl _

theorem recs_one {l : List Rec} {u : Value} (hu : u ∈ recsC l) : u.oneCell' = true := by
  obtain ⟨r, _, hr⟩ := List.mem_flatMap.1 hu
  simp only [List.mem_cons, List.not_mem_nil, or_false] at hr
  rcases hr with rfl | rfl | rfl | rfl | rfl <;> rfl

/-- Numbers in memory. -/
def IntsR (w : World) (v : Value) (zs : List Int) : Prop :=
  ∃ a cap, v = .slice a zs.length cap ∧ ∀ k (h : k < zs.length), ∃ b off, a = some ⟨b, off, none⟩ ∧ b < w.heap.size ∧ w.cell? ⟨b, off + k, none⟩ = some (.int .i64 zs[k])
theorem IntsR.below {w w' : World} {v : Value} {ss : List Int} (h : IntsR w v ss) (hb : Below w.heap.size w w') : IntsR w' v ss := by
  obtain ⟨a, cap, rfl, h⟩ := h
  refine ⟨a, cap, rfl, fun k hk => ?_⟩
  obtain ⟨b, off, rfl, hl, hc⟩ := h k hk
  exact ⟨b, off, rfl, Nat.lt_of_lt_of_le hl hb.size, (hb.cell (p := ⟨b, off + k, none⟩) hl).trans hc⟩

theorem ownsRow_drew {w : World} {base n : Nat} {e : TypeId} {size : Nat} {v : Value} {xs : List Value} (h : w.ownsRow base e size v n xs) : w.drew.ownsRow base e size v n xs := h
theorem append_none (w : World) : (Builtin.append_ #[22, 22] 22 #[.slice none 0 0, .slice none 0 0]).run Tryz.prog w = .ok (.slice none 0 0) w := by kernel_rfl

set_option maxRecDepth 100000 in
set_option maxHeartbeats 4000000 in
theorem turned_any (apex : ByteArray) (l : List Rec) (hok : ∀ r ∈ l, (Lit.int .i64 r.typ).wf = true) (a : Option Addr) (cap : Nat) (hf : SliceForm (.slice a l.length cap)) (zs : List Int) (hzs : ∀ z ∈ zs, (Lit.int .i64 z).wf = true) (az : Option Addr) (capz : Nat) (q : ByteArray) (t : Int) (ht : (Lit.int .i64 t).wf = true)
    (w : World) (hbig : l.length * 56 ≤ 140737488355328) (hzbig : zs.length ≤ 9223372036854775807) (hrv : RecsAt w (.slice a l.length cap) l) (hzv : IntsR w (.slice az zs.length capz) zs) :
    Calls Tryz.prog 10 #[.string apex, .slice a l.length cap, .slice az zs.length capz, .string q, .int .i64 t] w fun e w' => e = .returned (.bool true) ∧ Below w.heap.size w w' := by
  have HN := Lib.hid (new_any apex l hok _ hf w hrv)
  have HRV := Lib.hid hrv; have HOK := Lib.hid hok; have HTW := Lib.hid ht; have HZV := Lib.hid hzv; have HZS := Lib.hid hzs; have HF := Lib.hid hf
  obtain ⟨i0, hi0, hz0, hz1, hz2⟩ := info_parts info_rec
  have HI := Lib.hid hi0; have HZ0 := Lib.hid hz0; have HZ1 := Lib.hid hz1; have HZ2 := Lib.hid hz2
  clear hrv hok hf ht hzv hzs hi0 hz0 hz1 hz2
  go_enter Tryz.func10, Tryz.ntmps10
  go_wp2_with fail
  refine HN.out.mono ?_
  intro e w1 hp
  obtain ⟨zp, c, hres, hB1, hpp⟩ : ∃ zp c, e = .returned (.tuple #[zp, .int .i64 (match zn.newE apex l with | some (k, _) => k | none => 0), .int .i64 c]) ∧ Below w.heap.size w w1 ∧ (c = (match zn.newE apex l with | some (_, c) => c | none => 0) ∧
      (match zn.newE apex l with | some _ => zp = .pointer none | none => ∃ z L, SortedOf l L ∧ zp = .pointer (some ⟨z, 0, none⟩) ∧ ZoneF w1 w1.heap.size z apex L)) := by
    rcases hne : zn.newE apex l with _ | ⟨k, c⟩
    · obtain ⟨hB1, z, L, hz, hs, rfl, hzf⟩ := newPost_zone hp hne
      exact ⟨_, _, rfl, hB1, rfl, z, L, hs, rfl, hzf⟩
    · obtain ⟨hB1, rfl⟩ := newPost_bad hp hne
      exact ⟨_, _, rfl, hB1, rfl, rfl⟩
  subst hres
  generalize (match zn.newE apex l with | some (k, _) => k | none => (0 : Int)) = kk
  have HB1 := Lib.hid hB1; have HP := Lib.hid hpp
  clear hp hB1 HN hpp
  go_wp2_with fail
  refine (begins_any _).mono ?_
  rintro e w2 ⟨rfl, hB2⟩
  have hB02 := HB1.out.trans (hB2.mono HB1.out.size)
  have HB2 := Lib.hid hB02; have HB12 := Lib.hid hB2; have HR2 := Lib.hid (HRV.out.below hB02)
  have hs2 := hB02.size
  clear hB2 hB02
  go_upto_region 4 with fail
  go_cut [14] (fun s wx => wx.ownsRow w2.heap.size 53 5 s l.length (recsC l) ∧ Below w2.heap.size w2 wx)
  case first =>
    have hcase : (l = [] ∧ Value.slice a l.length cap = .slice none 0 0) ∨ ∃ b off, a = some ⟨b, off, none⟩ := by
      rcases HF.out with h | ⟨b, off, n, cp, h⟩
      · left
        have h' := h
        simp only [Value.slice.injEq] at h'
        exact ⟨List.eq_nil_of_length_eq_zero h'.2.1, h⟩
      · right
        simp only [Value.slice.injEq] at h
        exact ⟨b, off, h.1⟩
    rcases hcase with ⟨hl0, hv⟩ | ⟨b, off, hfa⟩
    · have hap := append_none w2
      have HL0 := Lib.hid hl0; have HV0 := Lib.hid hv
      rw [hv]
      clear hl0 hv
      go_wp2_with fail
      rw [← HV0.out]
      go_meet
      exact ⟨by rw [HV0.out, HL0.out]; exact World.ownsRow_nil _ _ _ _, Below.refl _ _⟩
    · have hcells := (recs_cells (by rw [← hfa]; exact HR2.out)).2
      have HC := Lib.hid hcells; have HFA := Lib.hid hfa
      clear hcells hfa
      go_wp2_with (at_builtin; refine wpList_append_own _ rfl _ _ 22 rfl w2.heap.size 53 i0 (.agg #[.string ⟨#[]⟩, .int .i64 0, .int .i64 0, .int .i64 0, .string ⟨#[]⟩]) 5 56 Tryz.underlying22 HI.out HZ0.out HZ1.out HZ2.out rfl (by decide) _ 0 [] rfl (World.ownsRow_nil _ _ _ _) ⟨b, off, none⟩ l.length cap (recsC l) (show Value.slice a l.length cap = _ by rw [HFA.out]) (recsC_len l) (fun j u hu => by rw [Addr.add_lit]; exact HC.out j u hu) (fun u hu => recs_one hu) (by unfold maxLen; omega) (by omega) (Nat.le_refl _) ?_)
      intro v' w3 hown3 hg3 hnn
      have HB3 := Lib.hid ((Below.refl w2.heap.size w2).grown hg3 (Nat.le_refl _) (fun j hj => by cases hj))
      have HOWN3 := Lib.hid hown3
      clear hown3 hg3 hnn
      go_wp2_with fail
      go_meet
      exact ⟨by simpa using HOWN3.out, HB3.out⟩
  case rest =>
  obtain ⟨hown, hB3⟩ := hcut
  obtain ⟨a3, cap3, rfl, _⟩ := ownsRow_len hown
  have HOWN := Lib.hid hown; have HB3 := Lib.hid hB3
  clear hown hB3
  go_wp2_with fail
  go_loopw [33, 16] (fun iv _ wr => ∃ (i : Nat) (l' : List Rec), i ≤ zs.length ∧ iv = .int .i64 (i : Int) ∧ l'.Perm l ∧ wr.ownsRow w2.heap.size 53 5 (.slice a3 l.length cap3) l.length (recsC l') ∧ Below w2.heap.size w2 wr) (fun iv _ _ => zs.length - (intOf iv).toNat)
  case atStart => exact ⟨0, l, Nat.zero_le _, rfl, List.Perm.refl _, HOWN.out, HB3.out⟩
  case round =>
    obtain ⟨i, l', hi, rfl, hpm, hown, hB⟩ := hrel
    have hsr := hB.size
    by_cases hiz : i < zs.length
    · obtain ⟨a', cap', hv, hr⟩ := HZV.out.below (HB2.out.trans (hB.mono hs2))
      simp only [Value.slice.injEq, true_and] at hv
      obtain ⟨rfl, rfl⟩ := hv
      obtain ⟨b, off, rfl, hbl, c0⟩ := hr i hiz
      obtain ⟨z, hz⟩ : ∃ z, z = zs[i] := ⟨_, rfl⟩
      rw [← hz] at c0
      have HPMM := Lib.hid hpm; have HOWR := Lib.hid hown; have HBR := Lib.hid hB
      clear hr hz hpm hown hB
      by_cases h1 : 1 ≤ z
      · by_cases h2 : z < (l.length : Int)
        · obtain ⟨k, rfl⟩ : ∃ k : Nat, z = (k : Int) := ⟨z.toNat, by omega⟩
          have hk1 : 0 < k := by omega
          have hkl : k < l'.length := by rw [HPMM.out.length_eq]; omega
          obtain ⟨g, capg, hv, hbg, hgl⟩ := HOWR.out.form (by omega)
          simp only [Value.slice.injEq, true_and] at hv
          obtain ⟨rfl, rfl⟩ := hv
          obtain ⟨a', cap', hv, _, hr⟩ := owns_recs (l := l') (by rw [HPMM.out.length_eq]; exact HOWR.out)
          simp only [Value.slice.injEq] at hv
          obtain ⟨rfl, _, rfl⟩ := hv
          obtain ⟨b1, o1, e1, _, d0, d1, d2, d3, d4⟩ := hr 0 (by omega)
          simp only [Option.some.injEq, Addr.mk.injEq, and_true] at e1
          obtain ⟨rfl, rfl⟩ := e1
          obtain ⟨b1, o1, e1, _, e0, e1', e2, e3, e4⟩ := hr k hkl
          simp only [Option.some.injEq, Addr.mk.injEq, and_true] at e1
          obtain ⟨rfl, rfl⟩ := e1
          simp only [Nat.zero_add, Nat.zero_mul] at d0 d1 d2 d3 d4 e0 e1' e2 e3 e4
          have hfz : ∀ j, wr.frozen? ⟨g, j, none⟩ = false := fun j => by
            rcases HOWR.out.2 with ⟨h1, _⟩ | ⟨g', cap', cur, h1, _, h2, _⟩
            · cases h1
            · simp only [Value.slice.injEq, Option.some.injEq, Addr.mk.injEq, and_true, true_and] at h1
              rw [h1.1]
              exact heap_frozen h2 _
          have f0 := hfz 0; have f1 := hfz 1; have f2 := hfz 2; have f3 := hfz 3; have f4 := hfz 4
          have g0 := hfz (k * 5); have g1 := hfz (k * 5 + 1); have g2 := hfz (k * 5 + 2); have g3 := hfz (k * 5 + 3); have g4 := hfz (k * 5 + 4)
          have hsw : swapL l' k = (l'.set 0 l'[k]).set k l'[0] := by
            unfold swapL
            rw [List.getElem?_eq_getElem (show 0 < l'.length by omega), List.getElem?_eq_getElem hkl]
          have HSW := Lib.hid hsw
          clear hr hfz hsw
          go_upto_region 9 with fail
          go_region
          clear d0 d1 d2 d3 d4 e0 e1' e2 e3 e4 f0 f1 f2 f3 f4 g0 g1 g2 g3 g4 c0
          have hll := HPMM.out.length_eq
          have o1 := ownsRow_setRec (k := 0) HOWR.out (by omega) hll.symm l'[k]
          simp only [Nat.zero_mul, Nat.zero_add] at o1
          have o2 := ownsRow_setRec (k := k) o1 (by rw [List.length_set]; exact hkl) (by rw [List.length_set]; exact hll.symm) (l'[0]'(by omega))
          rw [← HSW.out] at o2
          have hB2' := ((((((((((HBR.out.setCell (p := ⟨g, 0, none⟩) hbg (.string l'[k].owner)).setCell (p := ⟨g, 1, none⟩) hbg (.int .i64 l'[k].typ)).setCell (p := ⟨g, 2, none⟩) hbg (.int .i64 l'[k].cls)).setCell (p := ⟨g, 3, none⟩) hbg (.int .i64 l'[k].ttl)).setCell (p := ⟨g, 4, none⟩) hbg (.string l'[k].data)).setCell (p := ⟨g, k * 5, none⟩) hbg (.string (l'[0]'(by omega)).owner)).setCell (p := ⟨g, k * 5 + 1, none⟩) hbg (.int .i64 (l'[0]'(by omega)).typ)).setCell (p := ⟨g, k * 5 + 2, none⟩) hbg (.int .i64 (l'[0]'(by omega)).cls)).setCell (p := ⟨g, k * 5 + 3, none⟩) hbg (.int .i64 (l'[0]'(by omega)).ttl)).setCell (p := ⟨g, k * 5 + 4, none⟩) hbg (.string (l'[0]'(by omega)).data)).drew
          have O2 := Lib.hid o2; have HB2' := Lib.hid hB2'; have HPS := Lib.hid ((swapL_perm l' k).trans HPMM.out)
          clear o1 o2 hB2' hll
          go_wp2_with fail
          go_roundw
          case rel => exact ⟨i + 1, swapL l' k, by omega, by go_num, HPS.out, ownsRow_drew O2.out, HB2'.out⟩
          case measure => simp [intOf]; omega
        · have h2' : (l.length : Int) ≤ z := by omega
          clear h2
          go_wp2_with fail
          go_roundw
          case rel => exact ⟨i + 1, l', by omega, by go_num, HPMM.out, HOWR.out, HBR.out⟩
          case measure => simp [intOf]; omega
      · have h1' : z < 1 := by omega
        clear h1
        go_wp2_with fail
        go_roundw
        case rel => exact ⟨i + 1, l', by omega, by go_num, HPMM.out, HOWR.out, HBR.out⟩
        case measure => simp [intOf]; omega
    · have hiz' : (zs.length : Int) ≤ (i : Int) := by omega
      have hbw := HB2.out.trans (hB.mono hs2)
      have hb1 := HB12.out.trans (hB.mono HB12.out.size)
      have HNR := Lib.hid (new_any apex l' (fun r hr => HOK.out r (hpm.mem_iff.1 hr)) _ (owns_form hown) wr (owns_recs (by rw [hpm.length_eq]; exact hown)))
      have HBW := Lib.hid hbw; have HB1R := Lib.hid hb1; have HPM := Lib.hid hpm
      have hsw0 := hbw.size
      have hs1r := hb1.size
      clear hiz hbw hb1 hown hB hpm
      go_wp2_with fail
      refine HNR.out.mono ?_
      intro e w4 hp4
      have hperm := zn.newE_perm (apex := apex) HPM.out
      have hpp := HP.out
      rcases hne : zn.newE apex l with _ | ⟨k0, c0⟩
      · rw [hne] at hperm hpp
        have hnel : zn.newE apex l' = none := by rw [zn.newE_none, hperm]; rfl
        simp only at hpp
        obtain ⟨rfl, z, L, hs, rfl, hzf⟩ := hpp
        obtain ⟨hB4, z', L', _, hs', rfl, hzf'⟩ := newPost_zone hp4 hnel
        have hva0 := zn.valid_of hne
        have hva : zn.Valid apex L := zn.valid_of (zn.newE_of hs.1.symm hne)
        have hLe : L' = L := (hs.eq ⟨hs'.1.trans HPM.out, hs'.2⟩ hva0.named (zn.uniq_of (zn.distinct_of (zn.rules_twice hva0.rules)))).symm
        subst hLe
        have HVA := Lib.hid hva
        have HB4 := Lib.hid (HBW.out.trans (hB4.mono hsw0)); have HZ4 := Lib.hid ((hzf.kept HB1R.out).kept hB4); have HY4 := Lib.hid hzf'
        have hs4 := HB4.out.size
        have hL2 := hzf.small
        clear hp4 hB4 hs hs' hzf hzf' hva hva0 hne hnel hperm
        go_wp2_with fail
        refine (records_any w1.heap.size z apex L' hL2 w4 HZ4.out.v).mono ?_
        rintro e w5 ⟨v5, rfl, hB5, hown5⟩
        have HB5 := Lib.hid (HB4.out.trans (hB5.mono hs4)); have HZ5 := Lib.hid (HZ4.out.kept hB5); have HY5 := Lib.hid (HY4.out.kept hB5); have HR5 := Lib.hid (owns_recs hown5)
        have hs5 := HB5.out.size
        clear hB5 hown5
        go_wp2_with fail
        refine (records_any w4.heap.size z' apex L' hL2 w5 HY5.out.v).mono ?_
        rintro e w6 ⟨v6, rfl, hB6, hown6⟩
        have HB6 := Lib.hid (HB5.out.trans (hB6.mono hs5)); have HZ6 := Lib.hid (HZ5.out.kept hB6); have HY6 := Lib.hid (HY5.out.kept hB6); have HR6 := Lib.hid (owns_recs hown6); have HR56 := Lib.hid (HR5.out.below hB6)
        have hs6 := HB6.out.size
        clear hB6 hown6
        go_wp2_with fail
        refine (same_any L' L' (by omega) _ _ w6 HR56.out HR6.out).mono ?_
        rintro e w7 ⟨rfl, hB7⟩
        rw [decide_eq_true rfl]
        have HB7 := Lib.hid (HB6.out.trans (hB7.mono hs6)); have HZ7 := Lib.hid (HZ6.out.kept hB7); have HY7 := Lib.hid (HY6.out.kept hB7)
        have hs7 := HB7.out.size
        clear hB7
        go_wp2_with fail
        refine (find_any w1.heap.size z apex L' q t HTW.out w7 HZ7.out).mono ?_
        rintro e w8 ⟨v8, rfl, hB8, hown8⟩
        obtain ⟨f, hfe⟩ : ∃ f, f = zn.findR apex L' q t := ⟨_, rfl⟩
        have hfl : f.recs.length ≤ 2000 := by rw [hfe]; exact Nat.le_trans (find_len apex L' _ _) hL2
        rw [← hfe] at hown8 ⊢
        have HB8 := Lib.hid (HB7.out.trans (hB8.mono hs7)); have HZ8 := Lib.hid (HZ7.out.kept hB8); have HY8 := Lib.hid (HY7.out.kept hB8); have HR8 := Lib.hid (owns_recs hown8); have HFE := Lib.hid hfe
        have hs8 := HB8.out.size
        clear hB8 hown8 hfe
        go_wp2_with fail
        refine (find_any w4.heap.size z' apex L' q t HTW.out w8 HY8.out).mono ?_
        rintro e w9 ⟨v9, rfl, hB9, hown9⟩
        rw [← HFE.out] at hown9 ⊢
        have HB9 := Lib.hid (HB8.out.trans (hB9.mono hs8)); have HZ9 := Lib.hid (HZ8.out.kept hB9); have HY9 := Lib.hid (HY8.out.kept hB9); have HR9 := Lib.hid (owns_recs hown9); have HR89 := Lib.hid (HR8.out.below hB9)
        have hs9 := HB9.out.size
        clear hB9 hown9
        go_wp2_with fail
        refine (sameFound_any f (by omega) v8 v9 w9 HR89.out HR9.out).mono ?_
        rintro e w10 ⟨rfl, hB10⟩
        have HB10 := Lib.hid (HB9.out.trans (hB10.mono hs9)); have HZ10 := Lib.hid (HZ9.out.kept hB10); have HY10 := Lib.hid (HY9.out.kept hB10)
        have hs10 := HB10.out.size
        clear hB10
        go_wp2_with fail
        refine (names_any w1.heap.size z apex L' hL2 HZ10.out.named w10 HZ10.out.v).mono ?_
        rintro e w11 ⟨N, hN, v11, rfl, hB11, hown11⟩
        have HB11 := Lib.hid (HB10.out.trans (hB11.mono hs10)); have HZ11 := Lib.hid (HZ10.out.kept hB11); have HY11 := Lib.hid (HY10.out.kept hB11); have HR11 := Lib.hid (owns_strsR hown11); have HN1 := Lib.hid hN
        have hs11 := HB11.out.size
        clear hB11 hown11 hN
        go_wp2_with fail
        refine (names_any w4.heap.size z' apex L' hL2 HZ10.out.named w11 HY11.out.v).mono ?_
        rintro e w12 ⟨N2, hN2, v12, rfl, hB12, hown12⟩
        have hNN : N2 = N := hN2.eq HVA.out HN1.out
        subst hNN
        have hNl : N2.length ≤ 512000 := names_len hL2 HVA.out hN2
        have HB12' := Lib.hid (HB11.out.trans (hB12.mono hs11)); have HZ12 := Lib.hid (HZ11.out.kept hB12); have HY12 := Lib.hid (HY11.out.kept hB12); have HR12 := Lib.hid (owns_strsR hown12); have HR112 := Lib.hid (HR11.out.below hB12)
        have hs12 := HB12'.out.size
        clear hB12 hown12 hN2
        go_wp2_with fail
        refine (texts_any N2 N2 (by omega) v11 v12 w12 HR112.out HR12.out).mono ?_
        rintro e w13 ⟨rfl, hB13⟩
        rw [decide_eq_true rfl]
        have HB13 := Lib.hid (HB12'.out.trans (hB13.mono hs12)); have HZ13 := Lib.hid (HZ12.out.kept hB13); have HY13 := Lib.hid (HY12.out.kept hB13)
        have hs13 := HB13.out.size
        clear hB13
        go_wp2_with fail
        refine (lint_any w1.heap.size z apex L' HVA.out w13 HZ13.out).mono ?_
        rintro e w14 ⟨v14, rfl, hB14, hown14⟩
        obtain ⟨a14, cap14, rfl, -⟩ := ownsRow_len hown14
        obtain ⟨m, hm⟩ : ∃ m, m = (zn.lintR apex L').length := ⟨_, rfl⟩
        rw [← hm]
        have HB14 := Lib.hid (HB13.out.trans (hB14.mono hs13)); have HY14 := Lib.hid (HY13.out.kept hB14); have HM := Lib.hid hm
        have hs14 := HB14.out.size
        clear hB14 hown14 hm
        go_wp2_with fail
        refine (lint_any w4.heap.size z' apex L' HVA.out w14 HY14.out).mono ?_
        rintro e w15 ⟨v15, rfl, hB15, hown15⟩
        obtain ⟨a15, cap15, rfl, -⟩ := ownsRow_len hown15
        rw [← HM.out]
        have HB15 := Lib.hid (HB14.out.trans (hB15.mono hs14))
        clear hB15 hown15
        go_wp2_with fail
        go_ret
        exact ⟨rfl, HB15.out⟩
      · rw [hne] at hperm hpp
        obtain ⟨k1, hnel⟩ : ∃ k1, zn.newE apex l' = some (k1, c0) := by
          cases h : zn.newE apex l' with
          | none => rw [h] at hperm; cases hperm
          | some p =>
            rw [h] at hperm
            simp only [Option.map_some, Option.some.injEq] at hperm
            exact ⟨p.1, by rw [← hperm]⟩
        simp only at hpp
        obtain ⟨rfl, rfl⟩ := hpp
        obtain ⟨hB4, rfl⟩ := newPost_bad hp4 hnel
        have hc := zn.newE_code hne
        have b1 : (c != 0) = true := by rw [bne_iff_ne]; exact hc
        have HB4 := Lib.hid (HBW.out.trans (hB4.mono hsw0))
        clear hp4 hB4 hne hnel hc hperm
        go_wp2_with fail
        go_ret
        exact ⟨rfl, HB4.out⟩
end Go.Proofs.YtpjoaghnciomeaaGreat

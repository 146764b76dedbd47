/-
  gazetteerlaw11.PolicyOrders, walked.
-/
import Derived.Test.YtnloommafgnanaaGreatQROrd
import Derived.Test.YtnloommafgnanaaGreatQRewR
import Derived.Test.YtnloommafgnanaaGreatQLimL
import Derived.Deep.CutBlock
namespace Go.Proofs.YtnloommafgnanaaGreat
open Go.RowKit Go.Shelf Go.Proofs.YtnloommafgnanaaGreat.nm Go.Proofs.YtnloommafgnanaaGreat.od Go.Proofs.YtnloommafgnanaaGreat.sm

namespace po
theorem ord_len {set : List Rec} {rolls : List Int} {c : Int} {L : List Rec} (h : OrdRes set rolls c L) : L.length ≤ set.length := by
  cases h with
  | bad h => exact Nat.zero_le _
  | root h hr => exact Nat.zero_le _
  | run h hr T L hT hL =>
    rw [run_len hL, List.length_map, hT.1.length_eq, List.length_zipIdx]
    exact Nat.le_refl _
theorem rew_len {set : List Rec} {s : ByteArray} {c : Int} {L : List Rec} (h : RewRes set s c L) : L.length ≤ set.length := by
  cases h with
  | bad h => exact Nat.zero_le _
  | run h T n hT hn =>
    have h1 := hT.1.length_eq
    rw [List.length_zipIdx] at h1
    have h2 := List.length_filter_le (keepsB s) set
    rw [List.length_take, List.length_map]
    omega
end po
/-- Nothing appended to nothing, in a plain region. -/
theorem wpList_append_none {P : Program} {w : World} {ops : Array Oper} {rest : List Oper} {o : Oper} {a : Act} {Q : Exit → Act → World → Prop} (hgd : o.guard = none) (s x : Operand) (t : TypeId)
    (ho : o.op = .call { callee := .builtin .append, args := #[s, x], argTypes := #[t, t] })
    (e : TypeId) (i : TypeInfo) (ht : P.underlying t = some (.slice e)) (hi : P.info? e = some i) (hs : a.eval s = .slice none 0 0) (n c : Nat) (hx : a.eval x = .slice none n c) (hn : n = 0)
    (h : wpList P ops Q rest (a.put o.dst (.slice none 0 0)) w) : wpList P ops Q (o :: rest) a w := by
  subst hn
  have hr : (Builtin.append_ #[t, t] o.type #[.slice none 0 0, .slice none 0 c]).run P w = .ok (.slice none 0 0) w := run_append_nothing w t t o.type e i ht hi none 0 0 (Nat.le_refl _) _ (Src.ofNil w ht c)
  refine wpList_plain hgd fun K hK => ?_
  unfold Oper.wp execOp
  simp only [ho, resolve, invoke, builtin, Sem.run_bind, Sem.run_pure, Result.andThen_ok, List.map_toArray, List.map_cons, List.map_nil, hs, hx, hr]
  exact hK _ _ h
/-- An own row of numbers is numbers in memory. -/
theorem ints_own {w : World} {base : Nat} {v : Value} {zs : List Int} (h : w.ownsRow base 3 1 v zs.length (zs.map fun z => .int .i64 z)) : IntsC w v zs := by
  obtain ⟨a, cap, rfl, hc⟩ := ownsRow_len h
  refine ⟨a, cap, rfl, hc, fun k hk => ?_⟩
  obtain ⟨g, cg, hv, -, hl⟩ := h.form (by omega)
  simp only [Value.slice.injEq, true_and] at hv
  obtain ⟨rfl, rfl⟩ := hv
  have hcc := h.cellAt k (by omega)
  refine ⟨g, 0, rfl, hl, ?_⟩
  rw [Nat.zero_add, hcc, List.getElem?_map, List.getElem?_eq_getElem hk, Option.map_some]
set_option maxRecDepth 100000 in
set_option maxHeartbeats 1000000 in
theorem numbers_any (zs : List Int) (hl : zs.length ≤ 1000000000000) (v u : Value) (w : World) (hv : IntsC w v zs) (hu : IntsC w u zs) :
    Calls Tryz.prog 12 #[v, u] w fun e w' => e = .returned (.bool true) ∧ Below w.heap.size w w' := by
  have HV := Lib.hid hv; have HU := Lib.hid hu
  obtain ⟨a, ca, rfl, -⟩ := id hv
  obtain ⟨b, cb, rfl, -⟩ := id hu
  clear hv hu
  go_enter Tryz.func12, Tryz.ntmps12
  go_wp2_with fail
  go_loopw [13, 5] (fun kv _ wr => ∃ k : Nat, k ≤ zs.length ∧ kv = .int .i64 (k : Int) ∧ Hid (Below w.heap.size w wr)) (fun kv _ _ => zs.length - (intOf kv).toNat)
  case atStart => exact ⟨0, Nat.zero_le _, rfl, Lib.hid (Below.refl _ _)⟩
  case round =>
    obtain ⟨k, hk, rfl, HB⟩ := hrel
    obtain ⟨wo, hwo⟩ : ∃ X : World, X = wr := ⟨_, rfl⟩
    subst hwo
    by_cases hlt : k < zs.length
    · have hki : (k : Int) < (zs.length : Int) := by omega
      obtain ⟨_, _, hva, -, hca⟩ := HV.out.below HB.out
      obtain ⟨_, _, hvb, -, hcb⟩ := HU.out.below HB.out
      simp only [Value.slice.injEq, true_and] at hva hvb
      obtain ⟨rfl, rfl⟩ := hva
      obtain ⟨rfl, rfl⟩ := hvb
      obtain ⟨ba, oa, rfl, -, c1⟩ := hca k hlt
      obtain ⟨bb, ob, rfl, -, c2⟩ := hcb k hlt
      obtain ⟨z, hz⟩ : ∃ z, z = zs[k] := ⟨_, rfl⟩
      rw [← hz] at c1 c2
      have g1 := gw_cell c1; have g2 := gw_cell c2
      clear hca hcb hz c1 c2
      go_upto_region 6 with fail
      refine wp_region_gw (by kernel_rfl) (by kernel_rfl) ?_
      repeat (with_reducible refine wpQuiet_step (fun K hK => ?_); go_simp; (try simp only [undef]); first | (with_reducible refine hK _ ?_; clear hK K))
      refine wpQuiet_nil ?_
      (try simp only [show Value.tuple #[] = undef from rfl])
      intro W hW
      have hBW : Below wo.heap.size wo W := by obtain ⟨g, rfl⟩ := hW; exact gw_below _ g
      clear hW
      have HBW := Lib.hid (HB.out.trans (hBW.mono HB.out.size))
      clear hBW
      go_wp2_with fail
      go_roundw
      case rel => exact ⟨k + 1, by omega, by go_num, HBW⟩
      case measure => simp [intOf]; omega
    · obtain rfl : k = zs.length := by omega
      clear hlt
      go_wp2_with fail
      go_ret
      exact ⟨rfl, HB.out⟩
set_option maxRecDepth 100000 in
set_option maxHeartbeats 16000000 in
theorem orders_any (set : List Rec) (hl : set.length ≤ 1048576) (hn : ∀ x ∈ set, x.owner.size ≤ 1099511627776) (rolls : List Int) (hz : ∀ z ∈ rolls, I64 z) (hrl : rolls.length ≤ 1048576) (s : ByteArray) (hs : s.size ≤ 1099511627776)
    (v rv : Value) (hf : SliceForm v) (hrf : SliceForm rv) (w : World) (hv : RecsAt w v set) (hrv : IntsC w rv rolls) :
    Calls Tryz.prog 3 #[v, rv, .string s] w fun e w' => e = .returned (.bool true) ∧ Below w.heap.size w w' := by
  have HV := Lib.hid hv; have HRV := Lib.hid hrv; have HZ := Lib.hid hz; have HF := Lib.hid hf; have HRF := Lib.hid hrf; have HN := Lib.hid hn
  obtain ⟨a, cap, rfl, -⟩ := id hv
  obtain ⟨ra, rcap, rfl, -⟩ := id hrv
  clear hv hrv hz hf hrf hn
  obtain ⟨i0_i, hi_i, hz_i, hz1_i, hz2_i⟩ := info_parts info_int
  have HI_i := Lib.hid hi_i; have HZ_i := Lib.hid hz_i; have HZ1_i := Lib.hid hz1_i; have HZ2_i := Lib.hid hz2_i
  clear hi_i hz_i hz1_i hz2_i
  go_enter Tryz.func3, Tryz.ntmps3
  go_wp2_with fail
  refine (alive_any w).mono ?_
  rintro e w1 ⟨rfl, hB1⟩
  have HB1 := Lib.hid hB1
  clear hB1
  go_wp2_with fail
  refine (twin_any set (by omega) _ HF.out w1 (HV.out.below HB1.out)).mono ?_
  rintro e w2 ⟨g, cg, rfl, hB2, hown, hcap⟩
  have HB2 := Lib.hid (HB1.out.trans (hB2.mono HB1.out.size))
  have HOW := Lib.hid (ownsRow_base hown HB1.out.size)
  have hrec : RecsAt w2 (.slice (some ⟨g, 0, none⟩) set.length cg) set := by
    have h1 := recsAt_take (k := set.length) (owns_recs (base := 0) (l := set ++ [spareR, spareR]) (by rw [List.length_append]; exact ownsRow_base hown (Nat.zero_le _))) (by rw [List.length_append]; omega)
    rw [List.take_left] at h1
    obtain ⟨a', c', hv', hc', hcells⟩ := h1
    simp only [Value.slice.injEq, true_and] at hv'
    obtain ⟨rfl, rfl⟩ := hv'
    exact ⟨_, cg, rfl, by omega, hcells⟩
  have HREC := Lib.hid hrec; have HCAP := Lib.hid hcap
  have HGL := Lib.hid (show w.heap.size ≤ g ∧ g < w2.heap.size from ⟨Nat.le_trans HB1.out.size (hown.lt g rfl).1, (hown.lt g rfl).2⟩)
  clear hB2 hown hrec hcap
  go_upto_region 4 with fail
  go_cut [8] (fun x wx => Hid (IntsC wx x rolls) ∧ Below w2.heap.size w2 wx)
  case first =>
    obtain ⟨na, nc, hnv, hncap, hncells⟩ := id HRV.out
    simp only [Value.slice.injEq, true_and] at hnv
    obtain ⟨rfl, rfl⟩ := hnv
    rcases HRF.out with hnil | ⟨nb, noff, nn, ncp, hsome⟩
    · simp only [Value.slice.injEq] at hnil
      obtain ⟨rfl, hz0, rfl⟩ := hnil
      have HR0 := Lib.hid (show rolls = [] from List.eq_nil_of_length_eq_zero hz0)
      have HZ0 := Lib.hid (show rolls.length = 0 from hz0.symm ▸ rfl)
      clear hncells hz0
      go_wp2_with (at_builtin; refine wpList_append_none rfl _ _ 23 rfl 3 i0_i Tryz.underlying23 HI_i.out rfl _ _ rfl HZ0.out ?_)
      go_meet
      exact ⟨Lib.hid (by rw [HR0.out]; exact ⟨none, 0, rfl, Nat.le_refl _, fun k hk => absurd hk (Nat.not_lt_zero _)⟩), Below.refl _ _⟩
    · simp only [Value.slice.injEq] at hsome
      obtain ⟨rfl, rfl, rfl⟩ := hsome
      have hone : ∀ u ∈ rolls.map (fun z => Value.int .i64 z), u.oneCell' = true := fun u hu => by
        obtain ⟨z, -, rfl⟩ := List.mem_map.1 hu
        rfl
      have hln : (rolls.map fun z => Value.int .i64 z).length = rolls.length * 1 := by simp
      have hnl : World.ownsRow w2 w2.heap.size 3 1 (.slice none 0 0) 0 [] := World.ownsRow_nil _ _ _ _
      have hnews : ∀ j u, (rolls.map fun z => Value.int .i64 z)[j]? = some u → w2.cell? ((⟨nb, noff, none⟩ : Addr).add j) = some u := fun j u hu => by
        have hj := (List.getElem?_eq_some_iff.1 hu).1
        rw [List.length_map] at hj
        obtain ⟨b', off', he, hlb, hc⟩ := hncells j hj
        simp only [Option.some.injEq, Addr.mk.injEq, and_true] at he
        obtain ⟨rfl, rfl⟩ := he
        rw [Addr.add_lit, HB2.out.cell (p := ⟨nb, noff + j, none⟩) hlb, hc, ← hu, List.getElem?_map, List.getElem?_eq_getElem hj, Option.map_some]
      have p1 : 0 + rolls.length ≤ maxLen := by unfold maxLen; omega
      have p2 : (0 + rolls.length) * 8 ≤ 140737488355328 := by omega
      have HONE := Lib.hid hone; have HLN := Lib.hid hln; have HNL := Lib.hid hnl; have HNEWS := Lib.hid hnews; have P1 := Lib.hid p1; have P2 := Lib.hid p2
      clear hone hln hnl hnews p1 p2
      clear hncells
      go_wp2_with (at_builtin; refine wpList_append_new _ rfl _ _ 23 rfl w2.heap.size 3 i0_i (.int .i64 0) 1 8 Tryz.underlying23 HI_i.out HZ_i.out HZ1_i.out HZ2_i.out rfl (by decide) _ _ _ rfl HNL.out ⟨nb, noff, none⟩ rolls.length _ (rolls.map fun z => Value.int .i64 z) rfl HLN.out HNEWS.out HONE.out P1.out P2.out (Nat.le_refl _) ?_)
      intro v0 w3 hown3 hg3 hnn3
      have HB3 := Lib.hid ((Below.refl w2.heap.size w2).grown hg3 (Nat.le_refl _) (fun j hj => by cases hj))
      have HI3 := Lib.hid (ints_own (show w3.ownsRow w2.heap.size 3 1 v0 rolls.length (rolls.map fun z => Value.int .i64 z) from by simpa using hown3))
      clear hown3 hg3 hnn3
      go_wp2_with fail
      go_meet
      exact ⟨HI3, HB3.out⟩
  case rest =>
    obtain ⟨HR3, hB3⟩ := hcut
    obtain ⟨w3, hw3⟩ : ∃ X : World, X = wc := ⟨_, rfl⟩
    subst hw3
    have HB3 := Lib.hid (HB2.out.trans (hB3.mono HB2.out.size))
    have HREC3 := Lib.hid (HREC.out.below hB3)
    have HOW3 := Lib.hid (ownsRow_below HOW.out hB3)
    have HG3 := Lib.hid (show g < w3.heap.size from Nat.lt_of_lt_of_le HGL.out.2 hB3.size)
    obtain ⟨ra3, rc3, hrv3, -⟩ := id HR3.out
    subst hrv3
    have hz3 := HZ.out
    clear hB3
    go_wp2_with fail
    refine (porder_any set (by omega) rolls HZ.out (by omega) _ _ (.inr ⟨g, 0, set.length, cg, rfl⟩) w3 HREC3.out HR3.out).mono ?_
    rintro e w4 ⟨va, c, L, rfl, hB4, hres, hown4⟩
    have HB4 := Lib.hid (HB3.out.trans (hB4.mono HB3.out.size))
    have HX4 := Lib.hid hB4
    have HRA := Lib.hid hres; have HOA := Lib.hid (ownsRow_base hown4 HB3.out.size)
    have HAG := Lib.hid (show va.ownBlock ≠ some g from fun e => by
      have := (hown4.lt g e).1
      have := HG3.out
      omega)
    clear hB4 hres hown4
    go_wp2_with fail
    refine (rorder_any set (by omega) HN.out rolls HZ.out (by omega) _ _ HF.out w4 (HV.out.below HB4.out) (HRV.out.below HB4.out)).mono ?_
    rintro e w5 ⟨vb, c2, M, rfl, hB5, hres2, hown5⟩
    obtain ⟨rfl, rfl⟩ := po.ord_eq HRA.out hres2
    have HB5 := Lib.hid (HB4.out.trans (hB5.mono HB4.out.size))
    have HX5 := Lib.hid (HX4.out.trans (hB5.mono HX4.out.size))
    have HOA5 := Lib.hid (ownsRow_below HOA.out hB5)
    have HOB5 := Lib.hid (owns_recs hown5)
    clear hB5 hres2 hown5
    go_wp2_with fail
    refine (prewrites_any set (by omega) s (by omega) _ (.inr ⟨g, 0, set.length, cg, rfl⟩) w5 (HREC3.out.below HX5.out)).mono ?_
    rintro e w6 ⟨vc, d, P, rfl, hB6, hres3, hcut3⟩
    have HB6 := Lib.hid (HB5.out.trans (hB6.mono HB5.out.size))
    have HX6 := Lib.hid (HX5.out.trans (hB6.mono HX5.out.size))
    have HOA6 := Lib.hid (ownsRow_below HOA5.out hB6)
    have HOB6 := Lib.hid (HOB5.out.below hB6)
    have HRC := Lib.hid hres3; have HCU := Lib.hid hcut3
    have HCB := Lib.hid (fun b (hb : vc.ownBlock = some b) => (hcut3.own hb))
    have HW5 := Lib.hid (show g < w5.heap.size ∧ w.heap.size ≤ w5.heap.size ∧ (∀ b, va.ownBlock = some b → b < w5.heap.size) from ⟨Nat.lt_of_lt_of_le HG3.out HX5.out.size, HB5.out.size, fun b hb => (HOA5.out.lt b hb).2⟩)
    clear hB6 hres3 hcut3
    go_wp2_with fail
    refine (rrewrites_any set (by omega) HN.out s (by omega) _ HF.out w6 (HV.out.below HB6.out)).mono ?_
    rintro e w7 ⟨vd, d2, Q, rfl, hB7, hres4, hrec7⟩
    obtain ⟨rfl, rfl⟩ := po.rew_eq HRC.out hres4
    have HB7 := Lib.hid (HB6.out.trans (hB7.mono HB6.out.size))
    have HX7 := Lib.hid (HX6.out.trans (hB7.mono HX6.out.size))
    have HOA7 := Lib.hid (ownsRow_below HOA6.out hB7)
    have HOB7 := Lib.hid (HOB6.out.below hB7)
    have HCU7 := Lib.hid (HCU.out.keep fun b hb => hB7.block b ((HCU.out.own hb).2))
    have HCD7 := Lib.hid hrec7
    have hL := po.ord_len HRA.out
    have hP := po.rew_len HRC.out
    clear hB7 hres4 hrec7
    obtain ⟨xa, xac, hva, -⟩ := ownsRow_len HOA7.out
    subst hva
    obtain ⟨xb, xbc, hvb, -⟩ := id HOB7.out
    subst hvb
    obtain ⟨xc, xcc, hvc, -⟩ := id HCU7.out.recs
    subst hvc
    obtain ⟨xd, xdc, hvd, -⟩ := id HCD7.out
    subst hvd
    have hLn : L.length ≤ 1000000000000 := by omega
    have hPn : P.length ≤ 1000000000000 := by omega
    go_wp2_with fail
    refine (same_any L L hLn _ _ w7 (owns_recs HOA7.out) HOB7.out).mono ?_
    rintro e w8 ⟨rfl, hB8⟩
    rw [show decide (L = L) = true from decide_eq_true rfl]
    have HB8 := Lib.hid (HB7.out.trans (hB8.mono HB7.out.size))
    have HX8 := Lib.hid (HX7.out.trans (hB8.mono HX7.out.size))
    have HZ8 := Lib.hid hB8
    clear hB8
    go_wp2_with fail
    refine (same_any P P hPn _ _ w8 (HCU7.out.recs.below HZ8.out) (HCD7.out.below HZ8.out)).mono ?_
    rintro e w9 ⟨rfl, hB9⟩
    rw [show decide (P = P) = true from decide_eq_true rfl]
    have HB9 := Lib.hid (HB8.out.trans (hB9.mono HB8.out.size))
    have HX9 := Lib.hid (HX8.out.trans (hB9.mono HX8.out.size))
    have HZ9 := Lib.hid (HZ8.out.trans (hB9.mono HZ8.out.size))
    clear hB9
    go_wp2_with fail
    refine (whole_any w.heap.size g cg set (by omega) _ w9 (ownsRow_below HOW3.out HX9.out) HCAP.out (HV.out.below HB9.out)).mono ?_
    rintro e w10 ⟨rfl, hB10⟩
    have HB10 := Lib.hid (HB9.out.trans (hB10.mono HB9.out.size))
    have HX10 := Lib.hid (HX9.out.trans (hB10.mono HX9.out.size))
    have HZ10 := Lib.hid (HZ9.out.trans (hB10.mono HZ9.out.size))
    clear hB10
    go_wp2_with fail
    refine (numbers_any rolls (by omega) _ _ w10 (HR3.out.below HX10.out) (HRV.out.below HB10.out)).mono ?_
    rintro e w11 ⟨rfl, hB11⟩
    have HB11 := Lib.hid (HB10.out.trans (hB11.mono HB10.out.size))
    have HX11 := Lib.hid (HX10.out.trans (hB11.mono HX10.out.size))
    have HZ11 := Lib.hid (HZ10.out.trans (hB11.mono HZ10.out.size))
    clear hB11
    go_wp2_with fail
    have HOA11 := Lib.hid (ownsRow_below HOA7.out HZ11.out)
    refine (mark_any w.heap.size _ L.length hLn w11 ⟨_, HOA11.out⟩).mono ?_
    rintro e w12 ⟨rfl, hg12⟩
    have HO11 := Lib.hid (ownsRow_below HOW3.out HX11.out)
    have HO12 := Lib.hid (ownsRow_keepOne HO11.out fun b hb => hg12.block b (HO11.out.lt b hb).2 (fun e => by
      obtain rfl : g = b := by simpa [Value.ownBlock] using hb
      exact HAG.out e.symm))
    have HB12 := Lib.hid (HB11.out.grown hg12 HB11.out.size (fun j hj => (HOA11.out.lt j hj).1))
    have HCU11 := Lib.hid (HCU7.out.keep fun b hb => HZ11.out.block b (HCU7.out.own hb).2)
    have HCU12 := Lib.hid (HCU11.out.keep fun b hb => hg12.block b (HCU11.out.own hb).2 (fun e => by
      have h1 := HW5.out.2.2 b e.symm
      have h2 := (HCB.out b hb).1
      omega))
    clear hg12
    go_wp2_with fail
    refine (markCut_any w5.heap.size _ P hPn w12 HCU12.out).mono ?_
    rintro e w13 ⟨rfl, hg13⟩
    have HO13 := Lib.hid (ownsRow_keepOne HO12.out fun b hb => hg13.block b (HO12.out.lt b hb).2 (fun e => by
      obtain rfl : g = b := by simpa [Value.ownBlock] using hb
      have h2 := (HCB.out g e.symm).1
      have := HW5.out.1
      omega))
    have HB13 := Lib.hid (HB12.out.grown hg13 HB12.out.size (fun j hj => Nat.le_trans HW5.out.2.1 (HCB.out j hj).1))
    clear hg13
    go_wp2_with fail
    refine (whole_any w.heap.size g cg set (by omega) _ w13 HO13.out HCAP.out (HV.out.below HB13.out)).mono ?_
    rintro e w14 ⟨rfl, hB14⟩
    have HB14 := Lib.hid (HB13.out.trans (hB14.mono HB13.out.size))
    clear hB14
    go_wp2_with fail
    go_ret
    exact ⟨rfl, HB14.out⟩
end Go.Proofs.YtnloommafgnanaaGreat

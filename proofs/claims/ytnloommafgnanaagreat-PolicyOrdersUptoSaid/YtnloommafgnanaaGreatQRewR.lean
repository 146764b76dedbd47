/-
  gazetteerref11.Rewrites, walked.
-/
import Derived.Test.YtnloommafgnanaaGreatQRewA
import Derived.Test.YtnloommafgnanaaGreatQRSetY
import Derived.Test.YtnloommafgnanaaGreatQRNum
import Derived.Test.YtnloommafgnanaaGreatQRefP
import Derived.Test.YtnloommafgnanaaGreatQStepN
import Derived.Deep.RegionLawGrows
import Derived.Deep.Upon
import Derived.Deep.CutBlock
namespace Go.Proofs.YtnloommafgnanaaGreat
open Go.RowKit Go.Shelf Go.Proofs.YtnloommafgnanaaGreat.nm Go.Proofs.YtnloommafgnanaaGreat.od Go.Proofs.YtnloommafgnanaaGreat.sm

namespace po
inductive RRewRes (set : List Rec) (s : ByteArray) : Int → List Rec → Prop
  | bad (h : setB 35 set = false) : RRewRes set s 8 []
  | run (h : setB 35 set = true) : RRewRes set s 0 (rewI (set.filter (keepsB s))).2
theorem rew_eq {set : List Rec} {s : ByteArray} {c d : Int} {L M : List Rec} (h1 : RewRes set s c L) (h2 : RRewRes set s d M) : c = d ∧ L = M := by
  cases h1 with
  | bad h =>
    cases h2 with
    | bad h' => exact ⟨rfl, rfl⟩
    | run h' => rw [h] at h'; cases h'
  | run h T n hT hn =>
    cases h2 with
    | bad h' => rw [h] at h'; cases h'
    | run h' => exact ⟨rfl, rew_same hT hn⟩
theorem rewI_len (K : List Rec) : (rewI K).2.length ≤ K.length := by
  obtain ⟨O, h1, h2⟩ := rew_all K K.length (Nat.le_refl _)
  rw [List.take_length] at h1 h2
  have h3 := h2.perm.length_eq
  have h4 := List.length_filter_le (fun x : Rec × Nat => decide (numI x.1.data 0 = (rewI K).1)) (K.zipIdx.take K.length)
  rw [List.length_take, List.length_zipIdx] at h4
  rw [← h1, List.length_map]
  omega
theorem rewI_mem (K : List Rec) : ∀ y ∈ (rewI K).2, y ∈ K := fun y hy => by
  obtain ⟨O, h1, h2⟩ := rew_all K K.length (Nat.le_refl _)
  rw [List.take_length] at h1 h2
  rw [← h1] at hy
  obtain ⟨⟨a, i⟩, hz, rfl⟩ := List.mem_map.1 hy
  have h3 := (List.mem_filter.1 (h2.perm.subset hz)).1
  exact List.fst_mem_of_mem_zipIdx (List.mem_of_mem_take h3)
theorem stepB_cut {m : Int} {O : List Rec} {x : Rec} {m2 : Int} {O2 : List Rec} (hm : m2 = if numI x.data 0 < m then numI x.data 0 else m) (hO : O2 = if numI x.data 0 < m then [] else O) :
    stepB (m, O) x = if m2 < numI x.data 0 then (m2, O2) else (m2, insB O2 x) := by
  unfold stepB
  by_cases h1 : numI x.data 0 < m
  · rw [if_pos h1] at hm hO
    rw [if_pos h1, hm, hO, if_neg (by omega)]
  · rw [if_neg h1] at hm hO
    rw [if_neg h1, hm, hO]
theorem iposI_at (out : List Rec) (v : Int) {j : Nat} (hj : j < out.length) : iposI out v (j + 1) = if v < numI (out[j]).data 1 then iposI out v j else j + 1 := by
  show (if v < numI ((out[j]?).getD _).data 1 then iposI out v j else j + 1) = _
  rw [List.getElem?_eq_getElem hj]
  rfl
theorem insB_len (O : List Rec) (x : Rec) : (insB O x).length = O.length + 1 := by
  have := iposI_le O (numI x.data 1) O.length
  unfold insB
  rw [List.length_append, List.length_take, List.length_cons, List.length_drop]
  omega
end po
/-- Nothing appended, as one step of a drawn region. -/
theorem step_append_nothing {P : Program} {ops : Array Oper} {o : Oper} {a : Act} {w : World} {K : Act → World → Prop} {Q : Exit → Act → World → Prop} {E : Prop}
    (hg : o.guard = none) (s x : Operand) (t : TypeId) (hop : o.op = Op.call { callee := Callee.builtin Builtin.append, args := #[s, x], argTypes := #[t, t] })
    (e : TypeId) (i : TypeInfo) (ht : P.underlying t = some (.slice e)) (hi : P.info? e = some i) (base : Option Addr) (n cap : Nat) (hle : n ≤ cap) (hs : a.eval s = .slice base n cap)
    (ao : Option Addr) (c : Nat) (hx : a.eval x = .slice ao 0 c) (hK : K (a.put o.dst (.slice base n cap)) w) :
    if Region.wanted o (yielded ops a.tmps) = true then Oper.wp P o a w K Q else E := by
  have hw : Region.wanted o (yielded ops a.tmps) = true := by simp [Region.wanted, hg]
  rw [if_pos hw]
  have hr : (Builtin.append_ #[t, t] o.type #[.slice base n cap, .slice ao 0 c]).run P w = .ok (.slice base n cap) w := by
    cases ao with
    | none => exact run_append_nothing w t t o.type e i ht hi base n cap hle _ (Src.ofNil w ht c)
    | some ad => exact run_append_nothing w t t o.type e i ht hi base n cap hle _ (Src.ofSlice w ht ad 0 c [] (by simp) (fun j u hu => by simp at hu) (fun u hu => by simp at hu))
  unfold Oper.wp
  simp [execOp, hop, resolve, invoke, builtin, hs, hx, hr, Result.andThen]
  exact hK
theorem own_new (W : World) (x : Rec) : (W.alloc (.cells (recC x).toArray 42)).ownsRow W.heap.size 42 5 (.slice (some ⟨W.heap.size, 0, none⟩) 1 1) 1 (recC x) :=
  ⟨rfl, .inr ⟨W.heap.size, 1, (recC x).toArray, rfl, Nat.le_refl _, heap_new_at rfl, Nat.le_refl _, by unfold maxLen; omega, rfl, rfl⟩⟩
/-- What is laid in so far. -/
def OutAt (w wr : World) (ov : Value) (O : List Rec) : Prop :=
  Below w.heap.size w wr ∧ ((ov = .slice none 0 0 ∧ O = []) ∨ (0 < O.length ∧ wr.ownsRow w.heap.size 42 5 ov O.length (recsC O)))
theorem OutAt.form {w wr : World} {ov : Value} {O : List Rec} (h : OutAt w wr ov O) : ∃ a c, ov = .slice a O.length c ∧ O.length ≤ c := by
  rcases h.2 with ⟨rfl, rfl⟩ | ⟨_, h3⟩
  · exact ⟨_, _, rfl, Nat.le_refl _⟩
  · exact ownsRow_len h3
theorem OutAt.row {w wr : World} {ov : Value} {O : List Rec} (h : OutAt w wr ov O) (h0 : 0 < O.length) : wr.ownsRow w.heap.size 42 5 ov O.length (recsC O) := by
  rcases h.2 with ⟨_, rfl⟩ | ⟨_, h3⟩
  · cases h0
  · exact h3
theorem OutAt.recs {w wr : World} {ov : Value} {O : List Rec} (h : OutAt w wr ov O) : RecsAt wr ov O := by
  rcases h.2 with ⟨rfl, rfl⟩ | ⟨_, h3⟩
  · exact owns_recs (base := 0) (World.ownsRow_nil _ _ _ _)
  · exact owns_recs h3
theorem recAt_in {w w' : World} {b off : Nat} {r : Rec} (h : RecAt w b off r) (hB : Below w.heap.size w w') (hb : b < w.heap.size) : RecAt w' b off r := h.keep (hB.block b hb)
theorem own_takes {W : World} {base g c : Nat} {O : List Rec} {j : Nat} (h : W.ownsRow base 42 5 (.slice (some ⟨g, 0, none⟩) O.length c) O.length (recsC O)) (hj : j ≤ O.length) : ∀ i u, (recsC (O.take j))[i]? = some u → W.cell? ((⟨g, 0, none⟩ : Addr).add i) = some u := fun i u hu => by
  have hi := (List.getElem?_eq_some_iff.1 hu).1
  rw [recsC_len, List.length_take, Nat.min_eq_left hj] at hi
  have h5 := Nat.mul_le_mul_right 5 hj
  rw [Addr.add_lit, Nat.zero_add, h.cellAt i (by omega), ← hu, ← recsC_take, List.getElem?_take, if_pos hi]
theorem own_drops {W : World} {base g c : Nat} {O : List Rec} {j : Nat} (h : W.ownsRow base 42 5 (.slice (some ⟨g, 0, none⟩) O.length c) O.length (recsC O)) (hj : j ≤ O.length) : ∀ i u, (recsC (O.drop j))[i]? = some u → W.cell? ((⟨g, j * 5, none⟩ : Addr).add i) = some u := fun i u hu => by
  have hi := (List.getElem?_eq_some_iff.1 hu).1
  rw [recsC_len, List.length_drop, Nat.sub_mul] at hi
  have h5 := Nat.mul_le_mul_right 5 hj
  rw [Addr.add_lit, h.cellAt (j * 5 + i) (by omega), ← hu, ← recsC_drop, List.getElem?_drop]
theorem own_all {W : World} {base g c n size : Nat} {e : TypeId} {xs : List Value} (h : W.ownsRow base e size (.slice (some ⟨g, 0, none⟩) n c) n xs) : ∀ i u, xs[i]? = some u → W.cell? ((⟨g, 0, none⟩ : Addr).add i) = some u := fun i u hu => by
  have hi := (List.getElem?_eq_some_iff.1 hu).1
  rw [h.1] at hi
  rw [Addr.add_lit, Nat.zero_add, h.cellAt i hi, hu]
theorem ins_row {W : World} {base base' j : Nat} {v : Value} {O : List Rec} {x : Rec} (hj : po.iposI O (po.numI x.data 1) O.length = j) (hjl : j ≤ O.length) (hb : base' ≤ base)
    (h : W.ownsRow base 42 5 v (j + (1 + (O.length - j))) (recsC (O.take j) ++ (recC x ++ recsC (O.drop j)))) : W.ownsRow base' 42 5 v (po.insB O x).length (recsC (po.insB O x)) := by
  have e : recsC (po.insB O x) = recsC (O.take j) ++ (recC x ++ recsC (O.drop j)) := by
    unfold po.insB
    rw [hj, recsC_cat]
    rfl
  rw [e, po.insB_len, show O.length + 1 = j + (1 + (O.length - j)) by omega]
  exact ownsRow_base h hb
theorem ins_row0 {W : World} {base base' : Nat} {v : Value} {O : List Rec} {x : Rec} (hj : po.iposI O (po.numI x.data 1) O.length = O.length) (hb : base' ≤ base)
    (h : W.ownsRow base 42 5 v (O.length + 1) (recsC O ++ recC x)) : W.ownsRow base' 42 5 v (po.insB O x).length (recsC (po.insB O x)) := by
  refine ins_row hj (Nat.le_refl _) hb ?_
  rw [List.take_length, List.drop_length, Nat.sub_self]
  have e : recC x ++ recsC ([] : List Rec) = recC x := List.append_nil _
  rw [e]
  exact h
theorem OutAt.below {w wr wx : World} {ov : Value} {O : List Rec} (h : OutAt w wr ov O) (hb : Below wr.heap.size wr wx) : OutAt w wx ov O := by
  refine ⟨h.1.trans (hb.mono h.1.size), ?_⟩
  rcases h.2 with h2 | ⟨h2, h3⟩
  · exact .inl h2
  · exact .inr ⟨h2, ownsRow_below h3 hb⟩
def RRewPost (set : List Rec) (s : ByteArray) (w : World) (e : Ending) (w' : World) : Prop :=
  ∃ v c L, e = .returned (.tuple #[v, .int .i64 c]) ∧ Below w.heap.size w w' ∧ po.RRewRes set s c L ∧ RecsAt w' v L
theorem rrnum_call {x : Rec} (h : dt.chkI 35 x.data = 0) (k : Nat) (hk : k ≤ 1) (X : World) : Calls Tryz.prog 28 #[.string x.data, .int .i64 (k : Int)] X fun e w' => e = .returned (.int .i64 (po.numI x.data k)) ∧ X = w' := by
  obtain ⟨_, _, _, _, _, hz, h1, h2, _⟩ := po.nap_data h
  exact rnumber_any x.data k (by omega) (by omega) X
set_option maxRecDepth 100000 in
set_option maxHeartbeats 16000000 in
theorem rrewrites_any (set : List Rec) (hl : set.length * 56 ≤ 1099511627776) (hn : ∀ x ∈ set, x.owner.size ≤ 1099511627776) (s : ByteArray) (hs : s.size ≤ 140737488355328) (v : Value) (hf : SliceForm v) (w : World) (hv : RecsAt w v set) :
    Calls Tryz.prog 9 #[v, .string s] w fun e w' => RRewPost set s w e w' := by
  have HV := Lib.hid hv; have HF := Lib.hid hf; have HN := Lib.hid hn
  obtain ⟨a, cap, rfl, -⟩ := id hv
  obtain ⟨sb, hsb⟩ : ∃ sb, sb = po.setB 35 set := ⟨_, rfl⟩
  have HSB := Lib.hid hsb
  clear hv hf hn
  obtain ⟨i0_r, hi_r, hz_r, hz1_r, hz2_r⟩ := info_parts info_rec
  have HI_r := Lib.hid hi_r; have HZ_r := Lib.hid hz_r; have HZ1_r := Lib.hid hz1_r; have HZ2_r := Lib.hid hz2_r
  clear hi_r hz_r hz1_r hz2_r
  go_enter Tryz.func9, Tryz.ntmps9
  go_wp2_with fail
  refine (rsetT_any 35 (by decide) set (by omega) HN.out _ w HV.out).mono ?_
  rintro e w1 ⟨rfl, hB1⟩
  rw [← hsb]
  have HB1 := Lib.hid hB1
  clear hB1 hsb
  cases sb with
  | false =>
    go_wp2_with fail
    go_ret2
    exact ⟨_, _, [], rfl, HB1.out, .bad HSB.out.symm, owns_recs (base := 0) (World.ownsRow_nil _ _ _ _)⟩
  | true =>
    obtain ⟨hgood, h0, -⟩ := po.set_all HSB.out.symm
    have hdata : ∀ x ∈ set, dt.chkI 35 x.data = 0 := fun x hx => po.good_data (hgood x hx)
    have HD := Lib.hid hdata
    have HSL := Lib.hid (show (∀ k, ((set.take k).filter (po.keepsB s)).length ≤ k) from fun k => Nat.le_trans (List.length_filter_le _ _) (by rw [List.length_take]; omega))
    have hform : dt.formF 35 = some [.num 2, .num 2, .text, .text, .text, .host] := rfl
    have HFF := Lib.hid (dt.rform_some hform)
    have HGOOD := Lib.hid (dt.form_good hform).1
    obtain ⟨b, off, cp, hvv, -⟩ := recs_some (HV.out.below HB1.out) h0
    simp only [Value.slice.injEq, true_and] at hvv
    obtain ⟨rfl, rfl⟩ := hvv
    have HH0 := Lib.hid h0
    clear hgood hdata hform h0
    go_wp2_with fail
    go_loopw [20, 7, 6] (fun kv lv ov wr => ∃ k : Nat, k ≤ set.length ∧ kv = .int .i64 (k : Int) ∧ lv = .int .i64 (po.rewI ((set.take k).filter (po.keepsB s))).1 ∧ Hid (OutAt w wr ov (po.rewI ((set.take k).filter (po.keepsB s))).2)) (fun kv _ _ _ => set.length - (intOf kv).toNat)
    case atStart => exact ⟨0, Nat.zero_le _, rfl, rfl, Lib.hid ⟨HB1.out, .inl ⟨rfl, rfl⟩⟩⟩
    case round =>
      obtain ⟨k, hk, rfl, rfl, HR⟩ := hrel
      obtain ⟨w2, hw2⟩ : ∃ X : World, X = wr := ⟨_, rfl⟩
      subst hw2
      obtain ⟨m, hm⟩ : ∃ m, m = (po.rewI ((set.take k).filter (po.keepsB s))).1 := ⟨_, rfl⟩
      obtain ⟨O, hO⟩ : ∃ O, O = (po.rewI ((set.take k).filter (po.keepsB s))).2 := ⟨_, rfl⟩
      have HOK := Lib.hid (show OutAt w w2 _ O from by rw [hO]; exact HR.out)
      have hOl : O.length ≤ k := by rw [hO]; exact Nat.le_trans (po.rewI_len _) (HSL.out k)
      have HMO := Lib.hid (show po.rewI ((set.take k).filter (po.keepsB s)) = (m, O) from by rw [hm, hO])
      rw [← hm]
      clear hm hO
      by_cases hlt : k < set.length
      · have hki : (k : Int) < (set.length : Int) := by omega
        obtain ⟨_, c0, c1, c2, c3, c4⟩ := cells_at (HV.out.below HOK.out.1) hlt
        obtain ⟨x, hx⟩ : ∃ x, x = set[k] := ⟨_, rfl⟩
        rw [← hx] at c0 c1 c2 c3 c4
        have hxd := HD.out x (by rw [hx]; exact List.getElem_mem _)
        obtain ⟨ps, r0, hsp, hr0, hpl, hdz, g1, g2, h3p, hp3⟩ := po.nap_data hxd
        obtain ⟨wa, hwa⟩ : ∃ W, W = w2.alloc (.cells (recC x).toArray 42) := ⟨_, rfl⟩
        obtain ⟨hBa, hsa, hxa⟩ := rec_new w2 wa x hwa
        obtain ⟨bx, hbx⟩ : ∃ bx, bx = w2.heap.size := ⟨_, rfl⟩
        rw [← hbx] at hxa
        have hbl : bx < wa.heap.size := by omega
        obtain ⟨p3, hp3e⟩ : ∃ p, p = ps[3] := ⟨_, rfl⟩
        have hps : p3.size = 1 + po.lb x.data := by rw [hp3e, hp3, ByteArray.size_extract, po.size_ex]; omega
        obtain ⟨v, hv⟩ : ∃ v, v = po.svcS x.data := ⟨_, rfl⟩
        have hsv : p3.extract 1 p3.size = v := by rw [hp3e, hp3, hv]; exact po.svc_is g2
        have hvs : v.size ≤ 65535 := by rw [hv]; unfold po.svcS; rw [ByteArray.size_extract, po.size_ex]; omega
        have h1p : (1 : Int) ≤ (p3.size : Int) := by omega
        have hparts := fun W => rparts_any [.num 2, .num 2, .text, .text, .text, .host] (by decide) HGOOD.out x.data hdz W
        have HALL := Lib.hid (fun (X : World) (hX : Below wa.heap.size wa X) => (⟨hX, (hX.cell (p := ⟨bx, 4, none⟩) hbl).trans (by simpa using hxa.2.2.2.2)⟩ : Below wa.heap.size wa X ∧ X.cell? ⟨bx, 4, none⟩ = some (.string x.data)))
        have HXA := Lib.hid hxa
        obtain ⟨kb, hkb⟩ : ∃ kb, kb = po.keepsB s x := ⟨_, rfl⟩
        have hnx : (set.take (k + 1)).filter (po.keepsB s) = (set.take k).filter (po.keepsB s) ++ if kb = true then [x] else [] := by
          rw [List.take_succ_eq_append_getElem hlt, List.filter_append, ← hx, hkb]
          congr 1
          by_cases h : po.keepsB s x = true
          · rw [if_pos h, List.filter_cons_of_pos h, List.filter_nil]
          · rw [if_neg h, List.filter_cons_of_neg h, List.filter_nil]
        have HOA := Lib.hid (HOK.out.below hBa)
        have x4 : wa.cell? ⟨bx, 4, none⟩ = some (.string x.data) := by simpa using hxa.2.2.2.2
        have CN := Lib.hid (rrnum_call hxd)
        have HWA := Lib.hid hwa; have HBX := Lib.hid hbx; have HP3 := Lib.hid hp3e; have HPL := Lib.hid hpl; have HSP := Lib.hid hsp; have HR0 := Lib.hid hr0; have HSV := Lib.hid hsv; have HV3 := Lib.hid hv; have HPARTS := Lib.hid hparts; have HKB := Lib.hid hkb; have HNX := Lib.hid hnx; have HX := Lib.hid hx; have HBL := Lib.hid hbl
        clear hsp hr0 hpl g1 g2 hp3 hwa hBa hsa hxa hbx hp3e hps hv hsv hparts hkb hnx hx hxd hbl
        go_upto_region 8 with fail
        rw [← HWA.out, ← HBX.out]
        clear c0 c1 c2 c3 c4
        go_cut [10] (fun sv wx => ∃ g cp, sv = .slice (some ⟨g, 0, none⟩) 6 cp ∧ 6 ≤ cp ∧ wx.cell? ⟨g, 3, none⟩ = some (.string p3) ∧ Below wa.heap.size wa wx)
        case first =>
          go_region_held3 (fun X => Below wa.heap.size wa X ∧ X.cell? ⟨bx, 4, none⟩ = some (.string x.data))
            (first | assumption | exact HALL.out _ (Below.refl _ _).drew | (go_split_ands; exact HALL.out _ (by assumption)))
            (first
              | (go_at_call 35; (with_reducible refine (rform_any _ _).mono ?_); rintro e wF ⟨rfl, rfl⟩; rw [HFF.out])
              | (go_at_call 34; (with_reducible refine (HPARTS.out _).mono ?_); rintro e wA ⟨hpp, hbA⟩; rw [HSP.out] at hpp; obtain ⟨vp, rfl, hop⟩ := hpp; go_split_ands; have hbA2 := Below.trans (B := wa.heap.size) (a := wa) (by assumption) (hbA.mono (Below.size (by assumption)))))
          all_goals
            obtain ⟨gg, cp, rfl, _, _⟩ := hop.form (by have := HPL.out; omega)
            have hc2 := ownsRow_cells hop 3 (by rw [List.length_map]; have := HPL.out; omega)
            rw [List.getElem_map, ← HP3.out] at hc2
            obtain ⟨_, _, hv', hcp⟩ := ownsRow_len hop
            simp only [Value.slice.injEq, true_and] at hv'
            go_wp2_with fail
            go_meet
            exact ⟨gg, cp, by rw [HPL.out], by have := HPL.out; omega, hc2, hbA2⟩
        case rest =>
          obtain ⟨g5, cp5, rfl, hcp, hcell, hBc⟩ := hcut
          obtain ⟨w3, hw3⟩ : ∃ X : World, X = wc := ⟨_, rfl⟩
          subst hw3
          have HB3 := Lib.hid hBc
          clear hBc
          go_upto_region 10 with fail
          rw [HSV.out]
          clear hcell
          go_cut [43] (fun t wx => t = .bool (!kb) ∧ Below w3.heap.size w3 wx)
          case first =>
            by_cases h0 : s.size = 0
            · have b0 := str_empty h0
              have e0 : kb = true := by rw [HKB.out]; unfold po.keepsB; rw [decide_eq_true h0]; rfl
              have E0 := Lib.hid e0
              clear e0 h0
              go_wp2_with fail
              go_meet
              exact ⟨by rw [E0.out]; rfl, Below.refl _ _⟩
            · have b0 := str_some h0
              obtain ⟨lv, hlv⟩ : ∃ lv, lv = lowS v := ⟨_, rfl⟩
              obtain ⟨ls, hls⟩ : ∃ ls, ls = lowS s := ⟨_, rfl⟩
              have f0 : (lv.toList == ls.toList) = kb := by rw [HKB.out]; unfold po.keepsB; rw [decide_eq_false h0, hlv, hls, HV3.out]; rfl
              have HLV := Lib.hid hlv; have HLS := Lib.hid hls
              clear h0 hlv hls
              go_wp2_with fail
              refine (rlow_any v (by omega) _).mono ?_
              rintro e w4 ⟨rfl, hb4⟩
              rw [← HLV.out]
              have HB4 := Lib.hid hb4
              clear hb4
              go_wp2_with fail
              refine (rlow_any s hs _).mono ?_
              rintro e w5 ⟨rfl, hb5⟩
              rw [← HLS.out]
              have HB5 := Lib.hid (HB4.out.trans (hb5.mono HB4.out.size))
              clear hb5
              go_wp2_with fail
              go_meet
              exact ⟨rfl, HB5.out⟩
          case rest =>
            obtain ⟨rfl, hB4⟩ := hcut
            obtain ⟨w4, hw4⟩ : ∃ X : World, X = wc := ⟨_, rfl⟩
            subst hw4
            have HB4 := Lib.hid (HB3.out.trans (hB4.mono HB3.out.size))
            have HO4 := Lib.hid (HOA.out.below HB4.out)
            clear hB4
            cases kb with
            | false =>
              have HK2 := Lib.hid (show po.rewI ((set.take (k + 1)).filter (po.keepsB s)) = (m, O) by rw [HNX.out, ← HMO.out]; simp)
              go_wp2_with fail
              go_roundw
              case rel => exact ⟨k + 1, by omega, by go_num, by rw [HK2.out], Lib.hid (by rw [HK2.out]; exact HO4.out)⟩
              case measure => simp [intOf]; omega
            | true =>
              have y4 := (HALL.out _ HB4.out).2
              obtain ⟨p, hp⟩ : ∃ p, p = po.numI x.data 0 := ⟨_, rfl⟩
              obtain ⟨m2, hm2⟩ : ∃ m2, m2 = if po.numI x.data 0 < m then po.numI x.data 0 else m := ⟨_, rfl⟩
              obtain ⟨O2, hO2⟩ : ∃ O2, O2 = if po.numI x.data 0 < m then [] else O := ⟨_, rfl⟩
              have HSB2 := Lib.hid (show po.rewI ((set.take (k + 1)).filter (po.keepsB s)) = if m2 < p then (m2, O2) else (m2, po.insB O2 x) by
                rw [HNX.out, if_pos rfl, po.rewI_snoc, HMO.out, po.stepB_cut hm2 hO2, hp])
              rw [← hp] at hm2 hO2
              have hO2l : O2.length ≤ k := by
                rw [hO2]; split
                · exact Nat.zero_le _
                · exact hOl
              have C0 : Hid (∀ X, Calls Tryz.prog 28 #[.string x.data, .int .i64 0] X fun e w' => e = .returned (.int .i64 p) ∧ X = w') := Lib.hid fun X => by rw [hp]; exact CN.out 0 (by omega) X
              have HM2 := Lib.hid hm2; have HO2 := Lib.hid hO2; have HPP := Lib.hid hp
              clear hp hm2 hO2
              go_wp2_with fail
              refine (C0.out _).mono ?_
              rintro e w5 ⟨rfl, rfl⟩
              go_upto_if 49 with fail
              go_cut [7, 6] (fun lv ov wx => lv = .int .i64 m2 ∧ Hid (OutAt w wx ov O2) ∧ w4 = wx)
              case first =>
                by_cases hpm : p < m
                · have E1 := Lib.hid (show m2 = p by rw [HM2.out, if_pos hpm])
                  have E2 := Lib.hid (show O2 = [] by rw [HO2.out, if_pos hpm])
                  go_wp2_with fail
                  go_meet
                  exact ⟨by rw [E1.out], Lib.hid ⟨HO4.out.1, .inl ⟨rfl, E2.out⟩⟩, rfl⟩
                · have E1 := Lib.hid (show m2 = m by rw [HM2.out, if_neg hpm])
                  have E2 := Lib.hid (show O2 = O by rw [HO2.out, if_neg hpm])
                  go_wp2_with fail
                  go_meet
                  exact ⟨by rw [E1.out], Lib.hid (by rw [E2.out]; exact HO4.out), rfl⟩
              case rest =>
                obtain ⟨rfl, HO5, rfl⟩ := hcut
                by_cases hgt : m2 < p
                · have HK2 := Lib.hid (HSB2.out.trans (if_pos hgt))
                  go_wp2_with fail
                  go_roundw
                  case rel => exact ⟨k + 1, by omega, by go_num, by rw [HK2.out], Lib.hid (by rw [HK2.out]; exact HO5.out)⟩
                  case measure => simp [intOf]; omega
                · have HK2 := Lib.hid (HSB2.out.trans (if_neg hgt))
                  obtain ⟨oa, oc, rfl, hoc⟩ := HO5.out.form
                  obtain ⟨v1, hv1⟩ : ∃ v1, v1 = po.numI x.data 1 := ⟨_, rfl⟩
                  have C1 : Hid (∀ X, Calls Tryz.prog 28 #[.string x.data, .int .i64 1] X fun e w' => e = .returned (.int .i64 v1) ∧ X = w') := Lib.hid fun X => by rw [hv1]; exact CN.out 1 (by omega) X
                  have HMEM := Lib.hid (show ∀ y ∈ O2, dt.chkI 35 y.data = 0 from fun y hy => by
                    have h1 : y ∈ O := by
                      have h2 := HO2.out
                      by_cases hpm : p < m
                      · rw [if_pos hpm] at h2; rw [h2] at hy; cases hy
                      · rw [if_neg hpm] at h2; rw [h2] at hy; exact hy
                    have h3 : y ∈ (po.rewI ((set.take k).filter (po.keepsB s))).2 := by rw [HMO.out]; exact h1
                    exact HD.out y (List.mem_of_mem_take (List.mem_filter.1 (po.rewI_mem _ y h3)).1))
                  have HV1 := Lib.hid hv1
                  clear hv1
                  go_wp2_with fail
                  go_loopw [14] (fun kv wr => ∃ j : Nat, j ≤ O2.length ∧ kv = .int .i64 (j : Int) ∧ Hid (po.iposI O2 v1 O2.length = po.iposI O2 v1 j ∧ Below w4.heap.size w4 wr)) (fun kv _ => (intOf kv).toNat)
                  case atStart => exact ⟨O2.length, Nat.le_refl _, rfl, Lib.hid ⟨rfl, Below.refl _ _⟩⟩
                  case round =>
                    obtain ⟨j, hj, rfl, HJ⟩ := hrel
                    obtain ⟨wo, hwo⟩ : ∃ X : World, X = wr := ⟨_, rfl⟩
                    subst hwo
                    obtain ⟨tb, htb⟩ : ∃ tb, tb = decide (∃ h : j - 1 < O2.length, 0 < j ∧ v1 < po.numI (O2[j - 1]).data 1) := ⟨_, rfl⟩
                    have HTB := Lib.hid htb
                    clear htb
                    go_upto_region 17 with fail
                    go_cut [70] (fun t wx => t = .bool tb ∧ Below wo.heap.size wo wx)
                    case first =>
                      by_cases h0 : 0 < j
                      · obtain ⟨j0, hj0⟩ : ∃ j0, j0 = j - 1 := ⟨_, rfl⟩
                        have hjl : j0 < O2.length := by omega
                        obtain ⟨go, cgo, hgo, -, -⟩ := (HO5.out.row (by omega)).form (by omega)
                        simp only [Value.slice.injEq, true_and] at hgo
                        obtain ⟨rfl, rfl⟩ := hgo
                        obtain ⟨_, z0, z1, z2, z3, z4⟩ := cells_at ((owns_recs (HO5.out.row (by omega))).below HJ.out.2) hjl
                        simp only [Nat.zero_add] at z4
                        obtain ⟨y, hy⟩ : ∃ y, y = O2[j0] := ⟨_, rfl⟩
                        rw [← hy] at z4
                        obtain ⟨q, hq⟩ : ∃ q, q = po.numI y.data 1 := ⟨_, rfl⟩
                        have xc := (HALL.out _ (HB4.out.trans (HJ.out.2.mono HB4.out.size))).2
                        have u4 := gw_cell z4; have u5 := gw_cell xc
                        have CX : Hid (∀ p, Calls Tryz.prog 28 #[.string x.data, .int .i64 1] (gw wo p) fun e w'' => e = .returned (.int .i64 v1) ∧ ∃ p', w'' = gw wo p') := Lib.hid fun p => calls_gw_left (C1.out _)
                        have CY : Hid (∀ p, Calls Tryz.prog 28 #[.string y.data, .int .i64 1] (gw wo p) fun e w'' => e = .returned (.int .i64 q) ∧ ∃ p', w'' = gw wo p') := Lib.hid fun p => by rw [hq]; exact calls_gw_left (rrnum_call (HMEM.out y (by rw [hy]; exact List.getElem_mem _)) 1 (by omega) _)
                        have htb : tb = decide (v1 < q) := by
                          rw [HTB.out, hq, hy]
                          simp only [← hj0]
                          exact decide_eq_decide.2 ⟨fun ⟨_, _, h⟩ => h, fun h => ⟨hjl, h0, h⟩⟩
                        have ek : (j : Int) - 1 = (j0 : Int) := by omega
                        have ew : IntKind.i64.wrap (j0 : Int) = (j0 : Int) := by rw [IntKind.wrap_i64]; omega
                        have h0i : (0 : Int) < (j : Int) := by omega
                        have hji : (j0 : Int) < (O2.length : Int) := by omega
                        have HTB2 := Lib.hid htb
                        have HYY := Lib.hid hy; have HQ := Lib.hid hq; have HJ0 := Lib.hid hj0
                        clear htb z0 z1 z2 z3 z4 xc hy hq hj0
                        by_cases hq2 : v1 < q
                        · have f1 : decide (v1 < q) = true := decide_eq_true hq2
                          have F1 := Lib.hid f1
                          refine wp_region_gw (by kernel_rfl) (by kernel_rfl) ?_
                          repeat (with_reducible refine wpQuiet_step (fun K hK => ?_); go_simp; (try simp only [undef]); first | (with_reducible refine hK _ ?_; clear hK K) | (apply Exists.intro; refine ⟨fun _ => ?_, hK _ ?_⟩; (first | (go_at_call 28; (first | with_reducible exact CX.out _ | with_reducible exact CY.out _))); clear hK K) | (with_reducible refine ⟨fun _ h => (by cases h), ?_⟩; with_reducible refine hK _ ?_; clear hK K))
                          refine wpQuiet_nil ?_
                          (try simp only [show Value.tuple #[] = undef from rfl])
                          intro W hW
                          have hBW : Below wo.heap.size wo W := by obtain ⟨g, rfl⟩ := hW; exact gw_below _ g
                          clear hW
                          go_wp2_with fail
                          go_meet
                          exact ⟨by rw [HTB2.out, F1.out], hBW⟩
                        · have f1 : decide (v1 < q) = false := decide_eq_false hq2
                          have F1 := Lib.hid f1
                          refine wp_region_gw (by kernel_rfl) (by kernel_rfl) ?_
                          repeat (with_reducible refine wpQuiet_step (fun K hK => ?_); go_simp; (try simp only [undef]); first | (with_reducible refine hK _ ?_; clear hK K) | (apply Exists.intro; refine ⟨fun _ => ?_, hK _ ?_⟩; (first | (go_at_call 28; (first | with_reducible exact CX.out _ | with_reducible exact CY.out _))); clear hK K) | (with_reducible refine ⟨fun _ h => (by cases h), ?_⟩; with_reducible refine hK _ ?_; clear hK K))
                          refine wpQuiet_nil ?_
                          (try simp only [show Value.tuple #[] = undef from rfl])
                          intro W hW
                          have hBW : Below wo.heap.size wo W := by obtain ⟨g, rfl⟩ := hW; exact gw_below _ g
                          clear hW
                          go_wp2_with fail
                          go_meet
                          exact ⟨by rw [HTB2.out, F1.out], hBW⟩
                      · have h0i : ¬ (0 : Int) < (j : Int) := by omega
                        have f1 : decide ((0 : Int) < (j : Int)) = false := decide_eq_false h0i
                        have E3 := Lib.hid (show tb = false by
                          rw [HTB.out]
                          exact decide_eq_false fun ⟨_, h, _⟩ => h0 h)
                        have f2 : decide (0 < j) = false := decide_eq_false h0
                        refine wp_region_gw (by kernel_rfl) (by kernel_rfl) ?_
                        repeat (with_reducible refine wpQuiet_step (fun K hK => ?_); go_simp; (try simp only [undef]); first | (with_reducible refine hK _ ?_; clear hK K))
                        refine wpQuiet_nil ?_
                        (try simp only [show Value.tuple #[] = undef from rfl])
                        intro W hW
                        have hBW : Below wo.heap.size wo W := by obtain ⟨g, rfl⟩ := hW; exact gw_below _ g
                        clear hW
                        go_wp2_with fail
                        go_meet
                        exact ⟨by rw [E3.out], hBW⟩
                    case rest =>
                      obtain ⟨rfl, hB6⟩ := hcut
                      obtain ⟨w6, hw6⟩ : ∃ X : World, X = wc := ⟨_, rfl⟩
                      subst hw6
                      have HB6 := Lib.hid (HJ.out.2.trans (hB6.mono HJ.out.2.size))
                      clear hB6
                      cases tb with
                      | true =>
                        obtain ⟨hjl, h0, hlt1⟩ := of_decide_eq_true HTB.out.symm
                        obtain ⟨j0, hj0⟩ : ∃ j0, j0 = j - 1 := ⟨_, rfl⟩
                        have hnext : po.iposI O2 v1 O2.length = po.iposI O2 v1 j0 := by
                          have h1 := HJ.out.1
                          have h2 := po.iposI_at O2 v1 (j := j0) (by omega)
                          simp only [← hj0] at hlt1
                          rw [if_pos hlt1, show j0 + 1 = j by omega] at h2
                          rw [h1, h2]
                        have ek : (j : Int) - 1 = (j0 : Int) := by omega
                        have ew : IntKind.i64.wrap (j0 : Int) = (j0 : Int) := by rw [IntKind.wrap_i64]; omega
                        have HNJ := Lib.hid hnext; have HJ0 := Lib.hid hj0
                        clear hnext hj0 hlt1 hjl
                        go_wp2_with fail
                        go_roundw
                        case rel => exact ⟨j0, by have := HJ0.out; omega, rfl, Lib.hid ⟨HNJ.out, HB6.out⟩⟩
                        case measure => simp [intOf]; have := HJ0.out; omega
                      | false =>
                        have hfin : po.iposI O2 (po.numI x.data 1) O2.length = j := by
                          rw [← HV1.out, HJ.out.1]
                          by_cases h0 : 0 < j
                          · have h2 := po.iposI_at O2 v1 (j := j - 1) (by omega)
                            have h3 := of_decide_eq_false HTB.out.symm
                            rw [if_neg (fun h => h3 ⟨by omega, h0, h⟩), show j - 1 + 1 = j by omega] at h2
                            exact h2
                          · obtain rfl : j = 0 := by omega
                            rfl
                        have HFIN := Lib.hid hfin
                        obtain ⟨hxx, -⟩ : ∃ h : True, h = h := ⟨trivial, rfl⟩
                        have HO6 := Lib.hid (HO5.out.below HB6.out)
                        have hxw := (HALL.out _ (HB4.out.trans (HB6.out.mono HB4.out.size))).1
                        have hx6 := recAt_in HXA.out hxw HBL.out
                        obtain ⟨x0, x1, x2, x3, x5⟩ := hx6
                        have BA := Lib.hid ((Below.refl w6.heap.size w6).drew.alloc (Nat.le_refl _) (.cells (recC x).toArray 42))
                        have NEW := Lib.hid (show (w6.drew.alloc (.cells (recC x).toArray 42)).ownsRow w6.heap.size 42 5 (.slice (some ⟨w6.heap.size, 0, none⟩) 1 1) 1 (recC x) from own_new w6.drew x)
                        have hj0 : (0 : Int) ≤ (j : Int) := by omega
                        have hjl : (j : Int) ≤ (O2.length : Int) := by omega
                        have hjc : (j : Int) ≤ (oc : Int) := by omega
                        have hlc : (O2.length : Int) ≤ (oc : Int) := by omega
                        clear hfin hxw
                        have h63 : O2.length + 1 ≤ maxLen := by unfold maxLen; omega
                        have h56 : (O2.length + 1) * 56 ≤ 140737488355328 := by omega
                        have H63 := Lib.hid h63; have H56 := Lib.hid h56
                        clear h63 h56
                        by_cases hz : 0 < O2.length
                        · obtain ⟨go, cgo, hgo, -, -⟩ := (HO6.out.row hz).form hz
                          simp only [Value.slice.injEq, true_and] at hgo
                          obtain ⟨rfl, rfl⟩ := hgo
                          have hrow := HO6.out.row hz
                          have KEEP := Lib.hid (fun (W : World) (hW : Below w6.heap.size w6 W) => ownsRow_below hrow hW)
                          have S1 := Lib.hid (show (recsC (O2.take j)).length = j * 5 by rw [recsC_len, List.length_take]; omega)
                          have S3 := Lib.hid (show (recsC (O2.drop j)).length = (O2.length - j) * 5 by rw [recsC_len, List.length_drop])
                          have S4 := Lib.hid (recs_one (O2.drop j))
                          have S5 := Lib.hid (show (recC x ++ recsC (O2.drop j)).length = (1 + (O2.length - j)) * 5 by rw [List.length_append, S3.out, Nat.add_mul]; rfl)
                          have S6 := Lib.hid (show ∀ u ∈ recC x ++ recsC (O2.drop j), u.oneCell' = true from fun u hu => recs_one (x :: O2.drop j) u hu)
                          have S7 := Lib.hid (show ∀ u ∈ recC x, u.oneCell' = true from fun u hu => recs_one [x] u (by simpa [recsC] using hu))
                          clear hrow
                          by_cases hjn : j < O2.length
                          · have hcd : ¬ (j : Int) = (oc : Int) := by omega
                            have hjn2 : ¬ j = oc := by omega
                            go_upto_region 19 with fail
                            go_region_law (first
                              | (refine step_append_new rfl (.tmp 78) (.tmp 81) 22 rfl w6.heap.size 42 i0_r (.agg #[.string ⟨#[]⟩, .int .i64 0, .int .i64 0, .int .i64 0, .string ⟨#[]⟩]) 5 56 Tryz.underlying22 HI_r.out HZ_r.out HZ1_r.out HZ2_r.out rfl (by decide) (.slice (some ⟨w6.heap.size, 0, none⟩) 1 1) 1 (recC x) (by simp [Act.eval]) NEW.out ⟨go, j * 5, none⟩ (O2.length - j) (oc - j) (recsC (O2.drop j)) (by simp [Act.eval]; omega) S3.out (own_drops (KEEP.out _ BA.out) hj) S4.out (by have := H63.out; omega) (by have := H56.out; omega) BA.out.size ?_; intro v11 w11 hown11 hg11 hnn11; obtain ⟨g1, c1, rfl, hb1, hlt1⟩ := hown11.form (by omega); have B11 := BA.out.grown hg11 BA.out.size (fun q hq => by simp [Value.ownBlock] at hq; omega))
                              | (refine step_append_grows rfl (.tmp 76) (.tmp 82) 22 rfl 42 i0_r (.agg #[.string ⟨#[]⟩, .int .i64 0, .int .i64 0, .int .i64 0, .string ⟨#[]⟩]) 5 56 Tryz.underlying22 HI_r.out HZ_r.out HZ1_r.out HZ2_r.out rfl (by decide) (some ⟨go, 0, none⟩) j j (recsC (O2.take j)) (by simp [Act.eval]) (fun h => by cases h) S1.out (fun b hb => by cases hb; exact own_takes (KEEP.out _ B11) hj) ⟨g1, 0, none⟩ (1 + (O2.length - j)) c1 (recC x ++ recsC (O2.drop j)) (by simp [Act.eval]) S5.out (own_all hown11) S6.out (by omega) (by have := H63.out; omega) (by have := H56.out; omega) ?_; intro v12 w12 hown12 hg12))
                            have B12 := B11.grown hg12 B11.size (fun q hq => by cases hq)
                            have HB12 := Lib.hid (HO6.out.1.trans (B12.mono HO6.out.1.size))
                            have HFI := Lib.hid (ins_row HFIN.out hj (Nat.le_trans HO6.out.1.size B11.size) hown12)
                            clear hown12 hg12 hown11 hg11 hnn11 B11 B12 x0 x1 x2 x3 x5
                            go_wp2_with fail
                            go_roundw
                            case rel => exact ⟨k + 1, by omega, by go_num, by rw [HK2.out], Lib.hid (by rw [HK2.out]; exact ⟨HB12.out, .inr ⟨by rw [po.insB_len]; omega, HFI.out⟩⟩)⟩
                            case measure => simp [intOf]; omega
                          · obtain rfl : j = O2.length := by omega
                            have S0 := Lib.hid (recsC_len O2)
                            by_cases hcc : oc = O2.length
                            · obtain rfl := hcc
                              go_upto_region 19 with fail
                              go_region_law (first
                                | (refine step_append_nothing rfl (.tmp 78) (.tmp 81) 22 rfl 42 i0_r Tryz.underlying22 HI_r.out (some ⟨w6.heap.size, 0, none⟩) 1 1 (Nat.le_refl _) (by simp [Act.eval]) (some ⟨go, 0, none⟩) (0) (by simp [Act.eval]) ?_)
                                | (refine step_append_grows rfl (.tmp 76) (.tmp 82) 22 rfl 42 i0_r (.agg #[.string ⟨#[]⟩, .int .i64 0, .int .i64 0, .int .i64 0, .string ⟨#[]⟩]) 5 56 Tryz.underlying22 HI_r.out HZ_r.out HZ1_r.out HZ2_r.out rfl (by decide) (some ⟨go, 0, none⟩) O2.length O2.length (recsC O2) (by simp [Act.eval]) (fun h => by cases h) S0.out (fun b hb => by cases hb; exact own_all (KEEP.out _ BA.out)) ⟨w6.heap.size, 0, none⟩ 1 1 (recC x) (by simp [Act.eval]) rfl (own_all NEW.out) S7.out (by omega) (by have := H63.out; omega) (by have := H56.out; omega) ?_; intro v12 w12 hown12 hg12))
                              have B12 := BA.out.grown hg12 BA.out.size (fun q hq => by cases hq)
                              have HB12 := Lib.hid (HO6.out.1.trans (B12.mono HO6.out.1.size))
                              have HFI := Lib.hid (ins_row0 HFIN.out (Nat.le_trans HO6.out.1.size BA.out.size) hown12)
                              clear hown12 hg12 B12 x0 x1 x2 x3 x5
                              go_wp2_with fail
                              go_roundw
                              case rel => exact ⟨k + 1, by omega, by go_num, by rw [HK2.out], Lib.hid (by rw [HK2.out]; exact ⟨HB12.out, .inr ⟨by rw [po.insB_len]; omega, HFI.out⟩⟩)⟩
                              case measure => simp [intOf]; omega
                            · have hcd : ¬ (O2.length : Int) = (oc : Int) := by omega
                              have hcd2 : ¬ O2.length = oc := by omega
                              go_upto_region 19 with fail
                              go_region_law (first
                                | (refine step_append_nothing rfl (.tmp 78) (.tmp 81) 22 rfl 42 i0_r Tryz.underlying22 HI_r.out (some ⟨w6.heap.size, 0, none⟩) 1 1 (Nat.le_refl _) (by simp [Act.eval]) (some ⟨go, O2.length * 5, none⟩) (oc - O2.length) (by simp [Act.eval]; omega) ?_)
                                | (refine step_append_grows rfl (.tmp 76) (.tmp 82) 22 rfl 42 i0_r (.agg #[.string ⟨#[]⟩, .int .i64 0, .int .i64 0, .int .i64 0, .string ⟨#[]⟩]) 5 56 Tryz.underlying22 HI_r.out HZ_r.out HZ1_r.out HZ2_r.out rfl (by decide) (some ⟨go, 0, none⟩) O2.length O2.length (recsC O2) (by simp [Act.eval]) (fun h => by cases h) S0.out (fun b hb => by cases hb; exact own_all (KEEP.out _ BA.out)) ⟨w6.heap.size, 0, none⟩ 1 1 (recC x) (by simp [Act.eval]) rfl (own_all NEW.out) S7.out (by omega) (by have := H63.out; omega) (by have := H56.out; omega) ?_; intro v12 w12 hown12 hg12))
                              have B12 := BA.out.grown hg12 BA.out.size (fun q hq => by cases hq)
                              have HB12 := Lib.hid (HO6.out.1.trans (B12.mono HO6.out.1.size))
                              have HFI := Lib.hid (ins_row0 HFIN.out (Nat.le_trans HO6.out.1.size BA.out.size) hown12)
                              clear hown12 hg12 B12 x0 x1 x2 x3 x5
                              go_wp2_with fail
                              go_roundw
                              case rel => exact ⟨k + 1, by omega, by go_num, by rw [HK2.out], Lib.hid (by rw [HK2.out]; exact ⟨HB12.out, .inr ⟨by rw [po.insB_len]; omega, HFI.out⟩⟩)⟩
                              case measure => simp [intOf]; omega
                        · have hO0 : O2 = [] := List.eq_nil_of_length_eq_zero (by omega)
                          have hj00 : j = 0 := by omega
                          have hoa : oa = none ∧ oc = 0 := by
                            rcases HO6.out.2 with ⟨he, _⟩ | ⟨h, _⟩
                            · simp only [Value.slice.injEq] at he
                              exact ⟨he.1, he.2.2⟩
                            · exact absurd h hz
                          obtain ⟨rfl, rfl⟩ := hoa
                          subst hj00
                          have S7 := Lib.hid (show ∀ u ∈ recC x, u.oneCell' = true from fun u hu => recs_one [x] u (by simpa [recsC] using hu))
                          have HL0 := Lib.hid (show O2.length = 0 by rw [hO0]; rfl)
                          have HO0 := Lib.hid hO0
                          clear hO0 hz
                          rw [HL0.out]
                          go_upto_region 19 with fail
                          go_region_law (first
                            | (refine step_append_nothing rfl (.tmp 78) (.tmp 81) 22 rfl 42 i0_r Tryz.underlying22 HI_r.out (some ⟨w6.heap.size, 0, none⟩) 1 1 (Nat.le_refl _) (by simp [Act.eval]) (none) (0) (by simp [Act.eval]) ?_)
                            | (refine step_append_grows rfl (.tmp 76) (.tmp 82) 22 rfl 42 i0_r (.agg #[.string ⟨#[]⟩, .int .i64 0, .int .i64 0, .int .i64 0, .string ⟨#[]⟩]) 5 56 Tryz.underlying22 HI_r.out HZ_r.out HZ1_r.out HZ2_r.out rfl (by decide) (none) 0 0 ([]) (by simp [Act.eval]) (fun _ => ⟨rfl, rfl⟩) rfl (fun b hb => by cases hb) ⟨w6.heap.size, 0, none⟩ 1 1 (recC x) (by simp [Act.eval]) rfl (own_all NEW.out) S7.out (by omega) (by have := H63.out; omega) (by have := H56.out; omega) ?_; intro v12 w12 hown12 hg12))
                          have B12 := BA.out.grown hg12 BA.out.size (fun q hq => by cases hq)
                          have HB12 := Lib.hid (HO6.out.1.trans (B12.mono HO6.out.1.size))
                          have HFI := Lib.hid (show w12.ownsRow w.heap.size 42 5 v12 (po.insB O2 x).length (recsC (po.insB O2 x)) from by have h1 := HFIN.out; rw [HO0.out] at h1 ⊢; exact ins_row0 h1 (Nat.le_trans HO6.out.1.size BA.out.size) hown12)
                          clear hown12 hg12 B12 x0 x1 x2 x3 x5
                          go_wp2_with fail
                          go_roundw
                          case rel => exact ⟨k + 1, by omega, by go_num, by rw [HK2.out], Lib.hid (by rw [HK2.out]; exact ⟨HB12.out, .inr ⟨by rw [po.insB_len]; omega, HFI.out⟩⟩)⟩
                          case measure => simp [intOf]; omega
      · obtain rfl : k = set.length := by omega
        have HT := Lib.hid (show (set.take set.length) = set from List.take_length)
        have HM2 := Lib.hid HMO.out
        clear hlt
        obtain ⟨oa, oc, rfl, hoc⟩ := HOK.out.form
        go_wp2_with fail
        go_ret2
        have hrun := po.RRewRes.run (s := s) HSB.out.symm
        have h2 := HMO.out
        rw [HT.out] at h2
        rw [h2] at hrun
        exact ⟨_, _, O, rfl, HOK.out.1, hrun, HOK.out.recs⟩
end Go.Proofs.YtnloommafgnanaaGreat

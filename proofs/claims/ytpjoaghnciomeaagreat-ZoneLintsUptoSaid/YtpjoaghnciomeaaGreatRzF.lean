/-
  The reference's zone: Serial, hidden.
-/
import Derived.Test.YtpjoaghnciomeaaGreatRzC
import Derived.Test.YtpjoaghnciomeaaGreatLint
namespace Go.Proofs.YtpjoaghnciomeaaGreat
open Go.RowKit Go.Shelf Go.Proofs.YtpjoaghnciomeaaGreat.nm Go.Proofs.YtpjoaghnciomeaaGreat.od
open dt (Fld)

namespace dt
abbrev soaF : List Fld := [.host, .host, .num 4, .num 4, .num 4, .num 4, .num 4]
theorem splitF_acc {f : Fld} {fs : List Fld} {d : ByteArray} {acc ps : List ByteArray} {r : ByteArray} (h : splitF (f :: fs) d acc = some (ps, r)) :
    0 ≤ takeI f d ∧ splitF fs (d.extract (takeI f d).toNat d.size) (acc ++ [d.extract 0 (takeI f d).toNat]) = some (ps, r) := by
  rw [splitF] at h
  split at h
  · cases h
  · exact ⟨by omega, h⟩
theorem splitF_pre : ∀ (fs : List Fld) (d : ByteArray) (acc ps : List ByteArray) (r : ByteArray), splitF fs d acc = some (ps, r) → ∃ t, ps = acc ++ t := by
  intro fs
  induction fs with
  | nil => intro d acc ps r h; simp only [splitF, Option.some.injEq, Prod.mk.injEq] at h; exact ⟨[], by rw [← h.1]; simp⟩
  | cons f fs ih =>
    intro d acc ps r h
    obtain ⟨_, h2⟩ := splitF_acc h
    obtain ⟨t, ht⟩ := ih _ _ _ _ h2
    exact ⟨[d.extract 0 (takeI f d).toNat] ++ t, by rw [ht, List.append_assoc]⟩
theorem soa_parts {d : ByteArray} {ps : List ByteArray} {r : ByteArray} (h : splitF soaF d [] = some (ps, r)) (hr : r.size = 0) : ps[2]? = some (d.extract (d.size - 20) (d.size - 16)) ∧ 20 ≤ d.size := by
  obtain ⟨a0, h0⟩ := splitF_acc h
  have l0 := takeI_le .host d
  generalize hn0 : (takeI .host d).toNat = n0 at h0
  obtain ⟨a1, h1⟩ := splitF_acc h0
  have l1 := takeI_le .host (d.extract n0 d.size)
  generalize hn1 : (takeI .host (d.extract n0 d.size)).toNat = n1 at h1
  have s1 : (d.extract n0 d.size).size = d.size - n0 := by rw [ByteArray.size_extract]; omega
  generalize hd2 : (d.extract n0 d.size).extract n1 (d.extract n0 d.size).size = d2 at h1
  have s2 : d2.size = d.size - n0 - n1 := by rw [← hd2, ByteArray.size_extract]; omega
  obtain ⟨a2, h2⟩ := splitF_acc h1
  rw [num_four] at a2 h2
  have f2 : ¬ d2.size < 4 := by split at a2 <;> omega
  rw [if_neg f2] at h2
  obtain ⟨d4, _, s4, h4⟩ := splitF_four h2
  obtain ⟨d5, _, s5, h5⟩ := splitF_four h4
  obtain ⟨d6, _, s6, h6⟩ := splitF_four h5
  obtain ⟨d7, _, s7, h7⟩ := splitF_four h6
  simp only [splitF, Option.some.injEq, Prod.mk.injEq] at h7
  have e7 : d7.size = 0 := by rw [h7.2]; exact hr
  have s3 : (d2.extract (4 : Int).toNat d2.size).size = d2.size - 4 := by rw [ByteArray.size_extract]; omega
  have hz : d2.size = 20 := by omega
  obtain ⟨t, ht⟩ := splitF_pre _ _ _ _ _ h2
  refine ⟨?_, by omega⟩
  rw [ht]
  simp only [List.nil_append, List.cons_append, List.getElem?_cons_succ, List.getElem?_cons_zero, Option.some.injEq]
  apply ba_ext
  rw [← hd2, extract_list, extract_list, extract_list, extract_list]
  have hl : d.data.toList.length = d.size := ba_len d
  have e1 : List.take (d.size - n0) (List.drop n0 d.data.toList) = List.drop n0 d.data.toList := List.take_of_length_le (by rw [List.length_drop, hl]; omega)
  have e2 : List.take ((d.extract n0 d.size).size - n1) (List.drop n1 (List.drop n0 d.data.toList)) = List.drop n1 (List.drop n0 d.data.toList) := List.take_of_length_le (by rw [List.length_drop, List.length_drop, hl, s1]; omega)
  rw [e1, e2, List.drop_zero, List.drop_drop]
  have h4' : (4 : Int).toNat = 4 := rfl
  rw [h4', show d.size - 16 - (d.size - 20) = 4 - 0 by omega]
  congr 2
  omega
end dt

set_option maxRecDepth 100000 in
set_option maxHeartbeats 4000000 in
theorem rserial_any (z : Nat) (apex : ByteArray) (L : List Rec) (hva : zn.Valid apex L) (r0 : Rec) (rest : List Rec) (hrow : zn.rowsS L (foldS apex, 6) = r0 :: rest) (w : World) (hz : RZone w z apex L) :
    Calls Tryz.prog 20 #[.pointer (some ⟨z, 0, none⟩)] w fun e w' => e = .returned (.int .i64 (zn.serialD r0.data)) ∧ Below w.heap.size w w' := by
  have hL := hva.small
  obtain ⟨g, cap, hzc, hrec⟩ := hz
  have HC := Lib.hid (fun W (hB : Below w.heap.size w W) => rz_cells hzc hrec hB)
  obtain ⟨q0, q1, _, hcap⟩ := rz_cells hzc hrec (Below.refl _ _)
  have hform : dt.formF 6 = some dt.soaF := rfl
  have hff := dt.rform_some hform
  have HZC := Lib.hid hzc; have HREC := Lib.hid hrec; have HVA := Lib.hid hva; have HROW := Lib.hid hrow; have HFORM := Lib.hid hform; have HFF := Lib.hid hff
  clear hzc hrec hva hrow hform hff
  go_enter Tryz.func20, Tryz.ntmps20
  go_wp2_with fail
  clear q0 q1
  go_loopw [12, 4, 5, 6] (fun kv _ _ _ wr => ∃ k : Nat, k ≤ L.length ∧ kv = .int .i64 (k : Int) ∧ (∀ j (hj : j < L.length), j < k → L[j].typ ≠ 6) ∧ Below w.heap.size w wr) (fun kv _ _ _ _ => L.length - (intOf kv).toNat)
  case atStart => exact ⟨0, Nat.zero_le _, rfl, (fun j hj h => by omega), Below.refl _ _⟩
  case round =>
    obtain ⟨k, hk, rfl, hno, hB⟩ := hrel
    have hsr := hB.size
    have HB := Lib.hid hB
    clear hB
    by_cases hlt : k < L.length
    · obtain ⟨c0, c1, c2, c3, c4⟩ := (HC.out wr HB.out).2.2.1 k hlt
      have hki : (k : Int) < (L.length : Int) := by omega
      obtain ⟨hBA0, hza, hx⟩ := rec_new wr _ L[k] rfl
      have HBA := Lib.hid (HB.out.trans (hBA0.mono hsr))
      obtain ⟨wa, hwa⟩ : ∃ W, W = wr.alloc (.cells (recC L[k]).toArray 53) := ⟨_, rfl⟩
      rw [← hwa] at HBA hx hza
      have ltb : wr.heap.size < wa.heap.size := by omega
      clear hBA0
      obtain ⟨x0, x1, x2, x3, x4⟩ := id hx
      by_cases h6 : L[k].typ = 6
      · have b6 : (L[k].typ == 6) = true := by rw [beq_iff_eq]; exact h6
        have hchk : dt.chkI 6 L[k].data = 0 := by
          have := ((HVA.out.each _ (List.getElem_mem hlt)).2.1)
          unfold zn.bad1 at this
          simp only [Bool.not_eq_false', Bool.and_eq_true, decide_eq_true_eq] at this
          rw [← h6]
          exact this.2
        obtain ⟨hd, ps, r, hsp, hr0⟩ := chk_fit HFORM.out hchk
        obtain ⟨hp2, h20⟩ := dt.soa_parts hsp hr0
        have hr0e : r0 = L[k] := by
          have he : foldS L[k].owner = foldS apex := (zn.equal_fold (HVA.out.named _ (List.getElem_mem hlt)) HVA.out.ap).1 ((zn.soa_iff.1 (zn.rules_parts HVA.out.rules).2.1).2 _ (List.getElem_mem hlt) h6)
          have := zn.rows_head (l := L) (κ := (foldS apex, 6)) hlt (by unfold zn.keyR; rw [he, h6]) (fun i hi h e => by
            unfold zn.keyR at e
            simp only [Prod.mk.injEq] at e
            exact hno i hi h e.2) r0
          rw [HROW.out] at this
          exact this
        have hpl := (dt.splitF_len _ _ _ _ _ hsp).1
        have hpl2 : ps.length = 7 := by simpa using hpl
        have hgood := dt.form_good HFORM.out
        have hparts := fun W => rparts_any dt.soaF (by decide) hgood.1 L[k].data hd W
        have hall : ∀ X : World, Below wa.heap.size wa X → Below wa.heap.size wa X ∧ X.cell? ⟨wr.heap.size, 4, none⟩ = some (.string L[k].data) := fun X hX => ⟨hX, (hX.cell (p := ⟨wr.heap.size, 4, none⟩) ltb).trans (by simpa using x4)⟩
        have hsz : (L[k].data.extract (L[k].data.size - 20) (L[k].data.size - 16)).size = 4 := by rw [ByteArray.size_extract]; omega
        have hval : zn.serialD r0.data = (dt.valN (L[k].data.extract (L[k].data.size - 20) (L[k].data.size - 16)) (L[k].data.extract (L[k].data.size - 20) (L[k].data.size - 16)).size : Nat) := by rw [hsz, hr0e]; rfl
        have h2p : 2 < ps.length := by omega
        have hget : ps[2] = L[k].data.extract (L[k].data.size - 20) (L[k].data.size - 16) := by
          rw [List.getElem?_eq_getElem h2p] at hp2
          exact Option.some.inj hp2
        obtain ⟨p2, hp2e⟩ : ∃ p, p = ps[2] := ⟨_, rfl⟩
        rw [← hget, ← hp2e] at hval hsz
        have H6 := Lib.hid h6; have HCHK := Lib.hid hchk; have HSP := Lib.hid hsp; have HR0 := Lib.hid hr0; have HP2 := Lib.hid hp2; have HR0E := Lib.hid hr0e; have HPARTS := Lib.hid hparts; have HALL := Lib.hid hall; have HVAL := Lib.hid hval; have HGET := Lib.hid hget; have HP2E := Lib.hid hp2e; have HPL := Lib.hid hpl; have HGOOD := Lib.hid hgood; have HX := Lib.hid hx; have HWA := Lib.hid hwa; have HNO := Lib.hid hno
        clear h6 hchk hsp hr0 hp2 hr0e hparts hall hval hget hp2e hpl hgood hx hwa hno
        clear x0 x2 x3 x4 c0 c1 c2 c3 c4
        obtain ⟨c0, c1, c2, c3, c4⟩ := (HC.out wr HB.out).2.2.1 k hlt
        go_upto_region 5 with fail
        rw [← HWA.out]
        go_cut [5] (fun s wx => ∃ g cp, s = .slice (some ⟨g, 0, none⟩) 7 cp ∧ 7 ≤ cp ∧ wx.cell? ⟨g, 2, none⟩ = some (.string p2) ∧ Below wa.heap.size wa wx)
        case first =>
          clear c0 c1 c2 c3 c4 x1
          go_region_held3 (fun X => Below wa.heap.size wa X ∧ X.cell? ⟨wr.heap.size, 4, none⟩ = some (.string L[k].data))
            (first | assumption | exact HALL.out _ (Below.refl _ _).drew | (go_split_ands; exact HALL.out _ (by assumption)))
            (first
              | (go_at_call 54; (with_reducible refine (rform_any _ _).mono ?_); rintro e wF ⟨rfl, rfl⟩; rw [HFF.out])
              | (go_at_call 53; (with_reducible refine (HPARTS.out _).mono ?_); rintro e wA ⟨hpp, hbA⟩; rw [HSP.out] at hpp; obtain ⟨vp, rfl, hop⟩ := hpp; go_split_ands; have hbA2 := Below.trans (B := wa.heap.size) (a := wa) (by assumption) (hbA.mono (Below.size (by assumption)))))
          all_goals
            obtain ⟨gg, cp, rfl, _, _⟩ := hop.form (by omega)
            have hc2 := ownsRow_cells hop 2 (by rw [List.length_map]; omega)
            rw [List.getElem_map, ← HP2E.out] at hc2
            obtain ⟨_, _, hv', hcp⟩ := ownsRow_len hop
            simp only [Value.slice.injEq, true_and] at hv'
            go_wp2_with fail
            go_meet
            exact ⟨gg, cp, by rw [hpl2], by omega, hc2, hbA2⟩
        case rest =>
        obtain ⟨g5, cp, rfl, hcp, hcell, hBc⟩ := hcut
        have HBC := Lib.hid (HBA.out.trans (hBc.mono HBA.out.size))
        clear hBc c0 c1 c2 c3 c4 x1
        go_wp2_with fail
        refine (rvalue_any p2 (by omega) _).mono ?_
        rintro e w8 ⟨rfl, rfl⟩
        go_wp2_with fail
        go_ret
        exact ⟨by rw [HVAL.out, hsz]; rfl, HBC.out⟩
      · have b6 : (L[k].typ == 6) = false := by rw [beq_eq_false_iff_ne]; exact h6
        have hno2 : ∀ j (hj : j < L.length), j < k + 1 → L[j].typ ≠ 6 := fun j hj h => by
          rcases Nat.lt_or_ge j k with h' | h'
          · exact hno j hj h'
          · obtain rfl : j = k := by omega
            exact h6
        have H6 := Lib.hid h6; have HNO := Lib.hid hno; have HNO2 := Lib.hid hno2; have HX := Lib.hid hx; have HWA := Lib.hid hwa
        clear h6 hno hno2 hx hwa
        go_wp2_with fail
        go_roundw
        case rel => exact ⟨k + 1, by omega, by go_num, HNO2.out, by rw [← HWA.out]; exact HBA.out⟩
        case measure => simp [intOf]; omega
    · exfalso
      have hm : r0 ∈ zn.rowsS L (foldS apex, 6) := by rw [HROW.out]; exact List.mem_cons_self ..
      obtain ⟨h1, h2⟩ := zn.mem_rowsS.1 hm
      obtain ⟨j, hj, rfl⟩ := List.getElem_of_mem h1
      exact hno j hj (by omega) (congrArg Prod.snd h2)
end Go.Proofs.YtpjoaghnciomeaaGreat

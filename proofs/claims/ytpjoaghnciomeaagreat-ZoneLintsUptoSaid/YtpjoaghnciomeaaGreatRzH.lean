/-
  The reference's zone: Lint.
-/
import Derived.Test.YtpjoaghnciomeaaGreatRzG
import Derived.Test.YtpjoaghnciomeaaGreatLintA
namespace Go.Proofs.YtpjoaghnciomeaaGreat
open Go.RowKit Go.Shelf Go.Proofs.YtpjoaghnciomeaaGreat.nm Go.Proofs.YtpjoaghnciomeaaGreat.od
open dt (Fld)

namespace dt
theorem nameParts_mem : ∀ (fs : List Fld) (ps : List ByteArray) (s : ByteArray), s ∈ nameParts fs ps → s ∈ ps
  | [], ps, s, h => by cases ps <;> simp [nameParts] at h
  | f :: fs, [], s, h => by cases f <;> simp [nameParts] at h
  | f :: fs, p :: ps, s, h => by
    by_cases hf : f = .host
    · rw [nameParts_host hf] at h
      rcases List.mem_cons.1 h with rfl | h
      · exact List.mem_cons_self ..
      · exact List.mem_cons_of_mem _ (nameParts_mem fs ps s h)
    · rw [nameParts_other hf] at h
      exact List.mem_cons_of_mem _ (nameParts_mem fs ps s h)
end dt
namespace zn
def targetB (apex : ByteArray) (L : List Rec) (n : ByteArray) : Bool := !withinB n apex || hasB L n 1 || hasB L n 28 || decide ((findR apex L n 1).kind = 1) || decide ((findR apex L n 28).kind = 1)
theorem target_b {apex : ByteArray} {L : List Rec} (hn : Named L) (ty : Int) (n : ByteArray) : targetR apex L ty n = if targetB apex L n = true then 0 else if (findR apex L n 1).kind = 2 then 2 else if (findR apex L n 1).kind = 4 ∧ ty ≠ 2 ∨ n = ⟨#[0]⟩ ∧ ty ≠ 2 then 0 else 3 := by
  unfold targetR targetB
  cases hw : withinB n apex
  · simp
  · have hc := (within_check hw).1
    have e1 : rowsS L (foldS n, 1) ≠ [] ↔ hasB L n 1 = true := (has_rows hn hc 1).symm
    have e28 : rowsS L (foldS n, 28) ≠ [] ↔ hasB L n 28 = true := (has_rows hn hc 28).symm
    simp only [e1, e28]
    cases hasB L n 1 <;> cases hasB L n 28 <;> by_cases k1 : (findR apex L n 1).kind = 1 <;> by_cases k2 : (findR apex L n 28).kind = 1 <;> simp [k1, k2]
end zn


set_option maxRecDepth 100000 in
set_option maxHeartbeats 8000000 in
theorem rlint_any (z : Nat) (apex : ByteArray) (L : List Rec) (hva : zn.Valid apex L) (w : World) (hz : RZone w z apex L) :
    Calls Tryz.prog 38 #[.pointer (some ⟨z, 0, none⟩)] w fun e w' => NewFds (zn.lintR apex L) w e w' := by
  have hL := hva.small
  have hnm := hva.named
  have hapz : apex.size ≤ 1099511627776 := by have := checkB_size hva.ap; omega
  have hrz := fun W (hB : Below w.heap.size w W) => hz.below hB
  have hst := rset_any z apex L hL hnm apex hapz 2 w hz
  obtain ⟨g, cap, hzc, hrec⟩ := hz
  have hsz : ∀ y ∈ L, y.owner.size ≤ 1099511627776 := fun y hy => by have := checkB_size (hnm y hy); omega
  have HC := Lib.hid (fun W (hB : Below w.heap.size w W) => rz_cells hzc hrec hB)
  have hhas := fun W (hB : Below w.heap.size w W) n (hn : n.size ≤ 1099511627776) t => rhas_any L (by omega) hsz n hn t (.slice (some ⟨g, 0, none⟩) L.length cap) W (hrec.below hB)
  obtain ⟨z0, z1, _, hcap⟩ := HC.out w (Below.refl _ _)
  obtain ⟨i0_f, hi_f, hz_f, hz1_f, hz2_f⟩ := info_parts info_fd
  have HI_f := Lib.hid hi_f; have HZ_f := Lib.hid hz_f; have HZ1_f := Lib.hid hz1_f; have HZ2_f := Lib.hid hz2_f
  clear hi_f hz_f hz1_f hz2_f
  have HVA := Lib.hid hva; have HNM := Lib.hid hnm; have HRZ := Lib.hid hrz; have HST := Lib.hid hst; have HZC := Lib.hid hzc; have HREC := Lib.hid hrec; have HSZ := Lib.hid hsz; have HHAS := Lib.hid hhas
  clear hva hnm hrz hst hzc hrec hsz hhas
  go_enter Tryz.func38, Tryz.ntmps38
  go_wp2_with fail
  refine (HST.out).mono ?_
  rintro e w1 ⟨v1, rfl, hB1, hown1⟩
  obtain ⟨a1, cap1, rfl, _⟩ := ownsRow_len hown1
  obtain ⟨m, hm⟩ : ∃ m, m = (zn.rowsS L (foldS apex, 2)).length := ⟨_, rfl⟩
  rw [← hm]
  have hm63 : m ≤ 2000 := by rw [hm]; exact Nat.le_trans (rowsS_len L _) hL
  have hs1 := hB1.size
  clear z0 z1
  obtain ⟨z0, z1, _, _⟩ := HC.out w1 hB1
  clear hown1
  have HB1 := Lib.hid hB1; have HM := Lib.hid hm
  clear hB1 hm
  go_upto_if 18 with fail
  go_cut [3] (fun s wx => wx.ownsRow w.heap.size 64 4 s (zn.lone apex L).length (fdsC (zn.lone apex L)) ∧ Below w.heap.size w wx)
  case first =>
    by_cases h1 : m = 1
    · have b1 : ((m : Int) == 1) = true := by rw [beq_iff_eq]; omega
      have hlo : zn.lone apex L = [Fd.mk 1 apex 2 ⟨#[]⟩] := by unfold zn.lone; rw [if_pos (by rw [← HM.out]; exact h1)]; rfl
      have hnil : w1.ownsRow w.heap.size 64 4 (.slice none 0 0) 0 [] := World.ownsRow_nil _ _ _ _
      have HLO := Lib.hid hlo; have HNIL := Lib.hid hnil
      clear hlo hnil
      clear h1
      have HB_a := Lib.hid (HB1.out.alloc HB1.out.size (.cells (fdC (Fd.mk 1 apex 2 ⟨#[]⟩)).toArray 64))
      have HO_a := Lib.hid (ownsRow_keepOne HNIL.out fun b hb => Below.heap_alloc w1 (.cells (fdC (Fd.mk 1 apex 2 ⟨#[]⟩)).toArray 64) b (HNIL.out.lt b hb).2)
      have P1_a := Lib.hid (show 0 + 1 ≤ maxLen from by unfold maxLen; omega)
      have P2_a := Lib.hid (show (0 + 1) * 48 ≤ 140737488355328 from by omega)
      have P3_a := Lib.hid (show w.heap.size ≤ (w1.alloc (.cells (fdC (Fd.mk 1 apex 2 ⟨#[]⟩)).toArray 64)).heap.size from by have := HB1.out.size; simp; omega)
      have HNEWS_ := Lib.hid (news_at w1 (fdC (Fd.mk 1 apex 2 ⟨#[]⟩)) 64)
      go_wp2_with (at_builtin; refine wpList_append_new _ rfl _ _ 61 rfl w.heap.size 64 i0_f (.agg #[.int .i64 0, .string ⟨#[]⟩, .int .i64 0, .string ⟨#[]⟩]) 4 48 Tryz.underlying61 HI_f.out HZ_f.out HZ1_f.out HZ2_f.out rfl (by decide) _ _ _ rfl HO_a.out ⟨w1.heap.size, 0, none⟩ 1 1 (fdC (Fd.mk 1 apex 2 ⟨#[]⟩)) rfl rfl HNEWS_.out (by simp [Value.oneCell']) P1_a.out P2_a.out P3_a.out ?_)
      intro v' w10 hown10 hg10 hnn10
      have HB10 := Lib.hid (HB_a.out.grown hg10 P3_a.out (fun j hj => (HO_a.out.lt j hj).1))
      have HOWN10 := Lib.hid hown10; have HG10 := Lib.hid hg10; have HNN10 := Lib.hid hnn10
      clear hown10 hg10 hnn10 HB_a HO_a P1_a P2_a P3_a HNEWS_
      go_wp2_with fail
      go_meet
      rw [HLO.out]
      exact ⟨HOWN10.out, HB10.out⟩
    · have b1 : ((m : Int) == 1) = false := by rw [beq_eq_false_iff_ne]; omega
      have hlo : zn.lone apex L = [] := by unfold zn.lone; rw [if_neg (by rw [← HM.out]; exact h1)]
      have HLO := Lib.hid hlo
      clear hlo
      clear h1
      go_wp2_with fail
      go_meet
      rw [HLO.out]
      exact ⟨World.ownsRow_nil _ _ _ _, HB1.out⟩
  case rest =>
  obtain ⟨hown, hB⟩ := hcut
  obtain ⟨a3, cap3, rfl, _⟩ := ownsRow_len hown
  clear z0 z1
  obtain ⟨z0, z1, _, _⟩ := HC.out wc hB
  have HOWN := Lib.hid hown; have HB := Lib.hid hB
  clear hown hB
  go_wp2_with fail
  clear z0 z1
  obtain ⟨wo, hwo⟩ : ∃ wo : World, wo = wc := ⟨_, rfl⟩
  go_loopw [32, 3, 5, 6, 7, 8, 9, 10] (fun kv ov _ _ _ _ _ _ wr => ∃ k : Nat, k ≤ L.length ∧ kv = .int .i64 (k : Int) ∧ wr.ownsRow w.heap.size 64 4 ov (zn.lintTo apex L k).length (fdsC (zn.lintTo apex L k)) ∧ Below w.heap.size w wr) (fun kv _ _ _ _ _ _ _ _ => L.length - (intOf kv).toNat)
  case atStart => exact ⟨0, Nat.zero_le _, rfl, by unfold zn.lintTo; simpa using HOWN.out, HB.out⟩
  case round =>
    obtain ⟨k, hk, rfl, hown, hB⟩ := hrel
    obtain ⟨ao, co, rfl, _⟩ := ownsRow_len hown
    have hsr := hB.size
    have hlen := zn.lintTo_len apex L k hk
    by_cases hlt : k < L.length
    · have hnx := zn.lintTo_next (apex := apex) hlt
      obtain ⟨c0, c1, c2, c3, c4⟩ := (HC.out wr hB).2.2.1 k hlt
      have hki : (k : Int) < (L.length : Int) := by omega
      obtain ⟨r, hr⟩ : ∃ r, r = L[k] := ⟨_, rfl⟩
      have hrm : r ∈ L := by rw [hr]; exact List.getElem_mem hlt
      rw [← hr] at c0 c1 c2 c3 c4 hnx
      obtain ⟨A, hA⟩ : ∃ A, A = zn.lintTo apex L k := ⟨_, rfl⟩
      rw [← hA] at hown hlen hnx ⊢
      obtain ⟨hBA0, _, hxa⟩ := rec_new wr _ r rfl
      obtain ⟨wa, hwa⟩ : ∃ W, W = wr.alloc (.cells (recC r).toArray 53) := ⟨_, rfl⟩
      rw [← hwa] at hBA0 hxa
      have lta : wr.heap.size < wa.heap.size := by rw [hwa]; simp
      have HROWa := Lib.hid (ownsRow_below hown hBA0)
      have HBa := Lib.hid (hB.trans (hBA0.mono hsr))
      have HXa := Lib.hid hxa
      obtain ⟨x0, x1, x2, x3, x4⟩ := id hxa
      clear hBA0 hxa
      have HOWN := Lib.hid hown; have HB := Lib.hid hB; have HR := Lib.hid hr; have HA := Lib.hid hA; have HNX := Lib.hid hnx; have HWA := Lib.hid hwa
      clear hown hB hr hA hnx hwa
      go_wp2_with fail
      rw [← HWA.out]
      refine (rhidden_any z apex L HVA.out r (HVA.out.each r hrm).2.2 wa (HRZ.out wa HBa.out)).mono ?_
      rintro e w4 ⟨rfl, hB4⟩
      have HX4 := Lib.hid (HXa.out.keep (hB4.block _ lta))
      have HROW4 := Lib.hid (ownsRow_below HROWa.out hB4)
      have lt4 : wr.heap.size < w4.heap.size := by have h : wa.heap.size ≤ w4.heap.size := hB4.size; omega
      have HB4 := Lib.hid (HBa.out.trans (hB4.mono HBa.out.size))
      clear hB4
      clear x0 x1 x2 x3 x4 c0 c1 c2 c3 c4
      obtain ⟨y0, y1, y2, y3, y4⟩ := id HX4.out
      cases hh : zn.hiddenR apex L r
      · have hck : dt.chkI r.typ r.data = 0 := by
          have h := (HVA.out.each r hrm).2.1
          unfold zn.bad1 at h
          simp only [Bool.not_eq_false', Bool.and_eq_true, decide_eq_true_eq] at h
          exact h.2
        obtain ⟨bb, hbb⟩ : ∃ b, b = (!decide (r.typ = 2) && !decide (r.typ = 15) && !decide (r.typ = 33)) := ⟨_, rfl⟩
        have HH := Lib.hid hh; have HCK := Lib.hid hck; have HBB := Lib.hid hbb
        clear hh hck hbb
        go_upto_region 9 with fail
        go_cut [59] (fun s wx' => s = .bool bb ∧ wx' = w4)
        case first =>
          by_cases t2 : r.typ = 2
          · have d2 : (r.typ != 2) = false := by rw [bne_eq_false_iff_eq]; exact t2
            have T2 := Lib.hid t2
            clear t2
            go_wp2_with fail
            go_meet
            exact ⟨by rw [HBB.out, decide_eq_true T2.out]; rfl, rfl⟩
          · have d2 : (r.typ != 2) = true := by rw [bne_iff_ne]; exact t2
            have T2 := Lib.hid t2
            clear t2
            by_cases t15 : r.typ = 15
            · have d15 : (r.typ != 15) = false := by rw [bne_eq_false_iff_eq]; exact t15
              have T15 := Lib.hid t15
              clear t15
              go_wp2_with fail
              go_meet
              exact ⟨by rw [HBB.out, decide_eq_false T2.out, decide_eq_true T15.out]; rfl, rfl⟩
            · have d15 : (r.typ != 15) = true := by rw [bne_iff_ne]; exact t15
              have T15 := Lib.hid t15
              clear t15
              by_cases t33 : r.typ = 33
              · have d33 : (r.typ != 33) = false := by rw [bne_eq_false_iff_eq]; exact t33
                have T33 := Lib.hid t33
                clear t33
                go_wp2_with fail
                go_meet
                exact ⟨by rw [HBB.out, decide_eq_false T2.out, decide_eq_false T15.out, decide_eq_true T33.out]; rfl, rfl⟩
              · have d33 : (r.typ != 33) = true := by rw [bne_iff_ne]; exact t33
                have T33 := Lib.hid t33
                clear t33
                go_wp2_with fail
                go_meet
                exact ⟨by rw [HBB.out, decide_eq_false T2.out, decide_eq_false T15.out, decide_eq_false T33.out]; rfl, rfl⟩
        case rest =>
        obtain ⟨rfl, hwe⟩ := hcut
        rw [hwe]
        clear hwe
        cases bb
        · have ht : r.typ = 2 ∨ r.typ = 15 ∨ r.typ = 33 := by
            have h := HBB.out
            by_cases t2 : r.typ = 2
            · exact .inl t2
            · by_cases t15 : r.typ = 15
              · exact .inr (.inl t15)
              · by_cases t33 : r.typ = 33
                · exact .inr (.inr t33)
                · rw [decide_eq_false t2, decide_eq_false t15, decide_eq_false t33] at h; cases h
          obtain ⟨fs, ps, r0, s, q1, q2, q3, q4, q5⟩ := zn.named_data ht HCK.out
          obtain ⟨_, ps', r0', hsp', hr0'⟩ := chk_fit q1 HCK.out
          rw [q2] at hsp'
          simp only [Option.some.injEq, Prod.mk.injEq] at hsp'
          obtain ⟨rfl, rfl⟩ := hsp'
          have hss : s.size ≤ 1099511627776 := by
            have h1 : s ∈ ps := dt.nameParts_mem fs ps s (by rw [q3]; exact List.mem_cons_self ..)
            rcases (dt.splitF_len _ _ _ _ _ q2).2.2 s h1 with h | h
            · cases h
            · omega
          have hdn := rnames_form r.typ r.data fs ps r0 HCK.out q1 q2 hr0' q5 w4
          rw [q3] at hdn
          have hl1 : zn.lint1 apex L r = if zn.targetR apex L r.typ s ≠ 0 then [⟨zn.targetR apex L r.typ s, r.owner, r.typ, s⟩] else [] := by
            unfold zn.lint1
            rw [if_neg (by rw [HH.out]; simp), if_neg (by omega), q4]
          rw [zn.target_b HNM.out] at hl1
          clear ht q1 q2 q3 q4 q5 hr0'
          have HDN := Lib.hid hdn; have HL1 := Lib.hid hl1
          clear hdn hl1
          go_wp2_with fail
          refine (HDN.out).mono ?_
          rintro e w5 ⟨v5, rfl, hB5, hown5⟩
          obtain ⟨g5, cap5, rfl, hg5, hg5'⟩ := hown5.form (by simp)
          have cs : w5.cell? ⟨g5, 0, none⟩ = some (.string s) := by
            have h := hown5.cells (g := g5) rfl 0 (.string s) (by simp)
            simpa [Addr.add] using h
          have hlen1 : ([s] : List ByteArray).length = 1 := rfl
          rw [hlen1]
          clear hown5 y0 y1 y2 y3 y4
          have HX5 := Lib.hid (HX4.out.keep (hB5.block _ lt4))
          have HROW5 := Lib.hid (ownsRow_below HROW4.out hB5)
          have lt5 : wr.heap.size < w5.heap.size := by have h : w4.heap.size ≤ w5.heap.size := hB5.size; omega
          have HB5 := Lib.hid (HB4.out.trans (hB5.mono HB4.out.size))
          clear hB5
          go_wp2_with fail
          clear cs
          refine (rfind_any z apex hapz L HVA.out s hss 1 w5 (HRZ.out w5 HB5.out)).mono ?_
          rintro e w6 ⟨v6, rfl, hB6, _⟩
          obtain ⟨f1, hf1⟩ : ∃ f, f = zn.findR apex L s 1 := ⟨_, rfl⟩
          rw [← hf1]
          have hk6 := field_kind f1.kind f1.owner f1.encl f1.wild v6 w6
          have HX6 := Lib.hid (HX5.out.keep (hB6.block _ lt5))
          have HROW6 := Lib.hid (ownsRow_below HROW5.out hB6)
          have lt6 : wr.heap.size < w6.heap.size := by have h : w5.heap.size ≤ w6.heap.size := hB6.size; omega
          have HB6 := Lib.hid (HB5.out.trans (hB6.mono HB5.out.size))
          clear hB6
          have HF1 := Lib.hid hf1
          clear hf1
          go_wp2_with fail
          refine (rfind_any z apex hapz L HVA.out s hss 28 w6 (HRZ.out w6 HB6.out)).mono ?_
          rintro e w7 ⟨v7, rfl, hB7, _⟩
          obtain ⟨f2, hf2⟩ : ∃ f, f = zn.findR apex L s 28 := ⟨_, rfl⟩
          rw [← hf2]
          clear hk6
          have hk7 := field_kind f2.kind f2.owner f2.encl f2.wild v7 w7
          have HX7 := Lib.hid (HX6.out.keep (hB7.block _ lt6))
          have HROW7 := Lib.hid (ownsRow_below HROW6.out hB7)
          have lt7 : wr.heap.size < w7.heap.size := by have h : w6.heap.size ≤ w7.heap.size := hB7.size; omega
          have HB7 := Lib.hid (HB6.out.trans (hB7.mono HB6.out.size))
          clear hB7
          obtain ⟨b3, hb3⟩ : ∃ b, b = zn.targetB apex L s := ⟨_, rfl⟩
          have hb4 : b3 = (!withinB s apex || zn.hasB L s 1 || zn.hasB L s 28 || decide (f1.kind = 1) || decide (f2.kind = 1)) := by rw [hb3, HF1.out, hf2]; rfl
          have hl2 := HL1.out
          rw [← hb3, ← HF1.out] at hl2
          clear HL1
          have HF2 := Lib.hid hf2; have HB3 := Lib.hid hb3; have HB4 := Lib.hid hb4; have HL2 := Lib.hid hl2
          clear hf2 hb3 hb4 hl2
          obtain ⟨z0, z1, _, _⟩ := HC.out w7 HB7.out
          go_upto_region 13 with fail
          go_cut [109] (fun s wx => s = .bool b3 ∧ Below w7.heap.size w7 wx)
          case first =>
            go_wp2_with fail
            refine (rwithin_any s apex hss hapz w7).mono ?_
            rintro e w8 ⟨rfl, hB8⟩
            have hB8' := HB7.out.trans (hB8.mono HB7.out.size)
            clear z0 z1
            obtain ⟨z0, z1, _, _⟩ := HC.out w8 hB8'
            have HC8 := Lib.hid hB8'; have HD8 := Lib.hid hB8
            clear hB8 hB8'
            cases hw : withinB s apex
            · have HW := Lib.hid hw
              clear hw
              go_wp2_with fail
              go_meet
              exact ⟨by rw [HB4.out, HW.out]; rfl, HD8.out⟩
            · have HW := Lib.hid hw
              clear hw
              go_wp2_with fail
              refine (HHAS.out w8 HC8.out s hss 1).mono ?_
              rintro e w9 ⟨rfl, hB9⟩
              have hs9 := HD8.out.size
              have hB9' := HC8.out.trans (hB9.mono HC8.out.size)
              clear z0 z1
              obtain ⟨z0, z1, _, _⟩ := HC.out w9 hB9'
              have HC9 := Lib.hid hB9'; have HD9 := Lib.hid (HD8.out.trans (hB9.mono hs9))
              clear hB9 hB9'
              cases h1 : zn.hasB L s 1
              · have H1 := Lib.hid h1
                clear h1
                go_wp2_with fail
                refine (HHAS.out w9 HC9.out s hss 28).mono ?_
                rintro e w11 ⟨rfl, hB11⟩
                have HD11 := Lib.hid (HD9.out.trans (hB11.mono HD9.out.size))
                clear hB11 z0 z1
                cases h2 : zn.hasB L s 28
                · have H2 := Lib.hid h2
                  clear h2
                  by_cases k1 : f1.kind = 1
                  · have d1 : (f1.kind == 1) = true := by rw [beq_iff_eq]; exact k1
                    have K1 := Lib.hid k1
                    clear k1
                    go_wp2_with fail
                    go_meet
                    exact ⟨by rw [HB4.out, HW.out, H1.out, H2.out, decide_eq_true K1.out]; rfl, HD11.out⟩
                  · have d1 : (f1.kind == 1) = false := by rw [beq_eq_false_iff_ne]; exact k1
                    have K1 := Lib.hid k1
                    clear k1
                    by_cases k2 : f2.kind = 1
                    · have d2 : (f2.kind == 1) = true := by rw [beq_iff_eq]; exact k2
                      have K2 := Lib.hid k2
                      clear k2
                      go_wp2_with fail
                      go_meet
                      exact ⟨by rw [HB4.out, HW.out, H1.out, H2.out, decide_eq_false K1.out, decide_eq_true K2.out]; rfl, HD11.out⟩
                    · have d2 : (f2.kind == 1) = false := by rw [beq_eq_false_iff_ne]; exact k2
                      have K2 := Lib.hid k2
                      clear k2
                      go_wp2_with fail
                      go_meet
                      exact ⟨by rw [HB4.out, HW.out, H1.out, H2.out, decide_eq_false K1.out, decide_eq_false K2.out]; rfl, HD11.out⟩
                · have H2 := Lib.hid h2
                  clear h2
                  go_wp2_with fail
                  go_meet
                  exact ⟨by rw [HB4.out, HW.out, H1.out, H2.out]; rfl, HD11.out⟩
              · have H1 := Lib.hid h1
                clear h1
                go_wp2_with fail
                go_meet
                exact ⟨by rw [HB4.out, HW.out, H1.out]; rfl, HD9.out⟩
          case rest =>
          obtain ⟨rfl, hB8⟩ := hcut
          obtain ⟨w8, hw8⟩ : ∃ W : World, W = wc := ⟨_, rfl⟩
          subst hw8
          have HX8 := Lib.hid (HX7.out.keep (hB8.block _ lt7))
          have HROW8 := Lib.hid (ownsRow_below HROW7.out hB8)
          have lt8 : wr.heap.size < w8.heap.size := by have h : w7.heap.size ≤ w8.heap.size := hB8.size; omega
          have HB8 := Lib.hid (HB7.out.trans (hB8.mono HB7.out.size))
          clear hB8
          clear z0 z1
          obtain ⟨y0, y1, y2, y3, y4⟩ := id HX8.out
          have hs8 := HB8.out.size
          cases b3
          · have hl3 : zn.lint1 apex L r = if (if f1.kind = 2 then (2 : Int) else if f1.kind = 4 ∧ r.typ ≠ 2 ∨ s = ⟨#[0]⟩ ∧ r.typ ≠ 2 then 0 else 3) ≠ 0 then [⟨if f1.kind = 2 then (2 : Int) else if f1.kind = 4 ∧ r.typ ≠ 2 ∨ s = ⟨#[0]⟩ ∧ r.typ ≠ 2 then 0 else 3, r.owner, r.typ, s⟩] else [] := by
              rw [HL2.out]; simp only [Bool.false_eq_true, if_false]
            have HL3 := Lib.hid hl3
            clear hl3
            by_cases k2 : f1.kind = 2
            · have d2 : (f1.kind == 2) = true := by rw [beq_iff_eq]; exact k2
              have hl1 : zn.lint1 apex L r = [⟨2, r.owner, r.typ, s⟩] := by rw [HL3.out, if_pos k2]; rfl
              have HL1 := Lib.hid hl1
              clear hl1
              clear k2
              have HB_a := Lib.hid (HB8.out.alloc HB8.out.size (.cells (fdC (Fd.mk 2 r.owner r.typ s)).toArray 64))
              have HO_a := Lib.hid (ownsRow_keepOne HROW8.out fun b hb => Below.heap_alloc w8 (.cells (fdC (Fd.mk 2 r.owner r.typ s)).toArray 64) b (HROW8.out.lt b hb).2)
              have P1_a := Lib.hid (show A.length + 1 ≤ maxLen from by unfold maxLen; omega)
              have P2_a := Lib.hid (show (A.length + 1) * 48 ≤ 140737488355328 from by omega)
              have P3_a := Lib.hid (show w.heap.size ≤ (w8.alloc (.cells (fdC (Fd.mk 2 r.owner r.typ s)).toArray 64)).heap.size from by have := HB8.out.size; simp; omega)
              have HNEWS_ := Lib.hid (news_at w8 (fdC (Fd.mk 2 r.owner r.typ s)) 64)
              go_wp2_with (at_builtin; refine wpList_append_new _ rfl _ _ 61 rfl w.heap.size 64 i0_f (.agg #[.int .i64 0, .string ⟨#[]⟩, .int .i64 0, .string ⟨#[]⟩]) 4 48 Tryz.underlying61 HI_f.out HZ_f.out HZ1_f.out HZ2_f.out rfl (by decide) _ _ _ rfl HO_a.out ⟨w8.heap.size, 0, none⟩ 1 1 (fdC (Fd.mk 2 r.owner r.typ s)) rfl rfl HNEWS_.out (by simp [Value.oneCell']) P1_a.out P2_a.out P3_a.out ?_)
              intro v' w10 hown10 hg10 hnn10
              have HB10 := Lib.hid (HB_a.out.grown hg10 P3_a.out (fun j hj => (HO_a.out.lt j hj).1))
              have HOWN10 := Lib.hid hown10; have HG10 := Lib.hid hg10; have HNN10 := Lib.hid hnn10
              clear hown10 hg10 hnn10 HB_a HO_a P1_a P2_a P3_a HNEWS_
              go_wp2_with fail
              go_roundw
              case rel =>
                refine ⟨k + 1, by omega, by go_num, ?_, HB10.out⟩
                have h := HOWN10.out
                rw [HNX.out, HL1.out, List.length_append, fdsC_app]
                exact h
              case measure => simp [intOf]; omega
            · have d2 : (f1.kind == 2) = false := by rw [beq_eq_false_iff_ne]; exact k2
              have hl4 : zn.lint1 apex L r = if (if f1.kind = 4 ∧ r.typ ≠ 2 ∨ s = ⟨#[0]⟩ ∧ r.typ ≠ 2 then (0 : Int) else 3) ≠ 0 then [⟨if f1.kind = 4 ∧ r.typ ≠ 2 ∨ s = ⟨#[0]⟩ ∧ r.typ ≠ 2 then (0 : Int) else 3, r.owner, r.typ, s⟩] else [] := by rw [HL3.out, if_neg k2]
              have HL4 := Lib.hid hl4
              clear hl4
              clear k2
              by_cases t2 : r.typ = 2
              · have e2 : (r.typ != 2) = false := by rw [bne_eq_false_iff_eq]; exact t2
                have hl1 : zn.lint1 apex L r = [⟨3, r.owner, r.typ, s⟩] := by rw [HL4.out, if_neg (c := f1.kind = 4 ∧ r.typ ≠ 2 ∨ s = ⟨#[0]⟩ ∧ r.typ ≠ 2) (fun h => h.elim (fun h => h.2 t2) (fun h => h.2 t2))]; rfl
                have HL1 := Lib.hid hl1
                clear hl1
                clear t2
                have HB_a := Lib.hid (HB8.out.alloc HB8.out.size (.cells (fdC (Fd.mk 3 r.owner r.typ s)).toArray 64))
                have HO_a := Lib.hid (ownsRow_keepOne HROW8.out fun b hb => Below.heap_alloc w8 (.cells (fdC (Fd.mk 3 r.owner r.typ s)).toArray 64) b (HROW8.out.lt b hb).2)
                have P1_a := Lib.hid (show A.length + 1 ≤ maxLen from by unfold maxLen; omega)
                have P2_a := Lib.hid (show (A.length + 1) * 48 ≤ 140737488355328 from by omega)
                have P3_a := Lib.hid (show w.heap.size ≤ (w8.alloc (.cells (fdC (Fd.mk 3 r.owner r.typ s)).toArray 64)).heap.size from by have := HB8.out.size; simp; omega)
                have HNEWS_ := Lib.hid (news_at w8 (fdC (Fd.mk 3 r.owner r.typ s)) 64)
                go_wp2_with (at_builtin; refine wpList_append_new _ rfl _ _ 61 rfl w.heap.size 64 i0_f (.agg #[.int .i64 0, .string ⟨#[]⟩, .int .i64 0, .string ⟨#[]⟩]) 4 48 Tryz.underlying61 HI_f.out HZ_f.out HZ1_f.out HZ2_f.out rfl (by decide) _ _ _ rfl HO_a.out ⟨w8.heap.size, 0, none⟩ 1 1 (fdC (Fd.mk 3 r.owner r.typ s)) rfl rfl HNEWS_.out (by simp [Value.oneCell']) P1_a.out P2_a.out P3_a.out ?_)
                intro v' w10 hown10 hg10 hnn10
                have HB10 := Lib.hid (HB_a.out.grown hg10 P3_a.out (fun j hj => (HO_a.out.lt j hj).1))
                have HOWN10 := Lib.hid hown10; have HG10 := Lib.hid hg10; have HNN10 := Lib.hid hnn10
                clear hown10 hg10 hnn10 HB_a HO_a P1_a P2_a P3_a HNEWS_
                go_wp2_with fail
                go_roundw
                case rel =>
                  refine ⟨k + 1, by omega, by go_num, ?_, HB10.out⟩
                  have h := HOWN10.out
                  rw [HNX.out, HL1.out, List.length_append, fdsC_app]
                  exact h
                case measure => simp [intOf]; omega
              · have e2 : (r.typ != 2) = true := by rw [bne_iff_ne]; exact t2
                have hzero : (⟨#[0]⟩ : ByteArray).toList = [0] := by rw [ByteArray.toList_eq]
                by_cases k4 : f1.kind = 4
                · have b4 : (f1.kind == 4) = true := by rw [beq_iff_eq]; exact k4
                  have hl1 : zn.lint1 apex L r = [] := by rw [HL4.out, if_pos (c := f1.kind = 4 ∧ r.typ ≠ 2 ∨ s = ⟨#[0]⟩ ∧ r.typ ≠ 2) (.inl ⟨k4, t2⟩)]; rfl
                  have HL1 := Lib.hid hl1
                  clear hl1
                  clear k4 t2 hzero
                  go_wp2_with fail
                  go_roundw
                  case rel =>
                    refine ⟨k + 1, by omega, by go_num, ?_, HB8.out⟩
                    rw [HNX.out, HL1.out, List.append_nil]
                    exact HROW8.out
                  case measure => simp [intOf]; omega
                · have b4 : (f1.kind == 4) = false := by rw [beq_eq_false_iff_ne]; exact k4
                  by_cases hn : s = ⟨#[0]⟩
                  · have bn : (s.toList == [0]) = true := by rw [← hzero]; exact str_eq.2 hn
                    have hl1 : zn.lint1 apex L r = [] := by rw [HL4.out, if_pos (c := f1.kind = 4 ∧ r.typ ≠ 2 ∨ s = ⟨#[0]⟩ ∧ r.typ ≠ 2) (.inr ⟨hn, t2⟩)]; rfl
                    have HL1 := Lib.hid hl1
                    clear hl1
                    clear k4 t2 hzero hn
                    go_wp2_with fail
                    go_roundw
                    case rel =>
                      refine ⟨k + 1, by omega, by go_num, ?_, HB8.out⟩
                      rw [HNX.out, HL1.out, List.append_nil]
                      exact HROW8.out
                    case measure => simp [intOf]; omega
                  · have bn : (s.toList == [0]) = false := by rw [← hzero]; exact str_ne hn
                    have hl1 : zn.lint1 apex L r = [⟨3, r.owner, r.typ, s⟩] := by rw [HL4.out, if_neg (c := f1.kind = 4 ∧ r.typ ≠ 2 ∨ s = ⟨#[0]⟩ ∧ r.typ ≠ 2) (fun h => h.elim (fun h => k4 h.1) (fun h => hn h.1))]; rfl
                    have HL1 := Lib.hid hl1
                    clear hl1
                    clear k4 t2 hzero hn
                    have HB_a := Lib.hid (HB8.out.alloc HB8.out.size (.cells (fdC (Fd.mk 3 r.owner r.typ s)).toArray 64))
                    have HO_a := Lib.hid (ownsRow_keepOne HROW8.out fun b hb => Below.heap_alloc w8 (.cells (fdC (Fd.mk 3 r.owner r.typ s)).toArray 64) b (HROW8.out.lt b hb).2)
                    have P1_a := Lib.hid (show A.length + 1 ≤ maxLen from by unfold maxLen; omega)
                    have P2_a := Lib.hid (show (A.length + 1) * 48 ≤ 140737488355328 from by omega)
                    have P3_a := Lib.hid (show w.heap.size ≤ (w8.alloc (.cells (fdC (Fd.mk 3 r.owner r.typ s)).toArray 64)).heap.size from by have := HB8.out.size; simp; omega)
                    have HNEWS_ := Lib.hid (news_at w8 (fdC (Fd.mk 3 r.owner r.typ s)) 64)
                    go_wp2_with (at_builtin; refine wpList_append_new _ rfl _ _ 61 rfl w.heap.size 64 i0_f (.agg #[.int .i64 0, .string ⟨#[]⟩, .int .i64 0, .string ⟨#[]⟩]) 4 48 Tryz.underlying61 HI_f.out HZ_f.out HZ1_f.out HZ2_f.out rfl (by decide) _ _ _ rfl HO_a.out ⟨w8.heap.size, 0, none⟩ 1 1 (fdC (Fd.mk 3 r.owner r.typ s)) rfl rfl HNEWS_.out (by simp [Value.oneCell']) P1_a.out P2_a.out P3_a.out ?_)
                    intro v' w10 hown10 hg10 hnn10
                    have HB10 := Lib.hid (HB_a.out.grown hg10 P3_a.out (fun j hj => (HO_a.out.lt j hj).1))
                    have HOWN10 := Lib.hid hown10; have HG10 := Lib.hid hg10; have HNN10 := Lib.hid hnn10
                    clear hown10 hg10 hnn10 HB_a HO_a P1_a P2_a P3_a HNEWS_
                    go_wp2_with fail
                    go_roundw
                    case rel =>
                      refine ⟨k + 1, by omega, by go_num, ?_, HB10.out⟩
                      have h := HOWN10.out
                      rw [HNX.out, HL1.out, List.length_append, fdsC_app]
                      exact h
                    case measure => simp [intOf]; omega
          · have hl1 : zn.lint1 apex L r = [] := by rw [HL2.out]; rfl
            have HL1 := Lib.hid hl1
            clear hl1
            go_wp2_with fail
            go_roundw
            case rel =>
              refine ⟨k + 1, by omega, by go_num, ?_, HB8.out⟩
              rw [HNX.out, HL1.out, List.append_nil]
              exact HROW8.out
            case measure => simp [intOf]; omega
        · have hl1 : zn.lint1 apex L r = [] := by
            unfold zn.lint1
            have h := HBB.out
            simp only [Bool.true_eq, Bool.and_eq_true, Bool.not_eq_true', decide_eq_false_iff_not] at h
            rw [if_neg (by rw [HH.out]; simp), if_pos ⟨h.1.1, h.1.2, h.2⟩]
          have HL1 := Lib.hid hl1
          clear hl1
          go_wp2_with fail
          go_roundw
          case rel =>
            refine ⟨k + 1, by omega, by go_num, ?_, HB4.out⟩
            rw [HNX.out, HL1.out, List.append_nil]
            exact HROW4.out
          case measure => simp [intOf]; omega
      · have hl1 : zn.lint1 apex L r = [⟨4, r.owner, r.typ, ⟨#[]⟩⟩] := by unfold zn.lint1; rw [if_pos hh]; rfl
        have hs4 := HB4.out.size
        have HL1 := Lib.hid hl1; have HH := Lib.hid hh
        clear hl1 hh
        have HB_a := Lib.hid (HB4.out.alloc HB4.out.size (.cells (fdC (Fd.mk 4 r.owner r.typ ⟨#[]⟩)).toArray 64))
        have HO_a := Lib.hid (ownsRow_keepOne HROW4.out fun b hb => Below.heap_alloc w4 (.cells (fdC (Fd.mk 4 r.owner r.typ ⟨#[]⟩)).toArray 64) b (HROW4.out.lt b hb).2)
        have P1_a := Lib.hid (show A.length + 1 ≤ maxLen from by unfold maxLen; omega)
        have P2_a := Lib.hid (show (A.length + 1) * 48 ≤ 140737488355328 from by omega)
        have P3_a := Lib.hid (show w.heap.size ≤ (w4.alloc (.cells (fdC (Fd.mk 4 r.owner r.typ ⟨#[]⟩)).toArray 64)).heap.size from by have := HB4.out.size; simp; omega)
        have HNEWS_ := Lib.hid (news_at w4 (fdC (Fd.mk 4 r.owner r.typ ⟨#[]⟩)) 64)
        go_wp2_with (at_builtin; refine wpList_append_new _ rfl _ _ 61 rfl w.heap.size 64 i0_f (.agg #[.int .i64 0, .string ⟨#[]⟩, .int .i64 0, .string ⟨#[]⟩]) 4 48 Tryz.underlying61 HI_f.out HZ_f.out HZ1_f.out HZ2_f.out rfl (by decide) _ _ _ rfl HO_a.out ⟨w4.heap.size, 0, none⟩ 1 1 (fdC (Fd.mk 4 r.owner r.typ ⟨#[]⟩)) rfl rfl HNEWS_.out (by simp [Value.oneCell']) P1_a.out P2_a.out P3_a.out ?_)
        intro v' w10 hown10 hg10 hnn10
        have HB10 := Lib.hid (HB_a.out.grown hg10 P3_a.out (fun j hj => (HO_a.out.lt j hj).1))
        have HOWN10 := Lib.hid hown10; have HG10 := Lib.hid hg10; have HNN10 := Lib.hid hnn10
        clear hown10 hg10 hnn10 HB_a HO_a P1_a P2_a P3_a HNEWS_
        go_wp2_with fail
        go_roundw
        case rel =>
          refine ⟨k + 1, by omega, by go_num, ?_, HB10.out⟩
          have h := HOWN10.out
          rw [HNX.out, HL1.out, List.length_append, fdsC_app]
          exact h
        case measure => simp [intOf]; omega
    · have hke : k = L.length := by omega
      subst hke
      have hall := zn.lintTo_all apex L
      have hpost : NewFds (zn.lintR apex L) w (.returned (.slice ao (zn.lintTo apex L L.length).length co)) wr := by
        rw [← hall]
        exact ⟨_, rfl, hB, hown⟩
      have HPOST := Lib.hid hpost
      clear hpost
      clear hown hB hall hlt
      go_wp2_with fail
      go_ret
      exact HPOST.out
end Go.Proofs.YtpjoaghnciomeaaGreat

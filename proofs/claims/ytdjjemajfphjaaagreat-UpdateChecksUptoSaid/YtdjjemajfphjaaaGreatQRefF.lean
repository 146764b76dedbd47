import Derived.Test.YtdjjemajfphjaaaGreatQRefC
import Derived.Test.YtdjjemajfphjaaaGreatQFindP
import Derived.Test.YtdjjemajfphjaaaGreatQZoneC
import Derived.Laws.OwnMore
import Derived.Lib.Bytealg
namespace Go.Proofs.YtdjjemajfphjaaaGreat
open Go.RowKit Go.Shelf Go.Proofs.YtdjjemajfphjaaaGreat.nm
namespace nm
end nm
end Go.Proofs.YtdjjemajfphjaaaGreat
namespace Go.Proofs.YtdjjemajfphjaaaGreat
open Go.RowKit Go.Shelf Go.Proofs.YtdjjemajfphjaaaGreat.nm
namespace nm
theorem labels_low {s : ByteArray} {ls : List (List UInt8)} (h : rows s = some ls) : labelsL (lowS s) = lbs (lowR ls) := by
  have h1 := rows_some (rows_low h)
  unfold labelsL
  rw [if_pos (check_of (rows_low h)), h1.2.2.2, od.marksAt_labels _ _ h1.2.1]
  rfl
theorem cmp_parts : ∀ x y : List UInt8, (Op.bytesLess x y = true → Lib.compareBytes x y = -1) ∧ ((x == y) = true → Lib.compareBytes x y = 0) ∧ (Op.bytesLess x y = false → (x == y) = false → Lib.compareBytes x y = 1)
  | [], [] => by simp [Op.bytesLess, Lib.compareBytes]
  | [], _ :: _ => by simp [Op.bytesLess, Lib.compareBytes]
  | _ :: _, [] => by simp [Op.bytesLess, Lib.compareBytes]
  | a :: x, b :: y => by
    obtain ⟨h1, h2, h3⟩ := cmp_parts x y
    unfold Lib.compareBytes
    by_cases hab : a = b
    · subst hab
      have hlt : ¬ a < a := UInt8.lt_irrefl a
      simp only [Op.bytesLess, hlt, if_false, decide_false, Bool.false_or, beq_self_eq_true, Bool.true_and, List.cons_beq_cons]
      exact ⟨h1, h2, h3⟩
    · have hb : (a == b) = false := by simpa using hab
      by_cases hlt : a < b
      · simp [Op.bytesLess, hlt, hb]
      · have h' : b < a := UInt8.lt_of_le_of_ne (UInt8.not_lt.1 hlt) (Ne.symm hab)
        simp [Op.bytesLess, hlt, hb, h']
def cmpTo (X Y : List (List UInt8)) (i j : Nat) : Int := cmpRows (lbs ((lowR X).take i)).reverse (lbs ((lowR Y).take j)).reverse
theorem cmpTo_zz (X Y : List (List UInt8)) : cmpTo X Y 0 0 = 0 := by simp [cmpTo, lbs, cmpRows]
theorem cmpTo_zs (X Y : List (List UInt8)) {j : Nat} (h : j < Y.length) : cmpTo X Y 0 (j + 1) = -1 := by
  unfold cmpTo
  rw [lbs_low_take Y h, List.reverse_append]
  simp [lbs, cmpRows]
theorem cmpTo_sz (X Y : List (List UInt8)) {i : Nat} (h : i < X.length) : cmpTo X Y (i + 1) 0 = 1 := by
  unfold cmpTo
  rw [lbs_low_take X h, List.reverse_append]
  simp [lbs, cmpRows]
theorem cmpTo_ss (X Y : List (List UInt8)) {i j : Nat} (h : i < X.length) (h' : j < Y.length) : cmpTo X Y (i + 1) (j + 1) = if Lib.compareBytes (lowS ⟨X[i].toArray⟩).data.toList (lowS ⟨Y[j].toArray⟩).data.toList = 0 then cmpTo X Y i j else Lib.compareBytes (lowS ⟨X[i].toArray⟩).data.toList (lowS ⟨Y[j].toArray⟩).data.toList := by
  unfold cmpTo
  rw [lbs_low_take X h, lbs_low_take Y h', List.reverse_append, List.reverse_append]
  rfl
theorem compare_of {a b : ByteArray} {X Y : List (List UInt8)} (ha : rows a = some X) (hb : rows b = some Y) : compareI a b = cmpTo X Y X.length Y.length := by
  unfold compareI cmpTo
  have e : ∀ Z : List (List UInt8), (lowR Z).take Z.length = lowR Z := fun Z => List.take_of_length_le (by unfold lowR; simp)
  rw [if_pos ⟨check_of ha, check_of hb⟩, labels_low ha, labels_low hb, e, e]
end nm
def lenV : Value → Nat
  | .slice _ n _ => n
  | _ => 0
set_option maxRecDepth 100000 in
set_option maxHeartbeats 2000000 in
theorem rcompare_any (a b : ByteArray) (ha : a.size ≤ 1099511627776) (hb : b.size ≤ 1099511627776) (w : World) : Calls Tryz.prog 160 #[.string a, .string b] w fun e w' => e = .returned (.int .i64 (compareI a b)) ∧ Below w.heap.size w w' := by
  cases hra : rows a with
  | none =>
    have hf : compareI a b = 0 := by unfold compareI; rw [if_neg]; intro h; rw [checkB_rows, hra] at h; exact absurd h.1 (by simp)
    have HF := Lib.hid hf; have HR := Lib.hid hra
    clear hf hra
    go_enter Tryz.func160, Tryz.ntmps160
    go_wp2_with fail
    refine (rsplit_any a ha _).mono ?_
    rintro e w2 ⟨hB, v, rfl, _⟩
    have HB := Lib.hid hB
    clear hB
    rw [HR.out]
    go_wp2_with fail
    refine (rsplit_any b hb _).mono ?_
    rintro e w3 ⟨hB3, v3, rfl, _⟩
    have HB3 := Lib.hid (HB.out.trans (hB3.mono HB.out.size))
    clear hB3
    go_wp2_with fail
    go_ret
    exact ⟨ret_i HF.out.symm, HB3.out⟩
  | some X =>
    cases hrb : rows b with
    | none =>
      have hf : compareI a b = 0 := by unfold compareI; rw [if_neg]; intro h; rw [checkB_rows b, hrb] at h; exact absurd h.2 (by simp)
      have HF := Lib.hid hf; have HR := Lib.hid hra; have HR2 := Lib.hid hrb
      clear hf hra hrb
      go_enter Tryz.func160, Tryz.ntmps160
      go_wp2_with fail
      refine (rsplit_any a ha _).mono ?_
      rintro e w2 ⟨hB, v, rfl, _⟩
      have HB := Lib.hid hB
      clear hB
      rw [HR.out]
      go_wp2_with fail
      refine (rsplit_any b hb _).mono ?_
      rintro e w3 ⟨hB3, v3, rfl, _⟩
      have HB3 := Lib.hid (HB.out.trans (hB3.mono HB.out.size))
      clear hB3
      rw [HR2.out]
      go_wp2_with fail
      go_ret
      exact ⟨ret_i HF.out.symm, HB3.out⟩
    | some Y =>
      obtain ⟨x1, x2, x3⟩ := row_small hra
      obtain ⟨y1, y2, y3⟩ := row_small hrb
      have hf := compare_of hra hrb
      have HF := Lib.hid hf; have HR := Lib.hid hra; have HR2 := Lib.hid hrb; have HX3 := Lib.hid x3; have HY3 := Lib.hid y3
      clear hf hra hrb x2 y2 x3 y3
      go_enter Tryz.func160, Tryz.ntmps160
      go_wp2_with fail
      refine (rsplit_any a ha _).mono ?_
      rintro e w2 ⟨hB, v, rfl, hv⟩
      obtain ⟨ax, cx, rfl, hcx⟩ := ownsRow_len (hv X HR.out)
      have hrowx := owns_strs (w := w2) (ss := lbs X) (by rw [lbs_len]; exact hv X HR.out)
      have HB := Lib.hid hB
      clear hB hv
      rw [HR.out]
      go_wp2_with fail
      refine (rsplit_any b hb _).mono ?_
      rintro e w3 ⟨hB3, v3, rfl, hv3⟩
      obtain ⟨ay, cy, rfl, hcy⟩ := ownsRow_len (hv3 Y HR2.out)
      have hrowy := owns_strs (w := w3) (ss := lbs Y) (by rw [lbs_len]; exact hv3 Y HR2.out)
      have hrowx := hrowx.below hB3
      have HB3 := Lib.hid (HB.out.trans (hB3.mono HB.out.size))
      have HROWX := Lib.hid hrowx; have HROWY := Lib.hid hrowy
      clear hB3 hv3 hrowx hrowy
      have hs3 := HB3.out.size
      rw [HR2.out]
      go_wp2_with fail
      go_loopw [5, 7, 9, 10] (fun xv yv _ _ wr => ∃ i j : Nat, i ≤ X.length ∧ j ≤ Y.length ∧ xv = .slice ax i cx ∧ yv = .slice ay j cy ∧ compareI a b = cmpTo X Y i j ∧ Below w3.heap.size w3 wr) (fun xv _ _ _ _ => lenV xv)
      case atStart => exact ⟨X.length, Y.length, Nat.le_refl _, Nat.le_refl _, rfl, rfl, HF.out, Below.refl _ _⟩
      case round =>
        obtain ⟨i, j, hi, hj, rfl, rfl, hcmp, hB⟩ := hrel
        have HCMP := Lib.hid hcmp; have HBr := Lib.hid hB
        clear hcmp hB
        rcases i with _ | i
        · rcases j with _ | j
          · have HN := Lib.hid (HCMP.out.trans (cmpTo_zz X Y))
            have HE := Lib.hid (HB3.out.trans (HBr.out.mono hs3))
            go_wp2_with fail
            go_ret
            exact ⟨ret_i HN.out.symm, HE.out⟩
          · have HN := Lib.hid (HCMP.out.trans (cmpTo_zs X Y (j := j) (by omega)))
            have HE := Lib.hid (HB3.out.trans (HBr.out.mono hs3))
            go_wp2_with fail
            go_ret
            exact ⟨ret_i HN.out.symm, HE.out⟩
        · rcases j with _ | j
          · have HN := Lib.hid (HCMP.out.trans (cmpTo_sz X Y (i := i) (by omega)))
            have HE := Lib.hid (HB3.out.trans (HBr.out.mono hs3))
            go_wp2_with fail
            go_ret
            exact ⟨ret_i HN.out.symm, HE.out⟩
          · obtain ⟨ax', cx', hvx, hcellx⟩ := HROWX.out
            obtain ⟨ay', cy', hvy, hcelly⟩ := HROWY.out
            simp only [Value.slice.injEq] at hvx hvy
            obtain ⟨rfl, hvx1, rfl⟩ := hvx
            obtain ⟨rfl, hvy1, rfl⟩ := hvy
            clear hvx1 hvy1
            obtain ⟨bx, ox, rfl, hlx, cellx⟩ := hcellx i (by rw [lbs_len]; omega)
            obtain ⟨by', oy, rfl, hly, celly⟩ := hcelly j (by rw [lbs_len]; omega)
            rw [lbs_get (by omega)] at cellx celly
            have hcmp := HCMP.out.trans (cmpTo_ss X Y (i := i) (j := j) (by omega) (by omega))
            have hxs : (⟨X[i].toArray⟩ : ByteArray).size ≤ 63 := (HX3.out _ (List.getElem_mem (by omega))).2
            have hys : (⟨Y[j].toArray⟩ : ByteArray).size ≤ 63 := (HY3.out _ (List.getElem_mem (by omega))).2
            generalize (⟨X[i].toArray⟩ : ByteArray) = p at cellx hcmp hxs
            generalize (⟨Y[j].toArray⟩ : ByteArray) = q at celly hcmp hys
            have e1 := gw_cell ((HBr.out.cell (p := ⟨bx, ox + i, none⟩) hlx).trans cellx)
            have e2 := gw_cell ((HBr.out.cell (p := ⟨by', oy + j, none⟩) hly).trans celly)
            have HN := Lib.hid hcmp
            have wi : IntKind.i64.wrap (i : Int) = (i : Int) := IntWalk.i64_in _ (by omega)
            have wj : IntKind.i64.wrap (j : Int) = (j : Int) := IntWalk.i64_in _ (by omega)
            have lti : (i : Int) < (i : Int) + 1 := by omega
            have ltj : (j : Int) < (j : Int) + 1 := by omega
            have lci : (i : Int) ≤ (cx : Int) := by omega
            have lcj : (j : Int) ≤ (cy : Int) := by omega
            have nci : ¬ cx = 0 := by omega
            have ncj : ¬ cy = 0 := by omega
            have CP : Hid (∀ g, Calls Tryz.prog 136 #[.string p] (gw wr g) fun e w'' => e = .returned (.string (lowS p)) ∧ ∃ g', w'' = gw wr g') := Lib.hid fun g => calls_gw (rlow_any p (by omega) _)
            have CQ : Hid (∀ g, Calls Tryz.prog 136 #[.string q] (gw wr g) fun e w'' => e = .returned (.string (lowS q)) ∧ ∃ g', w'' = gw wr g') := Lib.hid fun g => calls_gw (rlow_any q (by omega) _)
            clear hcmp hcellx hcelly cellx celly
            go_wp2_with fail
            refine wp_region_gw (by kernel_rfl) (by kernel_rfl) ?_
            repeat (refine wpQuiet_step (fun K hK => ?_); go_simp; (try simp only [wi, wj]); first | (refine hK _ ?_; clear hK K) | (apply Exists.intro; refine ⟨fun _ => ?_, hK _ ?_⟩; (first | (go_at_call 136; first | with_reducible exact CP.out _ | with_reducible exact CQ.out _)); clear hK K))
            refine wpQuiet_nil ?_
            intro W hW
            have hBW : Below wr.heap.size wr W := by obtain ⟨g, rfl⟩ := hW; exact gw_below wr g
            have HBW := Lib.hid (HBr.out.trans (hBW.mono HBr.out.size))
            clear hW hBW e1 e2 CP CQ
            generalize lowS p = p' at HN
            generalize lowS q = q' at HN
            obtain ⟨c1, c2, c3⟩ := cmp_parts p'.toList q'.toList
            rw [← Lib.toList_data, ← Lib.toList_data] at HN
            have HE := Lib.hid (HB3.out.trans (HBW.out.mono hs3))
            cases hl : Op.bytesLess p'.toList q'.toList
            · cases he : p'.toList == q'.toList
              · have hn := HN.out
                rw [c3 hl he, if_neg (by decide)] at hn
                have HN' := Lib.hid hn
                have he' : (!(p'.toList == q'.toList)) = true := by rw [he]; rfl
                clear HN c1 c2 c3 hn
                go_wp2_with fail
                go_ret
                exact ⟨ret_i HN'.out.symm, HE.out⟩
              · have hn := HN.out
                rw [c2 he, if_pos rfl] at hn
                have HN' := Lib.hid hn
                have he' : (!(p'.toList == q'.toList)) = false := by rw [he]; rfl
                clear HN c1 c2 c3 hn
                go_wp2_with fail
                refine wp_region_gw (by kernel_rfl) (by kernel_rfl) ?_
                repeat (refine wpQuiet_step (fun K hK => ?_); go_simp; (try simp only [wi, wj]); first | (refine hK _ ?_; clear hK K))
                refine wpQuiet_nil ?_
                intro W2 hW2
                have hBW2 : Below W.heap.size W W2 := by obtain ⟨g, rfl⟩ := hW2; exact gw_below W g
                have HBW2 := Lib.hid (HBW.out.trans (hBW2.mono HBW.out.size))
                clear hW2 hBW2
                go_wp2_with fail
                go_roundw
                case rel =>
                  exact ⟨i, j, by omega, by omega, rfl, rfl, HN'.out, HBW2.out⟩
                case measure => simp [lenV]
            · have hn := HN.out
              rw [c1 hl, if_neg (by decide)] at hn
              have HN' := Lib.hid hn
              clear HN c1 c2 c3 hn
              go_wp2_with fail
              go_ret
              exact ⟨ret_i HN'.out.symm, HE.out⟩
end Go.Proofs.YtdjjemajfphjaaaGreat

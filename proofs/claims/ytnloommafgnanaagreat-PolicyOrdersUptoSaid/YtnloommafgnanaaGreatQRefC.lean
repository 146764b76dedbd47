/-
  The reference's names: FoldName, EqualName, Tail, Within.
-/
import Derived.Test.YtnloommafgnanaaGreatQRefA
import Derived.Lib.SmallJoins
namespace Go.Proofs.YtnloommafgnanaaGreat
open Go.RowKit Go.Shelf Go.Proofs.YtnloommafgnanaaGreat.nm

namespace nm
theorem lbs_get {ls : List (List UInt8)} {k : Nat} (h : k < ls.length) : (lbs ls)[k]'(by rw [lbs_len]; exact h) = (⟨ls[k].toArray⟩ : ByteArray) := by unfold lbs; simp
theorem lowS_lbl (l : List UInt8) : lowS ⟨l.toArray⟩ = ⟨(l.map lowB).toArray⟩ := by unfold lowS; simp
theorem lbs_low_take (ls : List (List UInt8)) {k : Nat} (h : k < ls.length) : lbs ((lowR ls).take (k + 1)) = lbs ((lowR ls).take k) ++ [lowS ⟨ls[k].toArray⟩] := by
  have hk : k < (lowR ls).length := by unfold lowR; simpa using h
  have e : (lowR ls)[k] = ls[k].map lowB := by
    show (ls.map (·.map lowB))[k]'_ = _
    exact List.getElem_map ..
  rw [List.take_succ_eq_append_getElem hk, lowS_lbl, e]
  unfold lbs
  simp
theorem fold_none' {s : ByteArray} (h : rows s = none) : foldS s = ByteArray.empty := by
  unfold foldS
  rw [checkB_rows, h]
  rfl
theorem row_small {s : ByteArray} {ls : List (List UInt8)} (h : rows s = some ls) : ls.length ≤ 255 ∧ (putL ls).length ≤ 255 ∧ (∀ l ∈ ls, 0 < l.length ∧ l.length ≤ 63) := by
  obtain ⟨h1, h2, _⟩ := rows_some h
  have h3 := rows_len h
  have h4 := putL_length_ge ls
  exact ⟨by omega, by omega, h2⟩
end nm

set_option maxRecDepth 100000 in
set_option maxHeartbeats 2000000 in
theorem rfold_any (s : ByteArray) (hs : s.size ≤ 1099511627776) (w : World) : Calls Tryz.prog 68 #[.string s] w fun e w' => e = .returned (.string (foldS s)) ∧ Below w.heap.size w w' := by
  cases hr : rows s with
  | none =>
    have hf := fold_none' hr
    have HF := Lib.hid hf; have HR := Lib.hid hr
    clear hf hr
    go_enter Tryz.func68, Tryz.ntmps68
    go_wp2_with fail
    refine (rsplit_any s hs _).mono ?_
    rintro e w2 ⟨hB, v, rfl, _⟩
    have HB := Lib.hid hB
    clear hB
    rw [HR.out]
    go_wp2_with fail
    go_ret
    exact ⟨ret_s HF.out.symm, HB.out⟩
  | some ls =>
    obtain ⟨l1, l2, l3⟩ := row_small hr
    have hf : foldS s = nameOf (lowR ls) := foldS_row hr
    have hlow := rowOk_low (rows_some hr).2.1
    have hpl : (putL (lowR ls)).length ≤ 255 := by rw [putL_low_len (rows_some hr).2.1]; exact l2
    have hll : (lowR ls).length = ls.length := by unfold lowR; simp
    obtain ⟨i0, hi0, hz0, hz1, hz2⟩ := info_parts info_str
    have HI := Lib.hid hi0; have HZ := Lib.hid hz0; have HZ1 := Lib.hid hz1; have HZ2 := Lib.hid hz2
    have HF := Lib.hid hf; have HR := Lib.hid hr; have HLOW := Lib.hid hlow; have HPL := Lib.hid hpl; have HLL := Lib.hid hll; have HL3 := Lib.hid l3
    clear hf hr hlow hpl hll l2 l3 hi0 hz0 hz1 hz2
    go_enter Tryz.func68, Tryz.ntmps68
    go_wp2_with fail
    refine (rsplit_any s hs _).mono ?_
    rintro e w2 ⟨hB2, v, rfl, hv⟩
    have hrow := owns_strs (w := w2) (ss := lbs ls) (by rw [lbs_len]; exact hv ls HR.out)
    obtain ⟨a, cap, rfl, hc⟩ := hrow
    rw [lbs_len]
    have HB2 := Lib.hid hB2; have HC := Lib.hid hc
    have hs2 := hB2.size
    clear hB2 hv hc
    rw [HR.out]
    go_wp2_with fail
    go_loopw [17, 5, 7] (fun kv ov _ wr => ∃ k : Nat, k ≤ ls.length ∧ kv = .int .i64 (k : Int) ∧ wr.ownsRow w2.heap.size 9 1 ov k ((lbs ((lowR ls).take k)).map .string) ∧ Below w2.heap.size w2 wr) (fun kv _ _ _ => ls.length - (intOf kv).toNat)
    case atStart => exact ⟨0, Nat.zero_le _, rfl, World.ownsRow_nil _ _ _ _, Below.refl _ _⟩
    case round =>
      obtain ⟨k, hk, rfl, hown, hB⟩ := hrel
      obtain ⟨ao, co, rfl, _⟩ := ownsRow_len hown
      have hsr := hB.size
      have HOWN := Lib.hid hown; have HB := Lib.hid hB
      clear hown hB
      by_cases hlt : k < ls.length
      · obtain ⟨b, off, rfl, hb, c0⟩ := HC.out k (by rw [lbs_len]; exact hlt)
        have c0 := (HB.out.cell (p := ⟨b, off + k, none⟩) hb).trans c0
        rw [lbs_get hlt] at c0
        obtain ⟨x, hx⟩ : ∃ x : ByteArray, x = ⟨ls[k].toArray⟩ := ⟨_, rfl⟩
        have hxs : x.size ≤ 63 := by rw [hx]; exact (HL3.out _ (List.getElem_mem hlt)).2
        rw [← hx] at c0
        have hnx := lbs_low_take ls hlt
        rw [← hx] at hnx
        have HNX := Lib.hid hnx
        clear hx hnx
        go_wp2_with fail
        refine (rlow_any x (by omega) _).mono ?_
        rintro e w4 ⟨rfl, hB4⟩
        have hs4 := hB4.size
        have hown4 := ownsRow_keepOne HOWN.out fun b hb => hB4.block b (HOWN.out.lt b hb).2
        have hB5 := (HB.out.trans (hB4.mono hsr)).alloc (by omega) (.cells #[.string (lowS x)] 9)
        have HOWN5 := Lib.hid (ownsRow_keepOne hown4 fun b hb => Below.heap_alloc w4 (.cells #[.string (lowS x)] 9) b (hown4.lt b hb).2)
        have p1 : k + 1 ≤ maxLen := by unfold maxLen; omega
        have p2 : (k + 1) * 16 ≤ 140737488355328 := by omega
        have p3 : w2.heap.size ≤ (w4.alloc (.cells #[.string (lowS x)] 9)).heap.size := by simp; omega
        have P1 := Lib.hid p1; have P2 := Lib.hid p2; have P3 := Lib.hid p3; have HB5 := Lib.hid hB5
        clear p1 p2 p3 hB5 hown4 hB4 c0
        go_wp2_with (at_builtin; refine wpList_append_own _ rfl _ _ 45 rfl w2.heap.size 9 i0 (.string ByteArray.empty) 1 16 Tryz.underlying45 HI.out HZ.out HZ1.out HZ2.out rfl (by decide) _ _ _ rfl HOWN5.out ⟨w4.heap.size, 0, none⟩ 1 1 [.string (lowS x)] rfl rfl (cell_one_new _ _ _) (by simp [Value.oneCell']) P1.out P2.out P3.out ?_)
        intro v' w10 hown10 hg10 hnn
        have HB10 := Lib.hid (HB5.out.grown hg10 P3.out (fun j hj => (HOWN5.out.lt j hj).1)); have HOWN10 := Lib.hid hown10
        clear hown10 hg10 hnn
        go_wp2_with fail
        go_roundw
        case rel =>
          refine ⟨k + 1, by omega, by go_num, ?_, HB10.out⟩
          have h := HOWN10.out
          rw [HNX.out, List.map_append]
          exact h
        case measure => simp [intOf]; omega
      · obtain rfl : k = ls.length := by omega
        have hfull : (lowR ls).take ls.length = lowR ls := List.take_of_length_le (by rw [HLL.out]; exact Nat.le_refl _)
        have hrowv : StrRow wr (.slice ao ls.length co) (lbs (lowR ls)) := owns_strs (base := w2.heap.size) (by
          have h := HOWN.out
          rw [hfull] at h
          rw [lbs_len, HLL.out]
          exact h)
        have HP := Lib.hid (rput_any (lowR ls) (fun l hl => by have := (HLOW.out l hl).2; omega) (by have := HPL.out; omega) _ wr hrowv)
        clear hfull hrowv
        go_wp2_with fail
        refine HP.out.mono ?_
        rintro e w5 ⟨rfl, hB5⟩
        rw [← HF.out]
        have HB5 := Lib.hid (HB2.out.trans ((HB.out.trans (hB5.mono hsr)).mono hs2))
        clear hB5
        go_wp2_with fail
        go_ret
        exact ⟨rfl, HB5.out⟩

set_option maxRecDepth 100000 in
theorem requal_any (a b : ByteArray) (ha : a.size ≤ 1099511627776) (hb : b.size ≤ 1099511627776) (w : World) : Calls Tryz.prog 60 #[.string a, .string b] w fun e w' => e = .returned (.bool (equalB a b)) ∧ Below w.heap.size w w' := by
  cases hca : checkB a
  · have hr : equalB a b = false := by unfold equalB; rw [hca]; rfl
    have HR := Lib.hid hr; have HCA := Lib.hid hca
    clear hr hca
    go_enter Tryz.func60, Tryz.ntmps60
    go_wp2_with fail
    refine (risname_any a ha _).mono ?_
    rintro e w2 ⟨rfl, hB2⟩
    rw [HCA.out]
    have HB2 := Lib.hid hB2
    clear hB2
    go_wp2_with fail
    go_ret
    exact ⟨ret_b HR.out.symm, HB2.out⟩
  · cases hcb : checkB b
    · have hr : equalB a b = false := by unfold equalB; rw [hca, hcb]; rfl
      have HR := Lib.hid hr; have HCA := Lib.hid hca; have HCB := Lib.hid hcb
      clear hr hca hcb
      go_enter Tryz.func60, Tryz.ntmps60
      go_wp2_with fail
      refine (risname_any a ha _).mono ?_
      rintro e w2 ⟨rfl, hB2⟩
      rw [HCA.out]
      have HB2 := Lib.hid hB2
      clear hB2
      go_wp2_with fail
      refine (risname_any b hb _).mono ?_
      rintro e w3 ⟨rfl, hB3⟩
      rw [HCB.out]
      have HB3 := Lib.hid (HB2.out.trans (hB3.mono HB2.out.size))
      clear hB3
      go_wp2_with fail
      go_ret
      exact ⟨ret_b HR.out.symm, HB3.out⟩
    · have hr : equalB a b = ((foldS a).toList == (foldS b).toList) := by unfold equalB foldS; rw [hca, hcb]; rfl
      have HR := Lib.hid hr; have HCA := Lib.hid hca; have HCB := Lib.hid hcb
      clear hr hca hcb
      go_enter Tryz.func60, Tryz.ntmps60
      go_wp2_with fail
      refine (risname_any a ha _).mono ?_
      rintro e w2 ⟨rfl, hB2⟩
      rw [HCA.out]
      have HB2 := Lib.hid hB2
      clear hB2
      go_wp2_with fail
      refine (risname_any b hb _).mono ?_
      rintro e w3 ⟨rfl, hB3⟩
      rw [HCB.out]
      have HB3 := Lib.hid (HB2.out.trans (hB3.mono HB2.out.size))
      clear hB3
      go_wp2_with fail
      refine (rfold_any a ha _).mono ?_
      rintro e w4 ⟨rfl, hB4⟩
      have HB4 := Lib.hid (HB3.out.trans (hB4.mono HB3.out.size))
      clear hB4
      go_wp2_with fail
      refine (rfold_any b hb _).mono ?_
      rintro e w5 ⟨rfl, hB5⟩
      have HB5 := Lib.hid (HB4.out.trans (hB5.mono HB4.out.size))
      clear hB5
      go_wp2_with fail
      go_ret
      exact ⟨ret_b HR.out.symm, HB5.out⟩
end Go.Proofs.YtnloommafgnanaaGreat
/-
  The reference's names: Tail, Within, Star, IsStar.
-/
namespace Go.Proofs.YtnloommafgnanaaGreat
open Go.RowKit Go.Shelf Go.Proofs.YtnloommafgnanaaGreat.nm

end Go.Proofs.YtnloommafgnanaaGreat
/-
  The reference's names: Within, IsStar.
-/
namespace Go.Proofs.YtnloommafgnanaaGreat
open Go.RowKit Go.Shelf Go.Proofs.YtnloommafgnanaaGreat.nm

namespace nm
end nm

end Go.Proofs.YtnloommafgnanaaGreat

/-
  The reference's names: Split, IsName, Count.
-/
import Derived.Test.YtnloommafgnanaaGreatQNameE
import Derived.Test.YtnloommafgnanaaGreatQZoneF
namespace Go.Proofs.YtnloommafgnanaaGreat
open Go.RowKit Go.Shelf Go.Proofs.YtnloommafgnanaaGreat.nm

namespace nm
/-- Labels as texts. -/
def lbs (ls : List (List UInt8)) : List ByteArray := ls.map fun l => ⟨l.toArray⟩
theorem lbs_len (ls : List (List UInt8)) : (lbs ls).length = ls.length := by unfold lbs; simp
/-- The row that a text's bytes are. -/
def splitS (s : ByteArray) : Option (List (List UInt8)) := splitL (s.size + 1) s.data.toList
theorem rows_splitS (s : ByteArray) : rows s = if s.size ≤ 255 then splitS s else none := rfl
theorem head_of {s : ByteArray} (h : 0 < s.size) : s.data.toList = s[0] :: s.data.toList.drop 1 := by
  have h1 : 0 < s.data.toList.length := by simpa using h
  have h2 := List.drop_eq_getElem_cons h1
  rw [List.drop_zero] at h2
  exact h2
theorem split_empty {s : ByteArray} (h : s.size = 0) : splitS s = none := by
  have h1 : s.data.toList = [] := List.eq_nil_of_length_eq_zero (by simpa using h)
  unfold splitS
  rw [h1]
  rfl
theorem split_end {s : ByteArray} (h : 0 < s.size) (hz : s[0].toNat = 0) : splitS s = if s.size = 1 then some [] else none := by
  have h1 := head_of h
  unfold splitS
  rw [h1, splitL, if_pos hz]
  by_cases e : s.size = 1
  · rw [if_pos e, if_pos]
    exact List.drop_eq_nil_of_le (by simpa using (show s.size ≤ 1 by omega))
  · rw [if_neg e, if_neg]
    intro hd
    have := List.drop_eq_nil_iff.1 hd
    have h2 : s.data.toList.length = s.size := by simp
    omega
theorem split_bad {s : ByteArray} (h : 0 < s.size) (hz : s[0].toNat ≠ 0) (hb : 63 < s[0].toNat ∨ s.size < 1 + s[0].toNat) : splitS s = none := by
  have h1 := head_of h
  have h2 : s.data.toList.length = s.size := by simp
  unfold splitS
  rw [h1, splitL, if_neg hz, if_pos]
  rw [List.length_drop]
  omega
theorem split_next {s : ByteArray} (h : 0 < s.size) (hz : s[0].toNat ≠ 0) (h63 : s[0].toNat ≤ 63) (hb : 1 + s[0].toNat ≤ s.size) :
    splitS s = (splitS (s.extract (1 + s[0].toNat) s.size)).map ((s.extract 1 (1 + s[0].toNat)).data.toList :: ·) := by
  have h1 := head_of h
  have h2 : s.data.toList.length = s.size := by simp
  have e1 : (s.extract 1 (1 + s[0].toNat)).data.toList = (s.data.toList.drop 1).take s[0].toNat := by
    rw [extract_list]; congr 1; omega
  have e2 : (s.extract (1 + s[0].toNat) s.size).data.toList = (s.data.toList.drop 1).drop s[0].toNat := by
    rw [extract_list, List.drop_drop]
    exact List.take_of_length_le (by rw [List.length_drop, h2]; omega)
  have e3 : (s.extract (1 + s[0].toNat) s.size).size = s.size - (1 + s[0].toNat) := by
    have := congrArg List.length e2
    simp only [List.length_drop, h2] at this
    rw [Array.length_toList] at this
    rw [show (s.extract (1 + s[0].toNat) s.size).size = (s.extract (1 + s[0].toNat) s.size).data.size from rfl, this]
    omega
  unfold splitS
  conv => lhs; rw [h1]
  rw [splitL, if_neg hz, if_neg (by rw [List.length_drop]; omega), e1, e2, e3]
  congr 1
  refine splitL_fuel ?_ ?_
  · rw [List.length_drop, List.length_drop]; omega
  · rw [List.length_drop, List.length_drop]; omega
/-- How far Split has come. -/
def SplitAt (s : ByteArray) (done : List (List UInt8)) (rest : ByteArray) : Prop :=
  splitS s = (splitS rest).map (done ++ ·) ∧ rest.size + done.length ≤ s.size
theorem splitAt_none {s rest : ByteArray} {done : List (List UInt8)} (h : SplitAt s done rest) (hn : splitS rest = none) : rows s = none := by
  rw [rows_splitS, h.1, hn]
  split <;> rfl
theorem splitAt_end {s rest : ByteArray} {done : List (List UInt8)} (h : SplitAt s done rest) (h0 : 0 < rest.size) (hz : rest[0].toNat = 0) : rows s = if rest.size = 1 ∧ s.size ≤ 255 then some done else none := by
  rw [rows_splitS, h.1, split_end h0 hz]
  by_cases h1 : s.size ≤ 255
  · rw [if_pos h1]
    by_cases h2 : rest.size = 1
    · rw [if_pos h2, if_pos ⟨h2, h1⟩]; simp
    · rw [if_neg h2, if_neg (fun e => h2 e.1)]; rfl
  · rw [if_neg h1, if_neg (fun e => h1 e.2)]
theorem splitAt_next {s rest : ByteArray} {done : List (List UInt8)} (h : SplitAt s done rest) (h0 : 0 < rest.size) (hz : rest[0].toNat ≠ 0) (h63 : rest[0].toNat ≤ 63) (hb : 1 + rest[0].toNat ≤ rest.size) :
    SplitAt s (done ++ [(rest.extract 1 (1 + rest[0].toNat)).data.toList]) (rest.extract (1 + rest[0].toNat) rest.size) := by
  have e1 : (rest.extract (1 + rest[0].toNat) rest.size).size = rest.size - (1 + rest[0].toNat) := by rw [ByteArray.size_extract]; omega
  refine ⟨?_, ?_⟩
  · rw [h.1, split_next h0 hz h63 hb, Option.map_map]
    congr 1
    funext x
    simp
  · have := h.2
    rw [e1, List.length_append]
    simp
    omega
end nm

/-- What Split answers. -/
def RSplit (s : ByteArray) (w : World) (e : Ending) (w' : World) : Prop :=
  Below w.heap.size w w' ∧ ∃ v, e = .returned (.tuple #[v, .bool (rows s).isSome]) ∧ ∀ ls, rows s = some ls → w'.ownsRow w.heap.size 9 1 v ls.length ((lbs ls).map .string)

set_option maxRecDepth 100000 in
set_option maxHeartbeats 2000000 in
theorem rsplit_any (s : ByteArray) (hs : s.size ≤ 1099511627776) (w : World) : Calls Tryz.prog 69 #[.string s] w fun e w' => RSplit s w e w' := by
  obtain ⟨i0, hi0, hz0, hz1, hz2⟩ := info_parts info_str
  have HI := Lib.hid hi0; have HZ := Lib.hid hz0; have HZ1 := Lib.hid hz1; have HZ2 := Lib.hid hz2
  clear hi0 hz0 hz1 hz2
  go_enter Tryz.func69, Tryz.ntmps69
  go_wp2_with fail
  go_loopw [5, 4, 6] (fun rv ov _ wr => ∃ (done : List (List UInt8)) (rest : ByteArray), rv = .string rest ∧ SplitAt s done rest ∧ wr.ownsRow w.heap.size 9 1 ov done.length ((lbs done).map .string) ∧ Below w.heap.size w wr)
    (fun rv _ _ _ => match rv with | .string r => r.size | _ => 0)
  case atStart => exact ⟨[], s, rfl, ⟨by simp, by simp⟩, World.ownsRow_nil _ _ _ _, Below.refl _ _⟩
  case round =>
    obtain ⟨done, rest, rfl, hA, hown, hB⟩ := hrel
    obtain ⟨a, cap, rfl, hcap⟩ := ownsRow_len hown
    have hsd := hA.2
    have hsr := hB.size
    have HA := Lib.hid hA; have HOWN := Lib.hid hown; have HB := Lib.hid hB
    clear hA hown hB
    by_cases h0 : rest.size = 0
    · have b1 := str_empty h0
      have hn := splitAt_none HA.out (split_empty h0)
      have HN := Lib.hid hn
      clear hn
      go_wp2_with fail
      go_ret2
      exact ⟨HB.out, _, by rw [HN.out]; rfl, fun ls h => by rw [HN.out] at h; cases h⟩
    · have b1 := str_some h0
      have h0' : 0 < rest.size := by omega
      have h256 : (rest[0].toNat : Int) < 256 := by have := UInt8.toNat_lt rest[0]; omega
      obtain ⟨c, hc⟩ : ∃ c, c = rest[0].toNat := ⟨_, rfl⟩
      have HC := Lib.hid hc
      by_cases hz : c = 0
      · have b2 : ((rest[0].toNat : Int) == 0) = true := by rw [beq_iff_eq]; omega
        have hend := splitAt_end HA.out h0' (by omega)
        have HE := Lib.hid hend
        clear hend hc hz
        by_cases h1 : rest.size = 1
        · have b3 : ((rest.size : Int) == 1) = true := by rw [beq_iff_eq]; omega
          by_cases h255 : s.size ≤ 255
          · have h255' : (s.size : Int) ≤ 255 := by omega
            have hr : rows s = some done := by rw [HE.out, if_pos ⟨h1, h255⟩]
            have HR := Lib.hid hr
            clear hr
            go_wp2_with fail
            go_ret2
            exact ⟨HB.out, _, by rw [HR.out]; rfl, fun ls h => by rw [HR.out] at h; cases h; exact HOWN.out⟩
          · have h255' : (255 : Int) < (s.size : Int) := by omega
            have hr : rows s = none := by rw [HE.out, if_neg (fun e => h255 e.2)]
            have HR := Lib.hid hr
            clear hr
            go_wp2_with fail
            go_ret2
            refine ⟨HB.out, .slice a done.length cap, ?_, fun ls h => by rw [HR.out] at h; cases h⟩
            rw [HR.out]
            show Ending.returned (.tuple #[.slice a done.length cap, .bool (decide ((s.size : Int) ≤ 255))]) = _
            rw [decide_eq_false (by omega)]
            rfl
        · have b3 : ((rest.size : Int) == 1) = false := by rw [beq_eq_false_iff_ne]; omega
          have hr : rows s = none := by rw [HE.out, if_neg (fun e => h1 e.1)]
          have HR := Lib.hid hr
          clear hr
          go_wp2_with fail
          go_ret2
          exact ⟨HB.out, _, by rw [HR.out]; rfl, fun ls h => by rw [HR.out] at h; cases h⟩
      · have b2 : ((rest[0].toNat : Int) == 0) = false := by rw [beq_eq_false_iff_ne]; omega
        by_cases h63 : 63 < c
        · have q1 : 63 < (rest[0].toNat : Int) := by omega
          have hn := splitAt_none HA.out (split_bad h0' (by omega) (.inl (by omega)))
          have HN := Lib.hid hn
          clear hn hc
          go_wp2_with fail
          go_ret2
          exact ⟨HB.out, _, by rw [HN.out]; rfl, fun ls h => by rw [HN.out] at h; cases h⟩
        · have q1 : (rest[0].toNat : Int) ≤ 63 := by omega
          by_cases hl : rest.size < 1 + c
          · have q2 : (rest.size : Int) < 1 + (rest[0].toNat : Int) := by omega
            have hn := splitAt_none HA.out (split_bad h0' (by omega) (.inr (by omega)))
            have HN := Lib.hid hn
            clear hn hc
            go_wp2_with fail
            go_ret2
            exact ⟨HB.out, _, by rw [HN.out]; rfl, fun ls h => by rw [HN.out] at h; cases h⟩
          · have q2 : 1 + (rest[0].toNat : Int) ≤ (rest.size : Int) := by omega
            have hA2 := splitAt_next HA.out h0' (by omega) (by omega) (by omega)
            have HA2 := Lib.hid hA2
            clear hA2
            have hB3 := HB.out.alloc (by omega) (.cells #[.string (rest.extract 1 (1 + rest[0].toNat))] 9)
            have HOWN3 := Lib.hid (ownsRow_keepOne HOWN.out fun b hb => Below.heap_alloc wr (.cells #[.string (rest.extract 1 (1 + rest[0].toNat))] 9) b (HOWN.out.lt b hb).2)
            have p1 : done.length + 1 ≤ maxLen := by unfold maxLen; omega
            have p2 : (done.length + 1) * 16 ≤ 140737488355328 := by omega
            have p3 : w.heap.size ≤ (wr.alloc (.cells #[.string (rest.extract 1 (1 + rest[0].toNat))] 9)).heap.size := by simp; omega
            have P1 := Lib.hid p1; have P2 := Lib.hid p2; have P3 := Lib.hid p3; have HB3 := Lib.hid hB3
            clear p1 p2 p3 hc hB3
            have hcs : ((1 : Int) + (rest[0].toNat : Int)).toNat = 1 + rest[0].toNat := by omega
            go_wp2_with (at_builtin; refine wpList_append_own _ rfl _ _ 45 rfl w.heap.size 9 i0 (.string ByteArray.empty) 1 16 Tryz.underlying45 HI.out HZ.out HZ1.out HZ2.out rfl (by decide) _ _ _ rfl HOWN3.out ⟨wr.heap.size, 0, none⟩ 1 1 [.string (rest.extract 1 (1 + rest[0].toNat))] rfl rfl (cell_one_new _ _ _) (by simp [Value.oneCell']) P1.out P2.out P3.out ?_)
            intro v' w10 hown10 hg10 hnn
            have hB10 := HB3.out.grown hg10 P3.out (fun j hj => (HOWN3.out.lt j hj).1)
            have HOWN10 := Lib.hid hown10; have HB10 := Lib.hid hB10
            clear hown10 hB10 hg10 hnn
            go_wp2_with fail
            go_roundw
            case rel =>
              refine ⟨_, _, rfl, HA2.out, ?_, HB10.out⟩
              have := HOWN10.out
              rw [List.length_append]
              unfold lbs at this ⊢
              rw [List.map_append, List.map_append]
              exact this
            case measure =>
              simp only [ByteArray.size_extract]
              omega
end Go.Proofs.YtnloommafgnanaaGreat
/-
  The reference's names: IsName, Count, Put.
-/
namespace Go.Proofs.YtnloommafgnanaaGreat
open Go.RowKit Go.Shelf Go.Proofs.YtnloommafgnanaaGreat.nm

set_option maxRecDepth 100000 in
theorem risname_any (s : ByteArray) (hs : s.size ≤ 1099511627776) (w : World) : Calls Tryz.prog 62 #[.string s] w fun e w' => e = .returned (.bool (checkB s)) ∧ Below w.heap.size w w' := by
  go_enter Tryz.func62, Tryz.ntmps62
  go_wp2_with fail
  refine (rsplit_any s hs _).mono ?_
  rintro e w2 ⟨hB, v, rfl, _⟩
  go_wp2_with fail
  go_ret
  exact ⟨by rw [checkB_rows]; rfl, hB⟩

namespace nm
/-- The bytes of labels, each behind its length. -/
def headL (ls : List (List UInt8)) : List UInt8 := ls.flatMap fun l => UInt8.ofNat l.length :: l
theorem putL_head : ∀ ls : List (List UInt8), putL ls = headL ls ++ [0]
  | [] => rfl
  | l :: ls => by
    rw [putL, putL_head ls]
    unfold headL
    rw [List.flatMap_cons]
    simp
theorem headL_take {ls : List (List UInt8)} {k : Nat} (h : k < ls.length) : headL (ls.take (k + 1)) = headL (ls.take k) ++ (UInt8.ofNat ls[k].length :: ls[k]) := by
  rw [List.take_succ_eq_append_getElem h]
  unfold headL
  rw [List.flatMap_append]
  simp
theorem headL_le (ls : List (List UInt8)) (k : Nat) : (headL (ls.take k)).length ≤ (putL ls).length := by
  have h : headL ls = headL (ls.take k) ++ headL (ls.drop k) := by
    unfold headL
    rw [← List.flatMap_append, List.take_append_drop]
  rw [putL_head, h]
  simp
end nm

/-- A row of texts. -/
def StrRow (w : World) (v : Value) (ss : List ByteArray) : Prop :=
  ∃ a cap, v = .slice a ss.length cap ∧ ∀ k (h : k < ss.length), ∃ b off, a = some ⟨b, off, none⟩ ∧ b < w.heap.size ∧ w.cell? ⟨b, off + k, none⟩ = some (.string ss[k])
theorem StrRow.below {w w' : World} {v : Value} {ss : List ByteArray} (h : StrRow w v ss) (hb : Below w.heap.size w w') : StrRow w' v ss := by
  obtain ⟨a, cap, rfl, h⟩ := h
  refine ⟨a, cap, rfl, fun k hk => ?_⟩
  obtain ⟨b, off, rfl, hl, hc⟩ := h k hk
  exact ⟨b, off, rfl, Nat.lt_of_lt_of_le hl hb.size, (hb.cell (p := ⟨b, off + k, none⟩) hl).trans hc⟩
theorem owns_strs {w : World} {base : Nat} {v : Value} {ss : List ByteArray} (h : w.ownsRow base 9 1 v ss.length (ss.map .string)) : StrRow w v ss := by
  obtain ⟨a, cap, rfl, _⟩ := ownsRow_len h
  refine ⟨a, cap, rfl, fun k hk => ?_⟩
  obtain ⟨g, cap', hv, _, hg⟩ := h.form (by omega)
  simp only [Value.slice.injEq, true_and] at hv
  obtain ⟨rfl, rfl⟩ := hv
  refine ⟨g, 0, rfl, hg, ?_⟩
  have := ownsRow_cells h k (by rw [List.length_map]; exact hk)
  rw [List.getElem_map] at this
  rw [Nat.zero_add]
  exact this

set_option maxRecDepth 100000 in
set_option maxHeartbeats 1000000 in
theorem rput_any (ls : List (List UInt8)) (hl : ∀ l ∈ ls, l.length ≤ 255) (hsz : (putL ls).length ≤ 1099511627776) (v : Value) (w : World) (hv : StrRow w v (lbs ls)) :
    Calls Tryz.prog 73 #[v] w fun e w' => e = .returned (.string (nameOf ls)) ∧ Below w.heap.size w w' := by
  obtain ⟨a, cap, rfl, hc⟩ := hv
  rw [lbs_len]
  have hn := putL_length_ge ls
  have HCC := Lib.hid hc; have HL := Lib.hid hl
  clear hc hl
  go_enter Tryz.func73, Tryz.ntmps73
  go_wp2_with fail
  go_loopw [8, 3, 5] (fun iv sv _ wr => ∃ k : Nat, k ≤ ls.length ∧ iv = .int .i64 (k : Int) ∧ sv = .string ⟨(headL (ls.take k)).toArray⟩ ∧ Below w.heap.size w wr) (fun iv _ _ _ => ls.length - (intOf iv).toNat)
  case atStart => exact ⟨0, Nat.zero_le _, rfl, rfl, Below.refl _ _⟩
  case round =>
    obtain ⟨k, hk, rfl, rfl, hB⟩ := hrel
    have hle := headL_le ls k
    have hsr := hB.size
    obtain ⟨hs, hhs⟩ : ∃ x : ByteArray, x = ⟨(headL (ls.take k)).toArray⟩ := ⟨_, rfl⟩
    have hsz2 : hs.size = (headL (ls.take k)).length := by rw [hhs]; simp [ByteArray.size]
    rw [← hhs]
    have HB := Lib.hid hB; have HHS := Lib.hid hhs
    clear hB hhs
    by_cases hlt : k < ls.length
    · obtain ⟨b, off, rfl, hb, c0⟩ := HCC.out k (by rw [lbs_len]; exact hlt)
      have c0 := (HB.out.cell (p := ⟨b, off + k, none⟩) hb).trans c0
      have hx : (lbs ls)[k]'(by rw [lbs_len]; exact hlt) = (⟨ls[k].toArray⟩ : ByteArray) := by unfold lbs; simp
      rw [hx] at c0
      obtain ⟨x, hxx⟩ : ∃ x : ByteArray, x = ⟨ls[k].toArray⟩ := ⟨_, rfl⟩
      rw [← hxx] at c0
      have hxs : x.size = ls[k].length := by rw [hxx]; simp [ByteArray.size]
      have hx255 : x.size ≤ 255 := by rw [hxs]; exact HL.out _ (List.getElem_mem hlt)
      have HXX := Lib.hid hxx; have HXS := Lib.hid hxs
      clear hx hxx hxs
      have hcv : (convert 85 9 (.slice (some ⟨wr.heap.size, 0, none⟩) 1 1)).run Tryz.prog (wr.alloc (.cells #[.int .u8 (x.size : Int)] 5)) = .ok (.string ⟨[UInt8.ofNat x.size].toArray⟩) (wr.alloc (.cells #[.int .u8 (x.size : Int)] 5)) := by
        refine run_convert_bytes_back (P := Tryz.prog) _ 85 9 5 ⟨wr.heap.size, 0, none⟩ 1 [UInt8.ofNat x.size] Tryz.underlying85 Tryz.underlying5 Tryz.underlying9 (fun j hj => ?_)
        obtain rfl : j = 0 := by simpa using hj
        have h8 : ((UInt8.ofNat x.size).toNat : Int) = (x.size : Int) := by rw [UInt8.toNat_ofNat']; omega
        have := news_at wr [.int .u8 (x.size : Int)] 5 0 _ rfl
        simp only [List.getElem_cons_zero, h8]
        exact this
      have hbig : hs.size + (1 + x.size) ≤ 1099511627776 := by
        have h1 := headL_le ls (k + 1)
        rw [headL_take hlt, List.length_append, List.length_cons] at h1
        rw [hsz2, HXS.out]
        omega
      have hxb : (⟨[UInt8.ofNat x.size].toArray⟩ : ByteArray).size = 1 := rfl
      have HB3 := Lib.hid (HB.out.alloc hsr (.cells #[.int .u8 (x.size : Int)] 5))
      have HHB := Lib.hid hbig
      clear hbig
      go_wp2_with fail
      go_roundw
      case rel =>
        refine ⟨k + 1, by omega, by go_num, ?_, HB3.out⟩
        refine congrArg Value.string (ba_ext ?_)
        show _ = headL (ls.take (k + 1))
        rw [headL_take hlt, ByteArray.data_append, Array.toList_append, ByteArray.data_append, Array.toList_append, HHS.out, HXX.out]
        rfl
      case measure => simp [intOf]; omega
    · have hke : k = ls.length := by omega
      subst hke
      have hz1 : (⟨#[0]⟩ : ByteArray).size = 1 := rfl
      go_wp2_with fail
      go_ret
      refine ⟨?_, HB.out⟩
      rw [HHS.out, List.take_length]
      refine congrArg (fun s => Ending.returned (.string s)) (ba_ext ?_)
      show _ = putL ls
      rw [putL_head, ByteArray.data_append, Array.toList_append]
end Go.Proofs.YtnloommafgnanaaGreat

/-
  policy.Order, plainly: data of servers; what the walk picks.
-/
import Derived.Test.YtnloommafgnanaaGreatQOrdB
import Derived.Test.YtnloommafgnanaaGreatQDataN
import Derived.Test.YtnloommafgnanaaGreatQRefH
namespace Go.Proofs.YtnloommafgnanaaGreat
open Go.RowKit Go.Shelf Go.Proofs.YtnloommafgnanaaGreat.nm Go.Proofs.YtnloommafgnanaaGreat.od

namespace po
theorem extract_extract0 (d : ByteArray) (a b : Nat) : (d.extract a d.size).extract b (d.extract a d.size).size = d.extract (a + b) d.size := by
  rw [ByteArray.extract_extract, ByteArray.size_extract]
  congr 1
  omega
theorem ext_all (x : ByteArray) (t : Nat) (h : x.size ≤ t) : x.extract 0 t = x := by
  apply ByteArray.ext
  rw [ByteArray.data_extract]
  apply Array.ext
  · simp; exact Nat.min_eq_right h
  · intro i h1 h2; simp
theorem srv_data {d : ByteArray} (h : dt.chkI 33 d = 0) : ∃ fs ps r0 s, dt.formF 33 = some fs ∧ dt.splitF fs d [] = some (ps, r0) ∧ dt.nameParts fs ps = [s] ∧ 6 ≤ d.size ∧ d.size ≤ 65535 ∧ s = d.extract 6 d.size := by
  have hfs : dt.formF 33 = some [.num 2, .num 2, .num 2, .host] := rfl
  unfold dt.chkI at h
  split at h
  · split at h
    · cases h
    · rename_i hs
      split at h
      · rename_i hf
        unfold dt.fits at hf
        rw [hfs] at hf
        simp only at hf
        split at hf
        · rename_i ps r0 hsp
          refine ⟨_, ps, r0, d.extract 6 d.size, hfs, hsp, ?_⟩
          have hr0 : r0.size = 0 := of_decide_eq_true hf
          simp only [dt.splitF] at hsp
          have ht : ∀ x : ByteArray, dt.takeI (.num 2) x = if (x.size : Int) < 2 then -1 else 2 := fun x => by unfold dt.takeI dt.numI; simp
          have two : (2 : Int).toNat = 2 := rfl
          rw [ht] at hsp
          by_cases h1 : (d.size : Int) < 2
          · rw [if_pos h1] at hsp; simp at hsp
          rw [if_neg h1, if_neg (by omega), two] at hsp
          have e1 : (d.extract 2 d.size).size = d.size - 2 := by rw [ByteArray.size_extract]; omega
          rw [ht] at hsp
          by_cases h2 : ((d.extract 2 d.size).size : Int) < 2
          · rw [if_pos h2] at hsp; simp at hsp
          rw [if_neg h2, if_neg (by omega), two, extract_extract0] at hsp
          have e2 : (d.extract (2 + 2) d.size).size = d.size - 4 := by rw [ByteArray.size_extract]; omega
          rw [ht] at hsp
          by_cases h3 : ((d.extract (2 + 2) d.size).size : Int) < 2
          · rw [if_pos h3] at hsp; simp at hsp
          rw [if_neg h3, if_neg (by omega), two, extract_extract0] at hsp
          have e3 : (d.extract (2 + 2 + 2) d.size).size = d.size - 6 := by rw [ByteArray.size_extract]; omega
          by_cases h4 : dt.takeI .host (d.extract (2 + 2 + 2) d.size) < 0
          · rw [if_pos h4] at hsp; simp at hsp
          rw [if_neg h4] at hsp
          simp only [List.nil_append, List.cons_append, Option.some.injEq, Prod.mk.injEq] at hsp
          obtain ⟨rfl, rfl⟩ := hsp
          rw [ByteArray.size_extract] at hr0
          refine ⟨?_, by omega, by omega, rfl⟩
          have hle : (d.extract (2 + 2 + 2) d.size).size ≤ (dt.takeI .host (d.extract (2 + 2 + 2) d.size)).toNat := by omega
          rw [ext_all _ _ hle]
          rfl
        · cases hf
      · cases h
  · cases h
/-- The weights of the first k. -/
def cum (l : List Rec) (k : Nat) : Int := ((l.take k).map fun x => numI x.data 1).sum
theorem cum_zero (l : List Rec) : cum l 0 = 0 := by simp [cum]
theorem cum_next {l : List Rec} {k : Nat} (h : k < l.length) : cum l (k + 1) = cum l k + numI (l[k]).data 1 := by
  unfold cum
  rw [List.take_succ_eq_append_getElem h, List.map_append, List.sum_append]
  simp only [List.map_cons, List.map_nil, List.sum_cons, List.sum_nil, Int.add_zero]
theorem cum_bd (l : List Rec) : ∀ k, 0 ≤ cum l k ∧ cum l k ≤ 65535 * (k : Int)
  | 0 => by rw [cum_zero]; omega
  | k + 1 => by
    have ih := cum_bd l k
    by_cases h : k < l.length
    · have := num_bd (l[k]).data 1
      rw [cum_next h]
      omega
    · have : cum l (k + 1) = cum l k := by unfold cum; rw [List.take_of_length_le (by omega), List.take_of_length_le (by omega)]
      omega
/-- The first n have the priority of the first, the next one (if there is one) hasn't. -/
structure IsGrp (l : List Rec) (n : Nat) : Prop where
  le : n ≤ l.length
  same : ∀ j (hj : j < l.length) (h0 : 0 < l.length), j < n → numI (l[j]).data 0 = numI (l[0]).data 0
  stop : ∀ (h : n < l.length) (h0 : 0 < l.length), numI (l[n]).data 0 ≠ numI (l[0]).data 0
def rollI (rolls : List Int) (sum : Int) : Int := (if rolls.headD 0 < 0 then -(rolls.headD 0 + 1) else rolls.headD 0) % (sum + 1)
structure PickAt (l : List Rec) (n : Nat) (r : Int) (k : Nat) : Prop where
  lt : k < n
  low : ∀ j, j < k → cum l (j + 1) < r
  high : r ≤ cum l (k + 1)
/-- What is picked, one behind the other. -/
inductive Run : List Rec → List Int → List Rec → Prop
  | done (rolls : List Int) : Run [] rolls []
  | next (l : List Rec) (rolls : List Int) (n k : Nat) (L : List Rec) (hk : k < l.length) (hn : IsGrp l n) (hp : PickAt l n (rollI rolls (cum l n)) k) (h : Run (l.eraseIdx k) rolls.tail L) : Run l rolls (l[k] :: L)
theorem erase_perm {α : Type} (l : List α) (k : Nat) (hk : k < l.length) : (l[k] :: l.eraseIdx k).Perm l := by
  rw [List.eraseIdx_eq_take_drop_succ]
  have h1 : (l[k] :: (l.take k ++ l.drop (k + 1))).Perm (l.take k ++ l[k] :: l.drop (k + 1)) := List.perm_middle.symm
  have h2 : l.take k ++ l[k] :: l.drop (k + 1) = l := by rw [← List.drop_eq_getElem_cons hk, List.take_append_drop]
  rw [h2] at h1
  exact h1
theorem run_props {l : List Rec} {rolls : List Int} {L : List Rec} (h : Run l rolls L) : L.Perm l ∧ (l.Pairwise (fun a b => numI a.data 0 ≤ numI b.data 0) → L.Pairwise (fun a b => numI a.data 0 ≤ numI b.data 0)) := by
  induction h with
  | done rolls => exact ⟨List.Perm.refl _, fun _ => List.Pairwise.nil⟩
  | next l rolls n k L hk hn hp h ih =>
    have hperm : (l[k] :: L).Perm l := (ih.1.cons l[k]).trans (erase_perm l k hk)
    refine ⟨hperm, fun hs => ?_⟩
    have hs2 : (l.eraseIdx k).Pairwise (fun a b => numI a.data 0 ≤ numI b.data 0) := hs.sublist (List.eraseIdx_sublist _ _)
    refine List.pairwise_cons.2 ⟨fun y hy => ?_, ih.2 hs2⟩
    have h0 : 0 < l.length := by omega
    rw [hn.same k hk h0 hp.lt]
    have hyl : y ∈ l := hperm.subset (List.mem_cons_of_mem _ hy)
    obtain ⟨j, hj, rfl⟩ := List.getElem_of_mem hyl
    rcases Nat.eq_zero_or_pos j with h | h
    · subst h; exact Int.le_refl _
    · exact List.pairwise_iff_getElem.1 hs 0 j h0 hj h
theorem run_len {l : List Rec} {rolls : List Int} {L : List Rec} (h : Run l rolls L) : L.length = l.length := (run_props h).1.length_eq
end po
end Go.Proofs.YtnloommafgnanaaGreat

/-
  The reference's numbers.
-/
namespace Go.Proofs.YtnloommafgnanaaGreat
open Go.RowKit Go.Shelf Go.Proofs.YtnloommafgnanaaGreat.nm Go.Proofs.YtnloommafgnanaaGreat.od

theorem sizeAt_ext (d : ByteArray) (a b k : Nat) (h : a + k < b) (hb : b ≤ d.size) : sizeAt (d.extract a b) k = sizeAt d (a + k) := by
  have h1 : k < (d.extract a b).size := by rw [ByteArray.size_extract]; omega
  rw [sizeAt_eq h1, sizeAt_eq (show a + k < d.size by omega), ByteArray.getElem_extract]
theorem val2 (d : ByteArray) (k : Nat) (h : 2 * k + 1 < d.size) : (dt.valN (d.extract (2 * k) (2 * k + 2)) (d.extract (2 * k) (2 * k + 2)).size : Int) = po.numI d k := by
  have hs : (d.extract (2 * k) (2 * k + 2)).size = 2 := by rw [ByteArray.size_extract]; omega
  rw [hs]
  unfold po.numI
  simp only [dt.valN]
  rw [sizeAt_ext d _ _ 0 (by omega) (by omega), sizeAt_ext d _ _ 1 (by omega) (by omega), Nat.add_zero, Nat.zero_mul, Nat.zero_add]
theorem rnumber_any (d : ByteArray) (k : Nat) (hk : 2 * k + 1 < d.size) (hz : d.size ≤ 9223372036854775807) (w : World) : Calls Tryz.prog 28 #[.string d, .int .i64 (k : Int)] w fun e w' => e = .returned (.int .i64 (po.numI d k)) ∧ w = w' := by
  have hv := val2 d k hk
  have hs : (d.extract (2 * k) (2 * k + 2)).size = 2 := by rw [ByteArray.size_extract]; omega
  obtain ⟨p, hp⟩ : ∃ p, p = 2 * k := ⟨_, rfl⟩
  obtain ⟨q, hq⟩ : ∃ q, q = 2 * k + 2 := ⟨_, rfl⟩
  rw [← hq, ← hp] at hv hs
  have w1 : IntKind.i64.wrap (2 * (k : Int)) = (p : Int) := by rw [IntKind.wrap_i64]; omega
  have w2 : IntKind.i64.wrap ((p : Int) + 2) = (q : Int) := by rw [IntKind.wrap_i64]; omega
  have e1 : 2 * (k : Int) = (p : Int) := by omega
  have e2 : (p : Int) + 2 = (q : Int) := by omega
  have i1 : (p : Int) ≤ (q : Int) := by omega
  have i2 : (q : Int) ≤ (d.size : Int) := by omega
  have i3 : p ≤ q := by omega
  have i4 : q ≤ d.size := by omega
  have CV := Lib.hid (rvalue_any (d.extract p q) (by omega) w)
  have HV := Lib.hid hv
  clear hv hs hp hq hk
  go_enter Tryz.func28, Tryz.ntmps28
  go_wp2_with fail
  refine CV.out.mono ?_
  rintro e w' ⟨rfl, rfl⟩
  rw [HV.out]
  go_wp2_with fail
  go_ret
  exact ⟨rfl, rfl⟩
end Go.Proofs.YtnloommafgnanaaGreat

/-
  gazetteerlaw11.PolicyTries, plainly: what Order picks is the set, in order, none twice.
-/
import Derived.Test.YtnloommafgnanaaQOrdE
namespace Go.Proofs.Ytnloommafgnanaa
open Go.RowKit Go.Shelf Go.Proofs.Ytnloommafgnanaa.nm Go.Proofs.Ytnloommafgnanaa.od Go.Proofs.Ytnloommafgnanaa.sm

namespace po
theorem fds_nodup (t : Int) : ∀ (l : List Rec) (acc : List ByteArray), (fds t l acc).length = acc.length + l.length → l.Nodup ∧ ∀ x ∈ l, dt.foldD t x.data ∉ acc
  | [], _, _ => ⟨List.nodup_nil, nofun⟩
  | x :: l, acc, h => by
    have h1 := fds_le t l (insK acc (dt.foldD t x.data))
    have h2 := ins_len acc (dt.foldD t x.data)
    simp only [fds, List.length_cons] at h
    by_cases hm : dt.foldD t x.data ∈ acc
    · rw [if_pos hm] at h2; omega
    · rw [if_neg hm] at h2
      obtain ⟨h3, h4⟩ := fds_nodup t l (insK acc (dt.foldD t x.data)) (by omega)
      refine ⟨List.nodup_cons.2 ⟨fun hx => ?_, h3⟩, fun y hy => ?_⟩
      · exact h4 x hx (zn.mem_insK.2 (.inr rfl))
      · rcases List.mem_cons.1 hy with rfl | hy
        · exact hm
        · exact fun he => h4 y hy (zn.mem_insK.2 (.inl he))
theorem set_nodup {t : Int} {l : List Rec} (h : setB t l = true) : l.Nodup := (fds_nodup t l [] (by have := (set_all h).2.2; simpa using this)).1
theorem low2 {d : ByteArray} (h : 2 ≤ d.size) : ∃ a b : UInt8, (d.extract 0 2).toList = [a, b] ∧ numI d 0 = ((a.toNat * 256 + b.toNat : Nat) : Int) := by
  refine ⟨d[0], d[1], ?_, ?_⟩
  · rw [Lib.toList_data, ByteArray.data_extract]
    obtain ⟨⟨l⟩⟩ := d
    match l, h with
    | a :: b :: t, _ => simp; exact ⟨rfl, rfl⟩
  · unfold numI
    rw [sizeAt_eq (show 2 * 0 < d.size by omega), sizeAt_eq (show 2 * 0 + 1 < d.size by omega)]
theorem gtr_num {x y : ByteArray} (hx : 2 ≤ x.size) (hy : 2 ≤ y.size) (h : numI x 0 ≤ numI y 0) : Op.bytesLess (x.extract 0 2).toList (y.extract 0 2).toList = true ∨ (x.extract 0 2).toList = (y.extract 0 2).toList := by
  obtain ⟨a, b, e1, n1⟩ := low2 hx
  obtain ⟨c, d, e2, n2⟩ := low2 hy
  rw [e1, e2]
  rw [n1, n2] at h
  have hb := UInt8.toNat_lt b; have hd := UInt8.toNat_lt d
  have h' : a.toNat * 256 + b.toNat ≤ c.toNat * 256 + d.toNat := by omega
  by_cases h1 : a < c
  · left; simp [Op.bytesLess, h1]
  · have h1' : ¬ a.toNat < c.toNat := fun h => h1 (UInt8.lt_iff_toNat_lt.2 h)
    have hac : a = c := UInt8.toNat_inj.1 (by omega)
    subst hac
    by_cases h2 : b < d
    · left; simp [Op.bytesLess, h2]
    · have h2' : ¬ b.toNat < d.toNat := fun h => h2 (UInt8.lt_iff_toNat_lt.2 h)
      have : b = d := UInt8.toNat_inj.1 (by omega)
      right; rw [this]
theorem stable_sorted {l : List Rec} {T : List (Rec × Nat)} (h : StableOf ordI l T) : (T.map (·.1)).Perm l ∧ (T.map (·.1)).Pairwise (fun a b => numI a.data 0 ≤ numI b.data 0) := by
  obtain ⟨h1, h2⟩ := h
  refine ⟨?_, ?_⟩
  · have := h1.map (·.1)
    rw [show l.zipIdx.map (·.1) = l from List.zipIdx_map_fst 0 l] at this
    exact this
  · rw [List.pairwise_map]
    refine h2.imp fun {x y} hxy => ?_
    have hn : ¬ ordI y.1 x.1 < 0 := fun hlt => by
      unfold tlt at hxy
      simp [hlt] at hxy
    have h3 := (not_congr (ord_lt y.1 x.1)).1 hn
    omega
theorem order_list {set : List Rec} {rolls : List Int} {L : List Rec} {c : Int} (h : OrdRes set rolls c L) (hL : 0 < L.length) : c = 0 ∧ L.Perm set ∧ set.Nodup ∧ L.Pairwise (fun a b => numI a.data 0 ≤ numI b.data 0) ∧ ∀ x ∈ L, 4 ≤ x.data.size ∧ x.data.size ≤ 65535 := by
  cases h with
  | bad h => simp at hL
  | root h hr => simp at hL
  | run h hr T L hT hrun =>
    obtain ⟨p1, p2⟩ := stable_sorted hT
    obtain ⟨q1, q2⟩ := run_props hrun
    have hp := q1.trans p1
    refine ⟨rfl, hp, set_nodup h, q2 p2, fun x hx => ?_⟩
    obtain ⟨_, _, _, _, _, _, _, q4, q5, _⟩ := srv_data (good_data ((set_all h).1 x (hp.subset hx)))
    exact ⟨q4, q5⟩
theorem cnt_next {l : List Rec} {x : Rec} {j : Nat} (h : j < l.length) : (l.take (j + 1)).count x = (l.take j).count x + if x = l[j] then 1 else 0 := by
  rw [List.take_succ_eq_append_getElem h, List.count_append, List.count_singleton]
  congr 1
  by_cases he : x = l[j]
  · rw [if_pos he, if_pos (by rw [he]; simp)]
  · rw [if_neg he, if_neg (by simpa using fun h => he h.symm)]
end po
end Go.Proofs.Ytnloommafgnanaa

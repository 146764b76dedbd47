/-
  The reference's zone: Names.
-/
import Derived.Test.YtpjoaghnciomeaaGreatRzC
import Derived.Test.YtpjoaghnciomeaaGreatRowP
import Derived.BigQuiet
namespace Go.Proofs.YtpjoaghnciomeaaGreat
open Go.RowKit Go.Shelf Go.Proofs.YtpjoaghnciomeaaGreat.nm Go.Proofs.YtpjoaghnciomeaaGreat.od

namespace zn
/-- A record that has a name alone. -/
abbrev nrec (n : ByteArray) : Rec := ⟨n, 0, 0, 0, ⟨#[]⟩⟩
/-- The names at and above a record's, from c labels on, m of them. -/
def namesTo (c : Nat) (r : Rec) (m : Nat) : List Rec := (List.range m).map fun j : Nat => nrec (foldS (tailS r.owner ((c + j : Nat) : Int)))
def namesAt (c : Nat) (r : Rec) : List Rec := if signsB r = true then [] else namesTo c r ((countI r.owner).toNat + 1 - c)
def allTo (c : Nat) (L : List Rec) (k : Nat) : List Rec := (L.take k).flatMap (namesAt c)
theorem namesTo_next (c : Nat) (r : Rec) (m : Nat) : namesTo c r (m + 1) = namesTo c r m ++ [nrec (foldS (tailS r.owner ((c + m : Nat) : Int)))] := by unfold namesTo; rw [List.range_succ, List.map_append]; rfl
theorem allTo_next {c : Nat} {L : List Rec} {k : Nat} (h : k < L.length) : allTo c L (k + 1) = allTo c L k ++ namesAt c L[k] := by
  unfold allTo
  rw [List.take_succ_eq_append_getElem h, List.flatMap_append]
  simp
theorem namesAt_len (c : Nat) (r : Rec) : (namesAt c r).length ≤ 256 := by
  unfold namesAt
  split
  · simp
  · have := countI_le r.owner
    simp [namesTo]
    omega
theorem allTo_len (c : Nat) (L : List Rec) : ∀ k, k ≤ L.length → (allTo c L k).length ≤ k * 256
  | 0, _ => by simp [allTo]
  | k + 1, h => by
    have h1 := allTo_len c L k (by omega)
    have h2 := namesAt_len c L[k]
    rw [allTo_next (by omega), List.length_append]
    omega
theorem tail_fold {s : ByteArray} {x : List (List UInt8)} (h : rows s = some x) {k : Nat} (hk : k ≤ x.length) : tailS (foldS s) k = foldS (tailS s k) := by
  have h1 := rows_fold h
  have h2 := (tail_row h1 (k := (k : Int)) (by omega) (by rw [lowR_len]; omega)).1
  rw [fold_tail h hk, h2, lowR_len, Int.toNat_natCast]
theorem names_ups {c : Nat} {r : Rec} {x : List (List UInt8)} (hx : rows r.owner = some x) (hs : signsB r = false) (hc : c ≤ x.length) (n : ByteArray) : (∃ y ∈ namesAt c r, y.owner = n) ↔ n ∈ ups c (foldS r.owner) := by
  have hcount : countI r.owner = x.length := count_of hx
  have hfc : countI (foldS r.owner) = x.length := by rw [count_of (rows_fold hx), lowR_len]
  unfold namesAt namesTo ups
  rw [if_neg (by rw [hs]; simp), hcount, hfc, Int.toNat_natCast]
  constructor
  · rintro ⟨y, hy, rfl⟩
    obtain ⟨j, hj, rfl⟩ := List.mem_map.1 hy
    rw [List.mem_range] at hj
    refine List.mem_map.2 ⟨x.length - (c + j), List.mem_range.2 (by omega), ?_⟩
    rw [show (x.length : Int) - ((x.length - (c + j) : Nat) : Int) = ((c + j : Nat) : Int) by omega]
    exact tail_fold hx (by omega)
  · intro hn
    obtain ⟨i, hi, rfl⟩ := List.mem_map.1 hn
    rw [List.mem_range] at hi
    refine ⟨nrec (foldS (tailS r.owner ((c + (x.length - i - c) : Nat) : Int))), List.mem_map.2 ⟨x.length - i - c, List.mem_range.2 (by omega), rfl⟩, ?_⟩
    show foldS _ = _
    rw [← tail_fold hx (by omega)]
    congr 1
    omega
theorem all_mem {apex : ByteArray} {L : List Rec} (hv : Valid apex L) (n : ByteArray) : (∃ y ∈ allTo (countI apex).toNat L L.length, y.owner = n) ↔ ∃ r ∈ L, signsB r = false ∧ n ∈ ups (countI apex).toNat (foldS r.owner) := by
  unfold allTo
  rw [List.take_length]
  have key : ∀ r ∈ L, (∃ y ∈ namesAt (countI apex).toNat r, y.owner = n) ↔ signsB r = false ∧ n ∈ ups (countI apex).toNat (foldS r.owner) := fun r hr => by
    obtain ⟨h1, _, h3⟩ := hv.each r hr
    obtain ⟨x, hx⟩ := rows_check h1
    obtain ⟨a, ha⟩ := rows_check (within_check h3).2
    have h4 := ((within_rows hx ha).1 h3).1
    cases hs : signsB r
    · rw [names_ups hx hs (by rw [count_of ha]; omega) n]
      simp
    · unfold namesAt
      rw [hs]
      simp
  constructor
  · rintro ⟨y, hy, hn⟩
    obtain ⟨r, hr, hy2⟩ := List.mem_flatMap.1 hy
    exact ⟨r, hr, (key r hr).1 ⟨y, hy2, hn⟩⟩
  · rintro ⟨r, hr, h⟩
    obtain ⟨y, hy, hn⟩ := (key r hr).2 h
    exact ⟨y, List.mem_flatMap.2 ⟨r, hr, hy⟩, hn⟩
theorem all_named {apex : ByteArray} {L : List Rec} (hv : Valid apex L) : ∀ y ∈ allTo (countI apex).toNat L L.length, checkB y.owner = true ∧ foldS y.owner = y.owner := fun y hy => by
  obtain ⟨h1, h2, _⟩ := there_name hv ((all_mem hv y.owner).1 ⟨y, hy, rfl⟩)
  exact ⟨h1, h2⟩
/-- The names of sorted records, each told once, as far as one has come. -/
structure DedI (S : List Rec) (i : Nat) (D : List ByteArray) : Prop where
  nd : D.Nodup
  so : D.Pairwise (fun a b => compareI a b ≤ 0)
  mem : ∀ n, n ∈ D ↔ ∃ j, ∃ h : j < S.length, j < i ∧ S[j].owner = n
  last : ∀ h : 0 < i, ∀ h' : i ≤ S.length, D.getLast? = some (S[i - 1]'(by omega)).owner
theorem DedI.start (S : List Rec) : DedI S 0 [] := ⟨List.nodup_nil, List.Pairwise.nil, fun n => by simp, fun h => by omega⟩
theorem DedI.empty {S : List Rec} {i : Nat} {D : List ByteArray} (h : DedI S i D) (hi : i ≤ S.length) : D = [] ↔ i = 0 := by
  constructor
  · intro e
    rcases Nat.eq_zero_or_pos i with h0 | h0
    · exact h0
    · have := h.last h0 hi
      rw [e] at this
      cases this
  · intro e
    subst e
    cases hD : D with
    | nil => rfl
    | cons a l =>
      have := (h.mem a).1 (by rw [hD]; exact List.mem_cons_self ..)
      obtain ⟨j, _, hj, _⟩ := this
      omega
theorem DedI.same {S : List Rec} {i : Nat} {D : List ByteArray} (h : DedI S i D) (hi : i < S.length) (h0 : 0 < i) (he : (S[i - 1]'(by omega)).owner = S[i].owner) : DedI S (i + 1) D := by
  refine ⟨h.nd, h.so, fun n => ?_, fun _ _ => ?_⟩
  · rw [h.mem]
    constructor
    · rintro ⟨j, hj, h1, h2⟩; exact ⟨j, hj, by omega, h2⟩
    · rintro ⟨j, hj, h1, h2⟩
      rcases Nat.lt_or_ge j i with h3 | h3
      · exact ⟨j, hj, h3, h2⟩
      · obtain rfl : j = i := by omega
        exact ⟨j - 1, by omega, by omega, by rw [he]; exact h2⟩
  · rw [h.last h0 (by omega), he]
    simp
theorem DedI.more {S : List Rec} {i : Nat} {D : List ByteArray} (h : DedI S i D) (hi : i < S.length) (hs : Sd S) (hn : ∀ y ∈ S, checkB y.owner = true ∧ foldS y.owner = y.owner) (he : ∀ h0 : 0 < i, (S[i - 1]'(by omega)).owner ≠ S[i].owner) : DedI S (i + 1) (D ++ [S[i].owner]) := by
  have hle : ∀ j (hj : j < S.length), j < i → compareI S[j].owner S[i].owner ≤ 0 := fun j hj hji => owners_le hs (fun r hr => (hn r hr).1) (by omega) hi
  have hnot : S[i].owner ∉ D := by
    intro hm
    obtain ⟨j, hj, hji, e⟩ := (h.mem _).1 hm
    have h0 : 0 < i := by omega
    apply he h0
    have h1 := owners_le hs (fun r hr => (hn r hr).1) (a := j) (b := i - 1) (by omega) (by omega)
    have h2 := hle (i - 1) (by omega) (by omega)
    rw [e] at h1
    have n1 := hn _ (List.getElem_mem (show i - 1 < S.length by omega))
    have n2 := hn _ (List.getElem_mem hi)
    have h3 := (names_cmp.le ⟨S[i].owner, n2.1⟩ ⟨(S[i - 1]'(by omega)).owner, n1.1⟩).1 h1
    have h4 : compareI (S[i - 1]'(by omega)).owner S[i].owner = 0 := by
      have : 0 ≤ compareI (S[i - 1]'(by omega)).owner S[i].owner := h3
      omega
    have h5 := (compareI_zero n1.1 n2.1).1 h4
    rw [n1.2, n2.2] at h5
    exact h5
  refine ⟨?_, ?_, fun n => ?_, fun _ _ => by simp⟩
  · exact List.nodup_append.2 ⟨h.nd, by simp, fun x hx y hy e => by rw [List.mem_singleton] at hy; exact hnot (hy ▸ e ▸ hx)⟩
  · refine List.pairwise_append.2 ⟨h.so, List.pairwise_singleton .., fun a ha b hb => ?_⟩
    rw [List.mem_singleton] at hb
    subst hb
    obtain ⟨j, hj, hji, rfl⟩ := (h.mem _).1 ha
    exact hle j hj hji
  · rw [List.mem_append, List.mem_singleton, h.mem]
    constructor
    · rintro (⟨j, hj, h1, h2⟩ | rfl)
      · exact ⟨j, hj, by omega, h2⟩
      · exact ⟨i, hi, by omega, rfl⟩
    · rintro ⟨j, hj, h1, h2⟩
      rcases Nat.lt_or_ge j i with h3 | h3
      · exact .inl ⟨j, hj, h3, h2⟩
      · obtain rfl : j = i := by omega
        exact .inr h2.symm
theorem DedI.done {apex : ByteArray} {L S : List Rec} {D : List ByteArray} (hv : Valid apex L) (hS : SortedOf (allTo (countI apex).toNat L L.length) S) (h : DedI S S.length D) : NamesOf apex L D := by
  refine ⟨h.nd, fun n => ?_, h.so⟩
  rw [h.mem, ← all_mem hv]
  constructor
  · rintro ⟨j, hj, _, e⟩; exact ⟨S[j], hS.1.mem_iff.1 (List.getElem_mem hj), e⟩
  · rintro ⟨y, hy, e⟩
    obtain ⟨j, hj, rfl⟩ := List.getElem_of_mem (hS.1.mem_iff.2 hy)
    exact ⟨j, hj, hj, e⟩
theorem DedI.len {S : List Rec} : ∀ {i : Nat} {D : List ByteArray}, DedI S i D → D.length ≤ S.length := fun {i D} h => by
  have h1 : D.length ≤ (S.map (·.owner)).length := nodup_length _ _ h.nd fun a ha => by
    obtain ⟨j, hj, _, e⟩ := (h.mem a).1 ha
    exact List.mem_map.2 ⟨S[j], List.getElem_mem hj, e⟩
  simpa using h1
end zn

/-- A name alone, as the code lays it. -/
theorem zn.nrec_cells (X : ByteArray) : recC (zn.nrec X) = [.string X, .int .i64 0, .int .i64 0, .int .i64 0, .string ⟨#[]⟩] := rfl
theorem zn.all_take {c : Nat} {L : List Rec} {k : Nat} (h : k < L.length) {m : Nat} (hs : zn.signsB L[k] = false) (hm : m = (countI L[k].owner).toNat + 1 - c) : zn.allTo c L (k + 1) = zn.allTo c L k ++ zn.namesTo c L[k] m := by
  rw [zn.allTo_next h, hm]
  congr 1
  unfold zn.namesAt
  rw [hs]
  rfl

set_option maxRecDepth 100000 in
set_option maxHeartbeats 4000000 in
theorem rnames_any (z : Nat) (apex : ByteArray) (L : List Rec) (hva : zn.Valid apex L) (w : World) (hz : RZone w z apex L) :
    Calls Tryz.prog 23 #[.pointer (some ⟨z, 0, none⟩)] w fun e w' => ∃ D, NamesOf apex L D ∧ NewNames D w e w' := by
  have hL := hva.small
  obtain ⟨g, cap, hzc, hrec⟩ := hz
  have hapz : apex.size ≤ 1099511627776 := by have := checkB_size hva.ap; omega
  have hsz : ∀ k (hk : k < L.length), L[k].owner.size ≤ 1099511627776 := fun k hk => by have := checkB_size (hva.named _ (List.getElem_mem hk)); omega
  have HC := Lib.hid (fun W (hB : Below w.heap.size w W) => rz_cells hzc hrec hB)
  obtain ⟨q0, q1, _, hcap⟩ := rz_cells hzc hrec (Below.refl _ _)
  have hcn : ∃ c : Nat, c = (countI apex).toNat ∧ countI apex = (c : Int) ∧ c ≤ 255 := by
    obtain ⟨a, ha⟩ := rows_check hva.ap
    have h1 := count_of ha
    have h2 := countI_le apex
    exact ⟨a.length, by rw [h1]; rfl, h1, by omega⟩
  obtain ⟨c, hc0, hce, hcl⟩ := hcn
  have hall := fun (S : List Rec) (D : List ByteArray) (hS : SortedOf (zn.allTo c L L.length) S) (h : zn.DedI S S.length D) => zn.DedI.done hva (hc0 ▸ hS) h
  have hnam := zn.all_named hva
  rw [← hc0] at hnam
  have hkn : ∀ k (hk : k < L.length), ∃ n : Nat, countI L[k].owner = (n : Int) ∧ n ≤ 255 := fun k hk => by
    obtain ⟨a, ha⟩ := rows_check (hva.named _ (List.getElem_mem hk))
    have h1 := count_of ha
    have h2 := countI_le L[k].owner
    exact ⟨a.length, h1, by omega⟩
  obtain ⟨i0_r, hi_r, hz_r, hz1_r, hz2_r⟩ := info_parts info_rec
  have HI_r := Lib.hid hi_r; have HZ_r := Lib.hid hz_r; have HZ1_r := Lib.hid hz1_r; have HZ2_r := Lib.hid hz2_r
  clear hi_r hz_r hz1_r hz2_r
  obtain ⟨i0_s, hi_s, hz_s, hz1_s, hz2_s⟩ := info_parts info_str
  have HI_s := Lib.hid hi_s; have HZ_s := Lib.hid hz_s; have HZ1_s := Lib.hid hz1_s; have HZ2_s := Lib.hid hz2_s
  clear hi_s hz_s hz1_s hz2_s
  have HZC := Lib.hid hzc; have HREC := Lib.hid hrec; have HVA := Lib.hid hva; have HSZ := Lib.hid hsz; have HC0 := Lib.hid hc0; have HCE := Lib.hid hce; have HALL := Lib.hid hall; have HNAM := Lib.hid hnam; have HKN := Lib.hid hkn
  clear hzc hrec hva hsz hc0 hce hall hnam hkn
  go_enter Tryz.func23, Tryz.ntmps23
  go_wp2_with fail
  clear q0 q1
  go_loopw [15, 3, 5, 6] (fun kv v _ _ wr => ∃ k : Nat, k ≤ L.length ∧ kv = .int .i64 (k : Int) ∧ wr.ownsRow w.heap.size 53 5 v (zn.allTo c L k).length (recsC (zn.allTo c L k)) ∧ Below w.heap.size w wr) (fun kv _ _ _ _ => L.length - (intOf kv).toNat)
  case atStart => exact ⟨0, Nat.zero_le _, rfl, World.ownsRow_nil _ _ _ _, Below.refl _ _⟩
  case round =>
    obtain ⟨k, hk, rfl, hown, hB⟩ := hrel
    obtain ⟨a, ca, rfl, _⟩ := ownsRow_len hown
    have hsr := hB.size
    have hln := zn.allTo_len c L k hk
    obtain ⟨A, hA⟩ : ∃ A, A = zn.allTo c L k := ⟨_, rfl⟩
    rw [← hA] at hown hln ⊢
    have HOWN := Lib.hid hown; have HB := Lib.hid hB; have HA := Lib.hid hA
    clear hown hB hA
    by_cases hlt : k < L.length
    · obtain ⟨c0, c1, c2, c3, c4⟩ := (HC.out wr HB.out).2.2.1 k hlt
      have hki : (k : Int) < (L.length : Int) := by omega
      obtain ⟨hBA0, _, hx⟩ := rec_new wr _ L[k] rfl
      have HBA := Lib.hid (HB.out.trans (hBA0.mono hsr))
      have HROWA := Lib.hid (ownsRow_below HOWN.out hBA0)
      have HNEA : Hid ((Value.slice a A.length ca).ownBlock ≠ some wr.heap.size) := Lib.hid fun h => by have := (HOWN.out.lt _ h).2; omega
      have hso := HSZ.out k hlt
      obtain ⟨n, hn, hnl⟩ := HKN.out k hlt
      have hnx : zn.signsB L[k] = false → zn.allTo c L (k + 1) = A ++ zn.namesTo c L[k] (n + 1 - c) := fun hs => by
        rw [HA.out]
        exact zn.all_take hlt hs (by rw [hn]; rfl)
      have hnx2 : zn.signsB L[k] = true → zn.allTo c L (k + 1) = A := fun hs => by
        rw [zn.allTo_next hlt, ← HA.out]
        unfold zn.namesAt
        rw [if_pos hs, List.append_nil]
      obtain ⟨wa, hwa⟩ : ∃ W, W = wr.alloc (.cells (recC L[k]).toArray 53) := ⟨_, rfl⟩
      rw [← hwa] at HBA HROWA hx
      have hsa := HBA.out.size
      have ltb : wr.heap.size < wa.heap.size := by rw [hwa]; simp
      clear hBA0
      obtain ⟨x0, x1, x2, x3, x4⟩ := id hx
      cases hs : zn.signsB L[k]
      · have hnx := hnx hs
        clear hnx2
        have HS := Lib.hid hs; have HX := Lib.hid hx; have HWA := Lib.hid hwa; have HNX := Lib.hid hnx; have HN := Lib.hid hn
        clear hs hx hwa hnx hn
        go_wp2_with fail
        rw [← HWA.out]
        refine (rcounts_any _ _).mono ?_
        rintro e w2 ⟨rfl, hB2⟩
        rw [HS.out]
        have HX2 := Lib.hid (HX.out.keep (hB2.block _ ltb))
        have HROW2 := Lib.hid (ownsRow_below HROWA.out hB2)
        have lt2 : wr.heap.size < w2.heap.size := by have h : wa.heap.size ≤ w2.heap.size := hB2.size; omega
        have HB2 := Lib.hid (HBA.out.trans (hB2.mono hsa))
        clear hB2 x0 x1 x2 x3 x4 c0 c1 c2 c3 c4
        have d0 := (HC.out w2 HB2.out).1
        go_wp2_with fail
        refine (rcount_any _ hapz _).mono ?_
        rintro e w3 ⟨rfl, hB3⟩
        rw [HCE.out]
        have HX3 := Lib.hid (HX2.out.keep (hB3.block _ lt2))
        have HROW3 := Lib.hid (ownsRow_below HROW2.out hB3)
        have lt3 : wr.heap.size < w3.heap.size := by have h : w2.heap.size ≤ w3.heap.size := hB3.size; omega
        have HB3 := Lib.hid (HB2.out.trans (hB3.mono HB2.out.size))
        clear hB3 d0
        go_wp2_with fail
        obtain ⟨bx, hbx⟩ : ∃ b : Nat, b = wr.heap.size := ⟨_, rfl⟩
        rw [← hbx] at HX3 lt3 HNEA
        rw [← hbx]
        clear HX2 HROW2 HB2 lt2 ltb hsa HX HROWA HBA
        obtain ⟨wo, hwo⟩ : ∃ wo : World, wo = wr := ⟨_, rfl⟩
        subst hwo
        have HBX := Lib.hid hbx
        clear hbx
        go_loopw [6, 3] (fun cv v wi => ∃ m : Nat, m ≤ n + 1 - c ∧ cv = .int .i64 ((c : Int) + (m : Int)) ∧ wi.ownsRow w.heap.size 53 5 v (A ++ zn.namesTo c L[k] m).length (recsC (A ++ zn.namesTo c L[k] m)) ∧ Below w.heap.size w wi ∧ RecAt wi bx 0 L[k] ∧ bx < wi.heap.size ∧ v.ownBlock ≠ some bx) (fun cv _ _ => n + 1 - (intOf cv).toNat)
        case atStart => exact ⟨0, Nat.zero_le _, by simp, by simpa [zn.namesTo] using HROW3.out, HB3.out, HX3.out, lt3, HNEA.out⟩
        case round =>
          obtain ⟨m, hm, rfl, hrow, hb, hxx, hgl, hne⟩ := hrel
          obtain ⟨av, capv, rfl, _⟩ := ownsRow_len hrow
          have hszr := hb.size
          have hlR : (A ++ zn.namesTo c L[k] m).length ≤ 600000 := by
            have : (zn.namesTo c L[k] m).length = m := by simp [zn.namesTo]
            rw [List.length_append]; omega
          obtain ⟨R, hR⟩ : ∃ R, R = A ++ zn.namesTo c L[k] m := ⟨_, rfl⟩
          rw [← hR] at hrow hne hlR ⊢
          have HR := Lib.hid hR
          clear hR
          obtain ⟨x0, x1, x2, x3, x4⟩ := id hxx
          have HXX := Lib.hid hxx; have HNE := Lib.hid hne; have HROW := Lib.hid hrow; have HB := Lib.hid hb
          clear hxx hne hrow hb
          go_wp2_with fail
          refine (rcount_any _ hso _).mono ?_
          rintro e w4 ⟨rfl, hB4⟩
          rw [HN.out]
          have HX4 := Lib.hid (HXX.out.keep (hB4.block _ hgl))
          have HROW4 := Lib.hid (ownsRow_below HROW.out hB4)
          have lt4 : bx < w4.heap.size := by have h : wr.heap.size ≤ w4.heap.size := hB4.size; omega
          have HB4 := Lib.hid (HB.out.trans (hB4.mono hszr))
          have hs4 := HB4.out.size
          clear hB4 x0 x1 x2 x3 x4
          by_cases hle : c + m ≤ n
          · have hle' : (c : Int) + (m : Int) ≤ (n : Int) := by omega
            obtain ⟨y0, y1, y2, y3, y4⟩ := id HX4.out
            have hnxt := zn.namesTo_next c L[k] m
            rw [show ((c + m : Nat) : Int) = (c : Int) + (m : Int) by omega] at hnxt
            obtain ⟨T, hT⟩ : ∃ T, T = tailS L[k].owner ((c : Int) + (m : Int)) := ⟨_, rfl⟩
            have hTs : T.size ≤ 1099511627776 := by have := tailS_size L[k].owner ((c : Int) + (m : Int)); rw [hT]; omega
            rw [← hT] at hnxt
            have HNXT := Lib.hid hnxt; have HT := Lib.hid hT
            clear hnxt hT
            go_wp2_with fail
            refine (rtail_any _ hso _ _).mono ?_
            rintro e w5 ⟨rfl, hB5⟩
            rw [← HT.out]
            have HX5 := Lib.hid (HX4.out.keep (hB5.block _ lt4))
            have HROW5 := Lib.hid (ownsRow_below HROW4.out hB5)
            have lt5 : bx < w5.heap.size := by have h : w4.heap.size ≤ w5.heap.size := hB5.size; omega
            have HB5 := Lib.hid (HB4.out.trans (hB5.mono hs4))
            have hs5 := HB5.out.size
            clear hB5 y0 y1 y2 y3 y4
            go_wp2_with fail
            refine (rfold_any _ hTs _).mono ?_
            rintro e w6 ⟨rfl, hB6⟩
            have HX6 := Lib.hid (HX5.out.keep (hB6.block _ lt5))
            have HROW6 := Lib.hid (ownsRow_below HROW5.out hB6)
            have lt6 : bx < w6.heap.size := by have h : w5.heap.size ≤ w6.heap.size := hB6.size; omega
            have HB6 := Lib.hid (HB5.out.trans (hB6.mono hs5))
            clear hB6
            have hR2 : A ++ zn.namesTo c L[k] (m + 1) = R ++ [zn.nrec (foldS T)] := by rw [HNXT.out, ← List.append_assoc, HR.out]
            have HR2 := Lib.hid hR2
            clear hR2
            have HB_a := Lib.hid (HB6.out.alloc HB6.out.size (.cells (recC (zn.nrec (foldS T))).toArray 53))
            have HO_a := Lib.hid (ownsRow_keepOne HROW6.out fun b hb => Below.heap_alloc w6 (.cells (recC (zn.nrec (foldS T))).toArray 53) b (HROW6.out.lt b hb).2)
            have P1_a := Lib.hid (show R.length + 1 ≤ maxLen from by unfold maxLen; omega)
            have P2_a := Lib.hid (show (R.length + 1) * 56 ≤ 140737488355328 from by omega)
            have P3_a := Lib.hid (show w.heap.size ≤ (w6.alloc (.cells (recC (zn.nrec (foldS T))).toArray 53)).heap.size from by have := HB6.out.size; simp; omega)
            have HNEWS_ := Lib.hid (news_at w6 (recC (zn.nrec (foldS T))) 53)
            go_wp2_with (at_builtin; refine wpList_append_new _ rfl _ _ 22 rfl w.heap.size 53 i0_r (.agg #[.string ⟨#[]⟩, .int .i64 0, .int .i64 0, .int .i64 0, .string ⟨#[]⟩]) 5 56 Tryz.underlying22 HI_r.out HZ_r.out HZ1_r.out HZ2_r.out rfl (by decide) _ _ _ rfl HO_a.out ⟨w6.heap.size, 0, none⟩ 1 1 (recC (zn.nrec (foldS T))) rfl rfl HNEWS_.out (by simp [Value.oneCell']) P1_a.out P2_a.out P3_a.out ?_)
            intro v' w10 hown10 hg10 hnn10
            have HB10 := Lib.hid (HB_a.out.grown hg10 P3_a.out (fun j hj => (HO_a.out.lt j hj).1))
            have HOWN10 := Lib.hid hown10; have HG10 := Lib.hid hg10; have HNN10 := Lib.hid hnn10
            clear hown10 hg10 hnn10 HB_a HO_a P1_a P2_a P3_a HNEWS_
            go_wp2_with fail
            go_roundw
            case rel =>
              have hlt7 : bx < (w6.alloc (.cells (recC (zn.nrec (foldS T))).toArray 53)).heap.size := by rw [World.size_alloc]; omega
              refine ⟨m + 1, by omega, by go_num, ?_, HB10.out, ?_, ?_, ?_⟩
              · have h := HOWN10.out
                rw [HR2.out, List.length_append, recsC_app]
                exact h
              · exact HX6.out.keep (by rw [HG10.out.block bx hlt7 (fun h => HNE.out h.symm), Below.heap_alloc _ _ _ lt6])
              · exact Nat.lt_of_lt_of_le hlt7 HG10.out.size
              · intro h
                rcases HNN10.out bx h with h | h
                · exact HNE.out h
                · exact absurd lt6 (by omega)
            case measure => simp [intOf]; omega
          · have hle' : (n : Int) < (c : Int) + (m : Int) := by omega
            obtain rfl : m = n + 1 - c := by omega
            go_wp2_with fail
            go_roundw
            case rel => exact ⟨k + 1, by omega, by go_num, by rw [HNX.out, ← HR.out]; exact HROW4.out, HB4.out⟩
            case measure => simp [intOf]; omega
      · have hnx := hnx2 hs
        clear hnx2
        have HS := Lib.hid hs; have HX := Lib.hid hx; have HWA := Lib.hid hwa; have HNX := Lib.hid hnx; have HN := Lib.hid hn
        clear hs hx hwa hnx hn
        go_wp2_with fail
        rw [← HWA.out]
        refine (rcounts_any _ _).mono ?_
        rintro e w2 ⟨rfl, hB2⟩
        rw [HS.out]
        have HROW2 := Lib.hid (ownsRow_below HROWA.out hB2)
        have HB2 := Lib.hid (HBA.out.trans (hB2.mono hsa))
        clear hB2 x0 x1 x2 x3 x4 c0 c1 c2 c3 c4
        go_wp2_with fail
        go_roundw
        case rel => exact ⟨k + 1, by omega, by go_num, by rw [HNX.out]; exact HROW2.out, HB2.out⟩
        case measure => simp [intOf]; omega
    · obtain rfl : k = L.length := by omega
      have hrv := owns_recs HOWN.out
      have hnm : zn.Named A := fun y hy => (HNAM.out y (HA.out ▸ hy)).1
      have hsrt := rsorted_any A.length A (Nat.le_refl _) (by omega) hnm (.slice a A.length ca) wr (owns_form HOWN.out) hrv
      have HSRT := Lib.hid hsrt; have HRV := Lib.hid hrv; have HNM := Lib.hid hnm
      clear hsrt hrv hnm
      go_wp2_with fail
      refine (HSRT.out).mono ?_
      rintro e w2 ⟨vs, S, rfl, hB2, hS, hownS⟩
      obtain ⟨sa, sc, rfl, _⟩ := ownsRow_len hownS
      have hSl : S.length ≤ 512000 := by have := hS.1.length_eq; omega
      have hSn : ∀ y ∈ S, checkB y.owner = true ∧ foldS y.owner = y.owner := fun y hy => HNAM.out y (by rw [← HA.out]; exact hS.1.mem_iff.1 hy)
      have hrs := owns_recs hownS
      have hfin : ∀ D, zn.DedI S S.length D → NamesOf apex L D := fun D h => HALL.out S D (by rw [← HA.out]; exact hS) h
      have HB2 := Lib.hid (HB.out.trans (hB2.mono hsr))
      have hs2 := HB2.out.size
      clear hB2
      have HRS := Lib.hid hrs; have HSN := Lib.hid hSn; have HS := Lib.hid hS; have HFIN := Lib.hid hfin; have HOWNS := Lib.hid hownS
      clear hrs hSn hS hfin hownS
      go_wp2_with fail
      go_loopw [47, 7, 9] (fun kv v _ wi => ∃ (i : Nat) (D : List ByteArray), i ≤ S.length ∧ kv = .int .i64 (i : Int) ∧ zn.DedI S i D ∧ wi.ownsRow w2.heap.size 9 1 v D.length (D.map .string) ∧ Below w2.heap.size w2 wi) (fun kv _ _ _ => S.length - (intOf kv).toNat)
      case atStart => exact ⟨0, [], Nat.zero_le _, rfl, zn.DedI.start S, World.ownsRow_nil _ _ _ _, Below.refl _ _⟩
      case round =>
        obtain ⟨i, D, hi, rfl, hD, hrow, hb⟩ := hrel
        obtain ⟨av, capv, rfl, hcapv⟩ := ownsRow_len hrow
        have hszr := hb.size
        have hDl := hD.len
        have HD := Lib.hid hD; have HROW := Lib.hid hrow; have HB := Lib.hid hb
        clear hD hrow hb
        by_cases hlt : i < S.length
        · obtain ⟨b2, o2, c2', hv2, hcc⟩ := recs_some HRS.out hlt
          simp only [Value.slice.injEq, true_and] at hv2
          obtain ⟨rfl, rfl⟩ := hv2
          have hca2 := (cells_at (HRS.out.below HB.out) hlt).2
          obtain ⟨c0, c1, c2, c3, c4⟩ := id hca2
          have hki : (i : Int) < (S.length : Int) := by omega
          obtain ⟨hBA0, _, hx⟩ := rec_new wr _ S[i] rfl
          have HBA := Lib.hid (HB.out.trans (hBA0.mono hszr))
          have HROWA := Lib.hid (ownsRow_below HROW.out hBA0)
          obtain ⟨wa, hwa⟩ : ∃ W, W = wr.alloc (.cells (recC S[i]).toArray 53) := ⟨_, rfl⟩
          rw [← hwa] at HBA HROWA hx
          have hsa := HBA.out.size
          clear hBA0
          obtain ⟨x0, x1, x2, x3, x4⟩ := id hx
          by_cases h0 : i = 0
          · have hD0 : D.length = 0 := by rw [(HD.out.empty hi).2 h0]; rfl
            have bl : ((D.length : Int) == 0) = true := by rw [beq_iff_eq]; omega
            have hmore := HD.out.more hlt HS.out.2 HSN.out (fun h => by omega)
            have HX := Lib.hid hx; have HWA := Lib.hid hwa; have HMORE := Lib.hid hmore; have HD0 := Lib.hid hD0; have H0 := Lib.hid h0
            clear hx hwa hmore hD0 h0
            go_wp2_with fail
            rw [← HWA.out]
            go_quiet (fail)
            have HBD := Lib.hid (belowD HBA.out nq)
            have HROWD := Lib.hid (ownsRow_keepOne HROWA.out fun b hb => rfl : (wa.drewN nq).ownsRow _ _ _ _ _ _)
            have HB_a := Lib.hid (HBD.out.alloc HBD.out.size (.cells #[.string S[i].owner] 9))
            have HO_a := Lib.hid (ownsRow_keepOne HROWD.out fun b hb => Below.heap_alloc (wa.drewN nq) (.cells #[.string S[i].owner] 9) b (HROWD.out.lt b hb).2)
            have P1_a := Lib.hid (show D.length + 1 ≤ maxLen from by unfold maxLen; omega)
            have P2_a := Lib.hid (show (D.length + 1) * 16 ≤ 140737488355328 from by omega)
            have P3_a := Lib.hid (show w2.heap.size ≤ ((wa.drewN nq).alloc (.cells #[.string S[i].owner] 9)).heap.size from by have := HBD.out.size; simp; omega)
            go_wp2_with (at_builtin; refine wpList_append_new _ rfl _ _ 40 rfl w2.heap.size 9 i0_s (.string ByteArray.empty) 1 16 Tryz.underlying40 HI_s.out HZ_s.out HZ1_s.out HZ2_s.out rfl (by decide) _ _ _ rfl HO_a.out ⟨(wa.drewN nq).heap.size, 0, none⟩ 1 1 [.string S[i].owner] rfl rfl (cell_one_new _ _ _) (by simp [Value.oneCell']) P1_a.out P2_a.out P3_a.out ?_)
            intro v' w10 hown10 hg10 hnn10
            have HB10 := Lib.hid (HB_a.out.grown hg10 P3_a.out (fun j hj => (HO_a.out.lt j hj).1))
            have HOWN10 := Lib.hid hown10; have HG10 := Lib.hid hg10; have HNN10 := Lib.hid hnn10
            clear hown10 hg10 hnn10 HB_a HO_a P1_a P2_a P3_a
            go_wp2_with fail
            go_roundw
            case rel =>
              refine ⟨i + 1, D ++ [S[i].owner], by omega, by go_num, HMORE.out, ?_, HB10.out⟩
              have h := HOWN10.out
              rw [List.length_append, List.map_append]
              exact h
            case measure => simp [intOf]; omega
          · have hDn : D ≠ [] := fun h => h0 ((HD.out.empty hi).1 h)
            have hDp : 0 < D.length := List.length_pos_iff.2 hDn
            have bl : ((D.length : Int) == 0) = false := by rw [beq_eq_false_iff_ne]; omega
            have hi1 : i - 1 < S.length := by omega
            have hlast : D.getLast? = some (S[i - 1]'hi1).owner := HD.out.last (by omega) hi
            rw [List.getLast?_eq_getElem?, List.getElem?_eq_getElem (by omega), Option.some.injEq] at hlast
            obtain ⟨gD, cD, hvD, _, hgD⟩ := HROW.out.form (by omega)
            simp only [Value.slice.injEq, true_and] at hvD
            obtain ⟨rfl, rfl⟩ := hvD
            have hcl2 := ownsRow_cells HROWA.out (D.length - 1) (by rw [List.length_map]; omega)
            rw [List.getElem_map, hlast] at hcl2
            have hj1 : (0 : Int) ≤ (D.length : Int) - 1 := by omega
            have hj2 : (D.length : Int) - 1 < (D.length : Int) := by omega
            have hj3 : ((D.length : Int) - 1).toNat = D.length - 1 := by omega
            have hj4 : IntKind.i64.wrap ((D.length : Int) - 1) = (D.length : Int) - 1 := IntWalk.i64_in _ (by omega)
            obtain ⟨Q, hQ⟩ : ∃ Q, Q = (S[i - 1]'hi1).owner := ⟨_, rfl⟩
            rw [← hQ] at hcl2
            clear hlast
            by_cases he : Q = S[i].owner
            · have q1 : (Q.toList == S[i].owner.toList) = true := str_eq.2 he
              have q2 : (Q.toList != S[i].owner.toList) = false := by rw [bne, q1]; rfl
              have hsame := HD.out.same hlt (by omega) (hQ ▸ he)
              have HX := Lib.hid hx; have HWA := Lib.hid hwa; have HSAME := Lib.hid hsame; have HDN := Lib.hid hDn; have H0 := Lib.hid h0; have HQ := Lib.hid hQ; have HE := Lib.hid he
              clear hx hwa hsame hDn h0 hQ he
              go_wp2_with fail
              rw [← HWA.out]
              go_quiet (fail)
              have HBD := Lib.hid (belowD HBA.out nq)
              have HROWD := Lib.hid (ownsRow_keepOne HROWA.out fun b hb => rfl : (wa.drewN nq).ownsRow _ _ _ _ _ _)
              go_wp2_with fail
              go_roundw
              case rel => exact ⟨i + 1, D, by omega, by go_num, HSAME.out, HROWD.out, HBD.out⟩
              case measure => simp [intOf]; omega
            · have q1 : (Q.toList == S[i].owner.toList) = false := str_ne he
              have q2 : (Q.toList != S[i].owner.toList) = true := by rw [bne, q1]; rfl
              have hmore := HD.out.more hlt HS.out.2 HSN.out (fun _ h => he (hQ.trans h))
              have HX := Lib.hid hx; have HWA := Lib.hid hwa; have HMORE := Lib.hid hmore; have HDN := Lib.hid hDn; have H0 := Lib.hid h0; have HQ := Lib.hid hQ; have HE := Lib.hid he
              clear hx hwa hmore hDn h0 hQ he
              go_wp2_with fail
              rw [← HWA.out]
              go_quiet (fail)
              have HBD := Lib.hid (belowD HBA.out nq)
              have HROWD := Lib.hid (ownsRow_keepOne HROWA.out fun b hb => rfl : (wa.drewN nq).ownsRow _ _ _ _ _ _)
              have HB_a := Lib.hid (HBD.out.alloc HBD.out.size (.cells #[.string S[i].owner] 9))
              have HO_a := Lib.hid (ownsRow_keepOne HROWD.out fun b hb => Below.heap_alloc (wa.drewN nq) (.cells #[.string S[i].owner] 9) b (HROWD.out.lt b hb).2)
              have P1_a := Lib.hid (show D.length + 1 ≤ maxLen from by unfold maxLen; omega)
              have P2_a := Lib.hid (show (D.length + 1) * 16 ≤ 140737488355328 from by omega)
              have P3_a := Lib.hid (show w2.heap.size ≤ ((wa.drewN nq).alloc (.cells #[.string S[i].owner] 9)).heap.size from by have := HBD.out.size; simp; omega)
              go_wp2_with (at_builtin; refine wpList_append_new _ rfl _ _ 40 rfl w2.heap.size 9 i0_s (.string ByteArray.empty) 1 16 Tryz.underlying40 HI_s.out HZ_s.out HZ1_s.out HZ2_s.out rfl (by decide) _ _ _ rfl HO_a.out ⟨(wa.drewN nq).heap.size, 0, none⟩ 1 1 [.string S[i].owner] rfl rfl (cell_one_new _ _ _) (by simp [Value.oneCell']) P1_a.out P2_a.out P3_a.out ?_)
              intro v' w10 hown10 hg10 hnn10
              have HB10 := Lib.hid (HB_a.out.grown hg10 P3_a.out (fun j hj => (HO_a.out.lt j hj).1))
              have HOWN10 := Lib.hid hown10; have HG10 := Lib.hid hg10; have HNN10 := Lib.hid hnn10
              clear hown10 hg10 hnn10 HB_a HO_a P1_a P2_a P3_a
              go_wp2_with fail
              go_roundw
              case rel =>
                refine ⟨i + 1, D ++ [S[i].owner], by omega, by go_num, HMORE.out, ?_, HB10.out⟩
                have h := HOWN10.out
                rw [List.length_append, List.map_append]
                exact h
              case measure => simp [intOf]; omega
        · obtain rfl : i = S.length := by omega
          have hpost : NamesOf apex L D ∧ NewNames D w (.returned (.slice av D.length capv)) wr := ⟨HFIN.out D HD.out, _, rfl, HB2.out.trans (HB.out.mono hs2), ownsRow_base HROW.out hs2⟩
          have HPOST := Lib.hid hpost
          clear hpost
          go_wp2_with fail
          go_ret
          exact ⟨D, HPOST.out⟩
end Go.Proofs.YtpjoaghnciomeaaGreat

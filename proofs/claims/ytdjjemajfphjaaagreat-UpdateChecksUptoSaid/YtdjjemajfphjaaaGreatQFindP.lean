import Derived.Test.YtdjjemajfphjaaaGreatQZoneM
namespace Go.Proofs.YtdjjemajfphjaaaGreat
open Go.RowKit Go.Shelf Go.WideMaps Go.Proofs.YtdjjemajfphjaaaGreat.nm Go.Proofs.YtdjjemajfphjaaaGreat.od
namespace zn
def thereB (c : Nat) (L : List Rec) (n : ByteArray) : Bool := decide (foldS n ∈ domT c L)
def owned (q : ByteArray) (l : List Rec) : List Rec := l.map fun r => { r with owner := q }
theorem fold_eq {a b : ByteArray} {x y : List (List UInt8)} (ha : rows a = some x) (hb : rows b = some y) : foldS a = foldS b ↔ lowR x = lowR y := by
  constructor
  · intro h
    have h1 := rows_fold ha
    rw [h, rows_fold hb] at h1
    exact (Option.some.inj h1).symm
  · intro h
    rw [foldS_row ha, foldS_row hb, h]
theorem equal_fold {a b : ByteArray} (ha : checkB a = true) (hb : checkB b = true) : equalB a b = true ↔ foldS a = foldS b := by
  obtain ⟨x, hx⟩ := rows_check ha
  obtain ⟨y, hy⟩ := rows_check hb
  rw [equal_rows hx hy, decide_eq_true_eq, fold_eq hx hy]
theorem lowR_len (x : List (List UInt8)) : (lowR x).length = x.length := by unfold lowR; simp
theorem ups_within {r n : ByteArray} {x y : List (List UInt8)} (hr : rows r = some x) (hn : rows n = some y) {c : Nat} (hc : c ≤ y.length) (hcx : c ≤ x.length) : foldS n ∈ ups c (foldS r) ↔ withinB r n = true := by
  have h1 := rows_fold hr
  have hl : (lowR x).length = x.length := lowR_len x
  rw [within_rows hr hn, foldS_row hn]
  unfold ups
  rw [count_of h1, hl, Int.toNat_natCast, List.mem_map]
  constructor
  · rintro ⟨i, hi, e⟩
    rw [List.mem_range] at hi
    have h2 := (tail_row h1 (k := (x.length : Int) - i) (by omega) (by omega)).2
    rw [e, ← foldS_row hn, rows_fold hn, hl] at h2
    have h3 := Option.some.inj h2
    have h4 := congrArg List.length h3
    rw [List.length_drop, lowR_len, hl] at h4
    refine ⟨by omega, ?_⟩
    rw [h3]
    congr 1
    omega
  · rintro ⟨h2, h3⟩
    refine ⟨x.length - y.length, List.mem_range.2 (by omega), ?_⟩
    rw [(tail_row h1 (by omega) (by omega)).1, hl, ← h3]
    congr 2
    omega
theorem fold_none {n : ByteArray} (h : checkB n = false) : foldS n = ByteArray.empty := by unfold foldS; rw [if_neg (by rw [h]; simp)]
theorem empty_check : checkB ByteArray.empty = false := by decide
structure Valid (apex : ByteArray) (L : List Rec) : Prop where
  ap : checkB apex = true
  small : L.length ≤ 2000
  each : ∀ r ∈ L, checkB r.owner = true ∧ bad1 r = false ∧ withinB r.owner apex = true
  rules : rulesR apex L = none
theorem Valid.named {apex : ByteArray} {L : List Rec} (h : Valid apex L) : Named L := fun r hr => (h.each r hr).1
theorem there_iff {apex : ByteArray} {L : List Rec} (hn : ∀ r ∈ L, checkB r.owner = true ∧ withinB r.owner apex = true) {n : ByteArray} (hc : checkB n = true) (hcn : countI apex ≤ countI n) :
    thereB (countI apex).toNat L n = true ↔ ∃ r ∈ L, signsB r = false ∧ withinB r.owner n = true := by
  unfold thereB
  rw [decide_eq_true_eq, mem_domT]
  obtain ⟨y, hy⟩ := rows_check hc
  refine exists_congr fun r => and_congr_right fun hr => and_congr_right fun _ => ?_
  obtain ⟨x, hx⟩ := rows_check (hn r hr).1
  obtain ⟨a, ha⟩ := rows_check (within_check (hn r hr).2).2
  have h1 := ((within_rows hx ha).1 (hn r hr).2).1
  rw [count_of ha, count_of hy] at hcn
  rw [count_of ha, Int.toNat_natCast]
  exact ups_within hx hy (by omega) h1
end zn
end Go.Proofs.YtdjjemajfphjaaaGreat
namespace Go.Proofs.YtdjjemajfphjaaaGreat
open Go.RowKit Go.Shelf Go.WideMaps Go.Proofs.YtdjjemajfphjaaaGreat.nm Go.Proofs.YtdjjemajfphjaaaGreat.od
namespace zn
theorem mem_rowsS {L : List Rec} {κ : Key} {r : Rec} : r ∈ rowsS L κ ↔ r ∈ L ∧ keyR r = κ := by
  unfold rowsS
  rw [List.mem_filter, decide_eq_true_eq]
theorem type_of {r : Rec} (h : bad1 r = false) : 1 ≤ r.typ ∧ r.typ ≤ 65535 ∧ r.typ ≠ 255 := by
  unfold bad1 at h
  simp only [Bool.not_eq_false', Bool.and_eq_true, decide_eq_true_eq] at h
  have h1 := h.2
  unfold dt.chkI at h1
  cases hh : dt.holdsB r.typ
  · rw [hh] at h1; simp at h1
  · unfold dt.holdsB at hh
    simp only [Bool.and_eq_true, Bool.or_eq_true, decide_eq_true_eq] at hh
    omega
theorem rules_parts {apex : ByteArray} {L : List Rec} (h : rulesR apex L = none) :
    firstB (twiceB L) L.length = none ∧ firstB (soaB apex L) L.length = none ∧ soaC L ≠ 0 ∧ rowsS L (foldS apex, 2) ≠ [] ∧ firstB (atB L bad3) L.length = none ∧ firstB (atB L (bad4 (allF L))) L.length = none ∧
      firstB (atB L (bad5 (foldS apex) (rowsS L) (belowF L))) L.length = none ∧ firstB (atB L (bad6 (rowsS L))) L.length = none := by
  unfold rulesR at h
  split at h
  · cases h
  · rename_i h1
    split at h
    · cases h
    · rename_i h2
      split at h
      · cases h
      · rename_i h3
        split at h
        · cases h
        · rename_i h4
          split at h
          · cases h
          · rename_i h5
            split at h
            · cases h
            · rename_i h6
              split at h
              · cases h
              · rename_i h7
                split at h
                · cases h
                · rename_i h8
                  exact ⟨h1, h2, h3, fun e => h4 (by rw [e]; rfl), h5, h6, h7, h8⟩
theorem at_all {L : List Rec} {bad : Rec → Bool} (h : firstB (atB L bad) L.length = none) : ∀ r ∈ L, bad r = false := fun r hr => by
  obtain ⟨k, hk, rfl⟩ := List.getElem_of_mem hr
  have := firstB_no h k hk
  rwa [atB_get hk] at this
end zn
end Go.Proofs.YtdjjemajfphjaaaGreat
namespace Go.Proofs.YtdjjemajfphjaaaGreat
open Go.RowKit Go.Shelf Go.WideMaps Go.Proofs.YtdjjemajfphjaaaGreat.nm Go.Proofs.YtdjjemajfphjaaaGreat.od
namespace zn
theorem firstB_iff {bad : Nat → Bool} {n : Nat} : firstB bad n = none ↔ ∀ j, j < n → bad j = false := ⟨firstB_no, firstB_none⟩
theorem at_iff {L : List Rec} {bad : Rec → Bool} : firstB (atB L bad) L.length = none ↔ ∀ r ∈ L, bad r = false := by
  refine ⟨at_all, fun h => firstB_none fun j hj => ?_⟩
  rw [atB_get hj]
  exact h _ (List.getElem_mem hj)
theorem mem_take_at {L : List Rec} {i j : Nat} (hij : i < j) (hj : j < L.length) : L[i]'(by omega) ∈ L.take j := by
  rw [List.mem_take_iff_getElem]
  exact ⟨i, by omega, rfl⟩
theorem twice_iff {L : List Rec} : firstB (twiceB L) L.length = none ↔ L.Pairwise (fun a b => fullR a ≠ fullR b) := by
  refine ⟨distinct_of, fun h => firstB_none fun j hj => ?_⟩
  rw [List.pairwise_iff_getElem] at h
  unfold twiceB
  rw [List.getElem?_eq_getElem hj]
  simp only [decide_eq_false_iff_not, Nat.not_lt, Nat.le_zero_eq]
  unfold cntFull
  rw [List.length_eq_zero_iff, List.filter_eq_nil_iff]
  intro r hr
  rw [List.mem_take_iff_getElem] at hr
  obtain ⟨i, hi, rfl⟩ := hr
  have := h i j (by omega) hj (by omega)
  simpa using this
theorem soaC_fold (L : List Rec) : ∀ c : Nat, L.foldl (fun c r => soaN r c) c = c + (L.filter fun r => decide (r.typ = 6)).length := by
  induction L with
  | nil => intro c; rfl
  | cons r L ih =>
    intro c
    rw [List.foldl_cons, ih, List.filter_cons]
    unfold soaN
    by_cases h : r.typ = 6
    · simp [h]; omega
    · simp [h]
theorem soaC_eq (L : List Rec) : soaC L = (L.filter fun r => decide (r.typ = 6)).length := by
  unfold soaC
  rw [soaC_fold]
  omega
theorem soa_iff {apex : ByteArray} {L : List Rec} : firstB (soaB apex L) L.length = none ↔ L.Pairwise (fun a b => ¬ (a.typ = 6 ∧ b.typ = 6)) ∧ ∀ r ∈ L, r.typ = 6 → equalB r.owner apex = true := by
  rw [firstB_iff]
  constructor
  · intro h
    refine ⟨?_, fun r hr h6 => ?_⟩
    · rw [List.pairwise_iff_getElem]
      rintro i j hi hj hij ⟨e1, e2⟩
      have := h j hj
      unfold soaB at this
      rw [List.getElem?_eq_getElem hj] at this
      unfold bad2 at this
      simp only [e2, decide_true, Bool.true_and, Bool.or_eq_false_iff, decide_eq_false_iff_not, Nat.not_lt, Nat.le_zero_eq] at this
      have h2 := this.1
      rw [soaC_eq, List.length_eq_zero_iff, List.filter_eq_nil_iff] at h2
      have := h2 _ (mem_take_at hij hj)
      simp [e1] at this
    · obtain ⟨j, hj, rfl⟩ := List.getElem_of_mem hr
      have := h j hj
      unfold soaB at this
      rw [List.getElem?_eq_getElem hj] at this
      unfold bad2 at this
      simp only [h6, decide_true, Bool.true_and, Bool.or_eq_false_iff, Bool.not_eq_false'] at this
      exact this.2
  · rintro ⟨h1, h2⟩ j hj
    unfold soaB
    rw [List.getElem?_eq_getElem hj]
    show bad2 apex (soaC (L.take j)) L[j] = false
    unfold bad2
    by_cases h6 : L[j].typ = 6
    · rw [h2 _ (List.getElem_mem hj) h6]
      have : soaC (L.take j) = 0 := by
        rw [soaC_eq, List.length_eq_zero_iff, List.filter_eq_nil_iff]
        intro r hr
        rw [List.mem_take_iff_getElem] at hr
        obtain ⟨i, hi, rfl⟩ := hr
        rw [List.pairwise_iff_getElem] at h1
        intro e
        exact h1 i j (by omega) hj (by omega) ⟨by simpa using e, h6⟩
      rw [this]
      simp
    · simp [h6]
theorem soaC_zero {L : List Rec} : soaC L = 0 ↔ ∀ r ∈ L, r.typ ≠ 6 := by
  rw [soaC_eq, List.length_eq_zero_iff, List.filter_eq_nil_iff]
  simp
theorem rows_nil {L L' : List Rec} (hp : L.Perm L') (κ : Key) : (rowsS L κ).length = (rowsS L' κ).length := (hp.filter _).length_eq
theorem all_perm {L L' : List Rec} (hp : L.Perm L') : allF L = allF L' := by
  funext n
  unfold allF
  rw [(hp.filter _).length_eq]
theorem below_perm {L L' : List Rec} (hp : L.Perm L') : belowF L = belowF L' := by
  funext n
  unfold belowF
  rw [((hp.flatMap_right _).filter _).length_eq]
theorem ttl_iff {L : List Rec} : (∀ r ∈ L, bad6 (rowsS L) r = false) ↔ ∀ r ∈ L, ∀ r' ∈ L, r.typ ≠ 46 → keyR r = keyR r' → r.ttl = r'.ttl := by
  have hd : ∀ r ∈ L, ∃ h ∈ L, keyR h = keyR r ∧ ((rowsS L (keyR r)).headD r) = h := fun r hr => by
    have hm : r ∈ rowsS L (keyR r) := mem_rowsS.2 ⟨hr, rfl⟩
    cases hc : rowsS L (keyR r) with
    | nil => rw [hc] at hm; simp at hm
    | cons h l =>
      have : h ∈ rowsS L (keyR r) := by rw [hc]; simp
      exact ⟨h, (mem_rowsS.1 this).1, (mem_rowsS.1 this).2, rfl⟩
  constructor
  · intro h r hr r' hr' ht hk
    have ht' : r'.typ ≠ 46 := by
      have : r.typ = r'.typ := congrArg Prod.snd hk
      rwa [← this]
    have h1 := h r hr
    have h2 := h r' hr'
    unfold bad6 at h1 h2
    simp only [ht, ht', decide_false, Bool.not_false, Bool.true_and, Bool.not_eq_false', decide_eq_true_eq] at h1 h2
    obtain ⟨a, _, _, ea⟩ := hd r hr
    obtain ⟨b, _, _, eb⟩ := hd r' hr'
    rw [ea] at h1
    rw [eb] at h2
    have : a = b := by
      rw [← ea, ← eb, hk]
      cases hc : rowsS L (keyR r') with
      | nil =>
        have hm : r' ∈ rowsS L (keyR r') := mem_rowsS.2 ⟨hr', rfl⟩
        rw [hc] at hm; simp at hm
      | cons => rfl
    rw [h1, h2, this]
  · intro h r hr
    obtain ⟨a, ha, hk, e⟩ := hd r hr
    unfold bad6
    by_cases ht : r.typ = 46
    · simp [ht]
    · rw [e, h r hr a ha ht hk.symm]
      simp
open Classical in
noncomputable def codeC (apex : ByteArray) (l : List Rec) : Option Int :=
  if checkB apex = false then some 1 else if 2000 < l.length then some 20
  else if ¬ (∀ r ∈ l, bad1 r = false) then some 8 else if ¬ (∀ r ∈ l, (!withinB r.owner apex) = false) then some 5
  else if ¬ l.Pairwise (fun a b => fullR a ≠ fullR b) then some 19
  else if ¬ (l.Pairwise (fun a b => ¬ (a.typ = 6 ∧ b.typ = 6)) ∧ ∀ r ∈ l, r.typ = 6 → equalB r.owner apex = true) then some 15
  else if (∀ r ∈ l, r.typ ≠ 6) then some 15
  else if (rowsS l (foldS apex, 2)).length = 0 then some 16
  else if ¬ (∀ r ∈ l, bad3 r = false) then some 22 else if ¬ (∀ r ∈ l, bad4 (allF l) r = false) then some 17
  else if ¬ (∀ r ∈ l, bad5 (foldS apex) (rowsS l) (belowF l) r = false) then some 18
  else if ¬ (∀ r ∈ l, ∀ r' ∈ l, r.typ ≠ 46 → keyR r = keyR r' → r.ttl = r'.ttl) then some 21 else none
theorem code_of (apex : ByteArray) (l : List Rec) : (newE apex l).map Prod.snd = codeC apex l := by
  unfold newE codeC
  by_cases h1 : checkB apex = false
  · rw [if_pos h1, if_pos h1]; rfl
  rw [if_neg h1, if_neg h1]
  by_cases h2 : 2000 < l.length
  · rw [if_pos h2, if_pos h2]; rfl
  rw [if_neg h2, if_neg h2]
  unfold plainR
  cases h3 : firstB (atB l bad1) l.length with
  | some k => rw [if_pos (fun h => by rw [at_iff.2 h] at h3; cases h3)]; rfl
  | none =>
    rw [if_neg (not_not_intro (at_iff.1 h3))]
    cases h4 : firstB (atB l fun r => !withinB r.owner apex) l.length with
    | some k => rw [if_pos (fun h => by rw [at_iff.2 h] at h4; cases h4)]; rfl
    | none =>
      rw [if_neg (not_not_intro (at_iff.1 h4))]
      show (rulesR apex l).map Prod.snd = _
      unfold rulesR
      cases h5 : firstB (twiceB l) l.length with
      | some k => rw [if_pos (fun h => by rw [twice_iff.2 h] at h5; cases h5)]; rfl
      | none =>
        rw [if_neg (not_not_intro (twice_iff.1 h5))]
        cases h6 : firstB (soaB apex l) l.length with
        | some k => rw [if_pos (fun h => by rw [soa_iff.2 h] at h6; cases h6)]; rfl
        | none =>
          rw [if_neg (not_not_intro (soa_iff.1 h6))]
          by_cases h7 : soaC l = 0
          · rw [if_pos (soaC_zero.1 h7)]
            simp only [if_pos h7]
            rfl
          · rw [if_neg (fun h => h7 (soaC_zero.2 h))]
            simp only [if_neg h7]
            by_cases h8 : (rowsS l (foldS apex, 2)).length = 0
            · rw [if_pos h8, if_pos h8]; rfl
            · rw [if_neg h8, if_neg h8]
              cases h9 : firstB (atB l bad3) l.length with
              | some k => rw [if_pos (fun h => by rw [at_iff.2 h] at h9; cases h9)]; rfl
              | none =>
                rw [if_neg (not_not_intro (at_iff.1 h9))]
                cases h10 : firstB (atB l (bad4 (allF l))) l.length with
                | some k => rw [if_pos (fun h => by rw [at_iff.2 h] at h10; cases h10)]; rfl
                | none =>
                  rw [if_neg (not_not_intro (at_iff.1 h10))]
                  cases h11 : firstB (atB l (bad5 (foldS apex) (rowsS l) (belowF l))) l.length with
                  | some k => rw [if_pos (fun h => by rw [at_iff.2 h] at h11; cases h11)]; rfl
                  | none =>
                    rw [if_neg (not_not_intro (at_iff.1 h11))]
                    cases h12 : firstB (atB l (bad6 (rowsS l))) l.length with
                    | some k => rw [if_pos (fun h => by rw [at_iff.2 (ttl_iff.2 h)] at h12; cases h12)]; rfl
                    | none => rw [if_neg (not_not_intro (ttl_iff.1 (at_iff.1 h12)))]; rfl
theorem bad5_perm {L L' : List Rec} (hp : L.Perm L') (low : ByteArray) (r : Rec) : bad5 low (rowsS L) (belowF L) r = bad5 low (rowsS L') (belowF L') r := by
  unfold bad5
  rw [rows_nil hp, below_perm hp]
theorem codeC_perm {apex : ByteArray} {l l' : List Rec} (hp : l.Perm l') : codeC apex l = codeC apex l' := by
  have e : ∀ P : Rec → Prop, (∀ r ∈ l, P r) ↔ (∀ r ∈ l', P r) := fun P => ⟨fun h r hr => h r (hp.mem_iff.2 hr), fun h r hr => h r (hp.mem_iff.1 hr)⟩
  unfold codeC
  have e1 : l.Pairwise (fun a b => fullR a ≠ fullR b) ↔ l'.Pairwise (fun a b => fullR a ≠ fullR b) := hp.pairwise_iff (fun h => Ne.symm h)
  have e2 : l.Pairwise (fun a b : Rec => ¬ (a.typ = 6 ∧ b.typ = 6)) ↔ l'.Pairwise (fun a b => ¬ (a.typ = 6 ∧ b.typ = 6)) := hp.pairwise_iff (fun h k => h ⟨k.2, k.1⟩)
  have e3 : (∀ r ∈ l, ∀ r' ∈ l, r.typ ≠ 46 → keyR r = keyR r' → r.ttl = r'.ttl) ↔ (∀ r ∈ l', ∀ r' ∈ l', r.typ ≠ 46 → keyR r = keyR r' → r.ttl = r'.ttl) := by
    rw [e]
    exact forall_congr' fun r => forall_congr' fun _ => e _
  simp only [e, e1, e2, hp.length_eq, rows_nil hp, all_perm hp, bad5_perm hp]
theorem newE_perm {apex : ByteArray} {l l' : List Rec} (hp : l.Perm l') : (newE apex l).map Prod.snd = (newE apex l').map Prod.snd := by rw [code_of, code_of, codeC_perm hp]
theorem newE_none {apex : ByteArray} {l : List Rec} : newE apex l = none ↔ (newE apex l).map Prod.snd = none := by simp
theorem valid_of {apex : ByteArray} {l : List Rec} (h : newE apex l = none) : Valid apex l := by
  unfold newE at h
  split at h
  · cases h
  · rename_i h1
    split at h
    · cases h
    · rename_i h2
      split at h
      · cases h
      · rename_i h3
        refine ⟨by simpa using h1, by omega, ?_, h⟩
        unfold plainR at h3
        split at h3
        · cases h3
        · rename_i h4
          split at h3
          · cases h3
          · rename_i h5
            intro r hr
            have a1 := at_all h4 r hr
            refine ⟨?_, a1, by simpa using at_all h5 r hr⟩
            unfold bad1 at a1
            simp only [Bool.not_eq_false', Bool.and_eq_true] at a1
            exact a1.1.1.1.1
theorem newE_of {apex : ByteArray} {l l' : List Rec} (hp : l.Perm l') (h : newE apex l = none) : newE apex l' = none := by
  rw [newE_none, ← newE_perm hp, ← newE_none]; exact h
end zn
end Go.Proofs.YtdjjemajfphjaaaGreat

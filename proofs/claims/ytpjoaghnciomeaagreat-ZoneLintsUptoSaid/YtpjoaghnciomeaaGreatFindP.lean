/-
  What a zone answers, plainly: what is found, what is there. No program in sight.
-/
import Derived.Test.YtpjoaghnciomeaaGreatZoneM
namespace Go.Proofs.YtpjoaghnciomeaaGreat
open Go.RowKit Go.Shelf Go.WideMaps Go.Proofs.YtpjoaghnciomeaaGreat.nm Go.Proofs.YtpjoaghnciomeaaGreat.od

namespace zn
/-- The records that count at a name; of a type, or of all. -/
def atL (L : List Rec) (n : ByteArray) (t : Int) : List Rec := if t = 255 then L.filter (fun r => equalB r.owner n && !signsB r) else rowsS L (foldS n, t)
/-- What is found. -/
structure Fnd where
  kind : Int
  owner : ByteArray
  encl : ByteArray
  wild : Bool
  recs : List Rec
def noFnd : Fnd := ⟨0, ByteArray.empty, ByteArray.empty, false, []⟩
def thereB (c : Nat) (L : List Rec) (n : ByteArray) : Bool := decide (foldS n ∈ domT c L)
/-- What stands at a name that is there. -/
def standsR (L : List Rec) (n : ByteArray) (t : Int) (o e : ByteArray) (w : Bool) : Fnd :=
  if atL L n 5 ≠ [] ∧ t ≠ 5 ∧ t ≠ 255 then ⟨2, o, e, w, atL L n 5⟩
  else if atL L n t ≠ [] then ⟨1, o, e, w, atL L n t⟩ else ⟨5, o, e, w, []⟩
/-- Does the way down end at the name of k labels? -/
def stopAt (L : List Rec) (q : ByteArray) (t : Int) (k : Nat) : Option Fnd :=
  if rowsS L (foldS (tailS q k), 2) ≠ [] ∧ (tailS q k ≠ q ∨ t ≠ 43) then some ⟨4, tailS q k, ByteArray.empty, false, rowsS L (foldS (tailS q k), 2)⟩
  else if rowsS L (foldS (tailS q k), 39) ≠ [] ∧ tailS q k ≠ q then some ⟨3, tailS q k, ByteArray.empty, false, rowsS L (foldS (tailS q k), 39)⟩
  else none
/-- The lowest name that is there, as far as one has come. -/
def enclTo (c : Nat) (L : List Rec) (q : ByteArray) : Nat → ByteArray
  | 0 => tailS q c
  | j + 1 => if thereB c L (tailS q ((c + (j + 1) : Nat) : Int)) = true then tailS q ((c + (j + 1) : Nat) : Int) else enclTo c L q j
def owned (q : ByteArray) (l : List Rec) : List Rec := l.map fun r => { r with owner := q }
def restR (c : Nat) (L : List Rec) (q : ByteArray) (t : Int) (e : ByteArray) : Fnd :=
  if e = q then standsR L q t q q false
  else if thereB c L (starS e) = true then { standsR L (starS e) t (starS e) e true with recs := owned q (standsR L (starS e) t (starS e) e true).recs }
  else ⟨6, q, e, false, []⟩
def findTo (c : Nat) (L : List Rec) (q : ByteArray) (t : Int) (m : Nat) : Option Fnd := (List.range m).findSome? fun j => stopAt L q t (c + (j + 1))
def findR (apex : ByteArray) (L : List Rec) (q : ByteArray) (t : Int) : Fnd :=
  if withinB q apex = true ∧ 1 ≤ t ∧ t ≤ 65535 then
    match findTo (countI apex).toNat L q t ((countI q).toNat - (countI apex).toNat) with
    | some f => f
    | none => restR (countI apex).toNat L q t (enclTo (countI apex).toNat L q ((countI q).toNat - (countI apex).toNat))
  else noFnd

theorem findTo_next (c : Nat) (L : List Rec) (q : ByteArray) (t : Int) (m : Nat) : findTo c L q t (m + 1) = (findTo c L q t m).or (stopAt L q t (c + (m + 1))) := by
  unfold findTo
  rw [List.range_succ, List.findSome?_append]
  congr 1
  rw [List.findSome?_cons, List.findSome?_nil]
  split <;> simp_all

/-! ### Names as rows -/
theorem fold_tail {s : ByteArray} {x : List (List UInt8)} (h : rows s = some x) {k : Nat} (hk : k ≤ x.length) : foldS (tailS s k) = nameOf ((lowR x).drop (x.length - k)) := by
  have h1 := (tail_row h (k := (k : Int)) (by omega) (by omega)).2
  rw [foldS_row h1, lowR_drop, Int.toNat_natCast]
theorem fold_eq {a b : ByteArray} {x y : List (List UInt8)} (ha : rows a = some x) (hb : rows b = some y) : foldS a = foldS b ↔ lowR x = lowR y := by
  constructor
  · intro h
    have h1 := rows_fold ha
    rw [h, rows_fold hb] at h1
    exact (Option.some.inj h1).symm
  · intro h
    rw [foldS_row ha, foldS_row hb, h]
theorem equal_fold {a b : ByteArray} (ha : checkB a = true) (hb : checkB b = true) : equalB a b = true ↔ foldS a = foldS b := by
  obtain ⟨x, hx⟩ := rows_check ha
  obtain ⟨y, hy⟩ := rows_check hb
  rw [equal_rows hx hy, decide_eq_true_eq, fold_eq hx hy]
theorem lowR_len (x : List (List UInt8)) : (lowR x).length = x.length := by unfold lowR; simp
theorem equal_within {a b : ByteArray} (ha : checkB a = true) (hb : checkB b = true) (h : foldS a = foldS b) : withinB a b = true := by
  obtain ⟨x, hx⟩ := rows_check ha
  obtain ⟨y, hy⟩ := rows_check hb
  have h1 := (fold_eq hx hy).1 h
  have h2 : x.length = y.length := by rw [← lowR_len x, h1, lowR_len]
  rw [within_rows hx hy]
  exact ⟨by omega, by rw [h1]; simp [h2]⟩
/-- A name is among those above another just if that is within it. -/
theorem ups_within {r n : ByteArray} {x y : List (List UInt8)} (hr : rows r = some x) (hn : rows n = some y) {c : Nat} (hc : c ≤ y.length) (hcx : c ≤ x.length) : foldS n ∈ ups c (foldS r) ↔ withinB r n = true := by
  have h1 := rows_fold hr
  have hl : (lowR x).length = x.length := lowR_len x
  rw [within_rows hr hn, foldS_row hn]
  unfold ups
  rw [count_of h1, hl, Int.toNat_natCast, List.mem_map]
  constructor
  · rintro ⟨i, hi, e⟩
    rw [List.mem_range] at hi
    have h2 := (tail_row h1 (k := (x.length : Int) - i) (by omega) (by omega)).2
    rw [e, ← foldS_row hn, rows_fold hn, hl] at h2
    have h3 := Option.some.inj h2
    have h4 := congrArg List.length h3
    rw [List.length_drop, lowR_len, hl] at h4
    refine ⟨by omega, ?_⟩
    rw [h3]
    congr 1
    omega
  · rintro ⟨h2, h3⟩
    refine ⟨x.length - y.length, List.mem_range.2 (by omega), ?_⟩
    rw [(tail_row h1 (by omega) (by omega)).1, hl, ← h3]
    congr 2
    omega
theorem fold_none {n : ByteArray} (h : checkB n = false) : foldS n = ByteArray.empty := by unfold foldS; rw [if_neg (by rw [h]; simp)]
theorem empty_check : checkB ByteArray.empty = false := by decide

/-- A zone's own facts. -/
structure Valid (apex : ByteArray) (L : List Rec) : Prop where
  ap : checkB apex = true
  small : L.length ≤ 2000
  each : ∀ r ∈ L, checkB r.owner = true ∧ bad1 r = false ∧ withinB r.owner apex = true
  rules : rulesR apex L = none
theorem Valid.named {apex : ByteArray} {L : List Rec} (h : Valid apex L) : Named L := fun r hr => (h.each r hr).1

/-- Within a zone, a name is there just if a record that counts stands at it or below. -/
theorem there_iff {apex : ByteArray} {L : List Rec} (hn : ∀ r ∈ L, checkB r.owner = true ∧ withinB r.owner apex = true) {n : ByteArray} (hc : checkB n = true) (hcn : countI apex ≤ countI n) :
    thereB (countI apex).toNat L n = true ↔ ∃ r ∈ L, signsB r = false ∧ withinB r.owner n = true := by
  unfold thereB
  rw [decide_eq_true_eq, mem_domT]
  obtain ⟨y, hy⟩ := rows_check hc
  refine exists_congr fun r => and_congr_right fun hr => and_congr_right fun _ => ?_
  obtain ⟨x, hx⟩ := rows_check (hn r hr).1
  obtain ⟨a, ha⟩ := rows_check (within_check (hn r hr).2).2
  have h1 := ((within_rows hx ha).1 (hn r hr).2).1
  rw [count_of ha, count_of hy] at hcn
  rw [count_of ha, Int.toNat_natCast]
  exact ups_within hx hy (by omega) h1
theorem there_none {c : Nat} {L : List Rec} (hn : ∀ r ∈ L, checkB r.owner = true) {n : ByteArray} (hc : checkB n = false) : thereB c L n = false := by
  unfold thereB
  rw [decide_eq_false_iff_not, mem_domT]
  rintro ⟨r, hr, _, hu⟩
  rw [fold_none hc] at hu
  unfold ups at hu
  obtain ⟨i, hi, e⟩ := List.mem_map.1 hu
  obtain ⟨x, hx⟩ := rows_check (hn r hr)
  have h1 := rows_fold hx
  rw [List.mem_range, count_of h1, Int.toNat_natCast] at hi
  rw [count_of h1] at e
  have h2 := (tail_row h1 (k := ((lowR x).length : Int) - i) (by omega) (by omega)).2
  rw [e] at h2
  have := check_of h2
  rw [empty_check] at this
  cases this
end zn
end Go.Proofs.YtpjoaghnciomeaaGreat
/-
  What a zone gives, and what is absent, plainly. No program in sight.
-/
namespace Go.Proofs.YtpjoaghnciomeaaGreat
open Go.RowKit Go.Shelf Go.WideMaps Go.Proofs.YtpjoaghnciomeaaGreat.nm Go.Proofs.YtpjoaghnciomeaaGreat.od

namespace zn
theorem encl_spec (c : Nat) (L : List Rec) (q : ByteArray) : ∀ m : Nat, ∃ k : Nat, k ≤ m ∧ enclTo c L q m = tailS q ((c + k : Nat) : Int) ∧ (∀ j : Nat, k < j → j ≤ m → thereB c L (tailS q ((c + j : Nat) : Int)) = false) ∧ (k = 0 ∨ thereB c L (tailS q ((c + k : Nat) : Int)) = true)
  | 0 => ⟨0, Nat.le_refl _, rfl, fun j h1 h2 => absurd h1 (by omega), .inl rfl⟩
  | m + 1 => by
    rw [enclTo]
    by_cases h : thereB c L (tailS q ((c + (m + 1) : Nat) : Int)) = true
    · rw [if_pos h]
      exact ⟨m + 1, Nat.le_refl _, rfl, fun j h1 h2 => absurd h1 (by omega), .inr h⟩
    · rw [if_neg h]
      obtain ⟨k, h1, h2, h3, h4⟩ := encl_spec c L q m
      refine ⟨k, by omega, h2, fun j hj hm => ?_, h4⟩
      by_cases e : j = m + 1
      · subst e; simpa using h
      · exact h3 j hj (by omega)

/-- A question within a zone: its labels. -/
structure AskIn (apex q : ByteArray) (x a : List (List UInt8)) : Prop where
  q : rows q = some x
  apex : rows apex = some a
  le : a.length ≤ x.length
theorem ask_in {apex q : ByteArray} (h : withinB q apex = true) : ∃ x a, AskIn apex q x a := by
  obtain ⟨x, hx⟩ := rows_check (within_check h).1
  obtain ⟨a, ha⟩ := rows_check (within_check h).2
  exact ⟨x, a, hx, ha, ((within_rows hx ha).1 h).1⟩

/-- How a question ends. -/
theorem find_cases (apex : ByteArray) (L : List Rec) (q : ByteArray) (t : Int) {x a : List (List UInt8)} (hw : withinB q apex = true) (h : AskIn apex q x a) (ht : 1 ≤ t ∧ t ≤ 65535) :
    (∃ k : Nat, a.length < k ∧ k ≤ x.length ∧ stopAt L q t k = some (findR apex L q t)) ∨
    findR apex L q t = restR a.length L q t (enclTo a.length L q (x.length - a.length)) := by
  unfold findR
  rw [if_pos ⟨hw, ht⟩, count_of h.q, count_of h.apex, Int.toNat_natCast, Int.toNat_natCast]
  cases hf : findTo a.length L q t (x.length - a.length) with
  | none => exact .inr rfl
  | some f =>
    left
    unfold findTo at hf
    obtain ⟨j, hj, e⟩ := List.exists_of_findSome?_eq_some hf
    rw [List.mem_range] at hj
    exact ⟨a.length + (j + 1), by omega, by omega, e⟩
theorem stop_kind {L : List Rec} {q : ByteArray} {t : Int} {k : Nat} {f : Fnd} (h : stopAt L q t k = some f) :
    f.wild = false ∧ ((f.kind = 4 ∧ f.recs = rowsS L (foldS (tailS q k), 2)) ∨ (f.kind = 3 ∧ f.recs = rowsS L (foldS (tailS q k), 39))) := by
  unfold stopAt at h
  split at h
  · cases h; exact ⟨rfl, .inl ⟨rfl, rfl⟩⟩
  · split at h
    · cases h; exact ⟨rfl, .inr ⟨rfl, rfl⟩⟩
    · cases h
theorem stands_kind (L : List Rec) (n : ByteArray) (t : Int) (o e : ByteArray) (w : Bool) :
    (standsR L n t o e w).owner = o ∧ (standsR L n t o e w).encl = e ∧ (standsR L n t o e w).wild = w ∧
    (((standsR L n t o e w).kind = 2 ∧ (standsR L n t o e w).recs = atL L n 5 ∧ atL L n 5 ≠ [] ∧ t ≠ 5 ∧ t ≠ 255) ∨
     ((standsR L n t o e w).kind = 1 ∧ (standsR L n t o e w).recs = atL L n t) ∨
     ((standsR L n t o e w).kind = 5 ∧ (standsR L n t o e w).recs = [] ∧ atL L n t = [])) := by
  unfold standsR
  split
  · rename_i h
    exact ⟨rfl, rfl, rfl, .inl ⟨rfl, rfl, h.1, h.2.1, h.2.2⟩⟩
  · split
    · exact ⟨rfl, rfl, rfl, .inr (.inl ⟨rfl, rfl⟩)⟩
    · rename_i h
      exact ⟨rfl, rfl, rfl, .inr (.inr ⟨rfl, rfl, by simpa using h⟩)⟩
theorem mem_rowsS {L : List Rec} {κ : Key} {r : Rec} : r ∈ rowsS L κ ↔ r ∈ L ∧ keyR r = κ := by
  unfold rowsS
  rw [List.mem_filter, decide_eq_true_eq]
theorem mem_atL {L : List Rec} {n : ByteArray} {t : Int} {r : Rec} (h : r ∈ atL L n t) : r ∈ L ∧ (equalB r.owner n = true ∨ foldS r.owner = foldS n) := by
  unfold atL at h
  split at h
  · rw [List.mem_filter, Bool.and_eq_true] at h
    exact ⟨h.1, .inl h.2.1⟩
  · have := mem_rowsS.1 h
    exact ⟨this.1, .inr (congrArg Prod.fst this.2)⟩
theorem mem_atL' {L : List Rec} {n : ByteArray} {t : Int} {r : Rec} (hr : checkB r.owner = true) (hn : checkB n = true) (h : r ∈ atL L n t) : r ∈ L ∧ foldS r.owner = foldS n := by
  obtain ⟨h1, h2⟩ := mem_atL h
  exact ⟨h1, h2.elim (fun e => (equal_fold hr hn).1 e) id⟩
theorem atL_mem {L : List Rec} {n : ByteArray} {t : Int} {r : Rec} (hr : r ∈ L) (he : equalB r.owner n = true) (hs : signsB r = false) (ht : r.typ = t ∨ t = 255) : r ∈ atL L n t := by
  unfold atL
  have hf := (equal_fold (equal_check he).1 (equal_check he).2).1 he
  split
  · rw [List.mem_filter, Bool.and_eq_true, he, hs]
    exact ⟨hr, rfl, rfl⟩
  · rename_i h
    rw [mem_rowsS]
    exact ⟨hr, by unfold keyR; rw [hf, ht.resolve_right h]⟩
theorem type_of {r : Rec} (h : bad1 r = false) : 1 ≤ r.typ ∧ r.typ ≤ 65535 ∧ r.typ ≠ 255 := by
  unfold bad1 at h
  simp only [Bool.not_eq_false', Bool.and_eq_true, decide_eq_true_eq] at h
  have h1 := h.2
  unfold dt.chkI at h1
  cases hh : dt.holdsB r.typ
  · rw [hh] at h1; simp at h1
  · unfold dt.holdsB at hh
    simp only [Bool.and_eq_true, Bool.or_eq_true, decide_eq_true_eq] at hh
    omega
theorem two_le {α : Type} {l : List α} {a b : α} (ha : a ∈ l) (hb : b ∈ l) (h : a ≠ b) : 2 ≤ l.length := by
  match l with
  | [] => simp at ha
  | [x] => simp at ha hb; exact absurd (ha.trans hb.symm) h
  | _ :: _ :: _ => simp
theorem rules_parts {apex : ByteArray} {L : List Rec} (h : rulesR apex L = none) :
    firstB (twiceB L) L.length = none ∧ firstB (soaB apex L) L.length = none ∧ soaC L ≠ 0 ∧ rowsS L (foldS apex, 2) ≠ [] ∧ firstB (atB L bad3) L.length = none ∧ firstB (atB L (bad4 (allF L))) L.length = none ∧
      firstB (atB L (bad5 (foldS apex) (rowsS L) (belowF L))) L.length = none ∧ firstB (atB L (bad6 (rowsS L))) L.length = none := by
  unfold rulesR at h
  split at h
  · cases h
  · rename_i h1
    split at h
    · cases h
    · rename_i h2
      split at h
      · cases h
      · rename_i h3
        split at h
        · cases h
        · rename_i h4
          split at h
          · cases h
          · rename_i h5
            split at h
            · cases h
            · rename_i h6
              split at h
              · cases h
              · rename_i h7
                split at h
                · cases h
                · rename_i h8
                  exact ⟨h1, h2, h3, fun e => h4 (by rw [e]; rfl), h5, h6, h7, h8⟩
theorem at_all {L : List Rec} {bad : Rec → Bool} (h : firstB (atB L bad) L.length = none) : ∀ r ∈ L, bad r = false := fun r hr => by
  obtain ⟨k, hk, rfl⟩ := List.getElem_of_mem hr
  have := firstB_no h k hk
  rwa [atB_get hk] at this
theorem there_self {apex : ByteArray} {L : List Rec} (hv : Valid apex L) {r : Rec} (hr : r ∈ L) (hs : signsB r = false) : thereB (countI apex).toNat L r.owner = true := by
  obtain ⟨x, a, hx⟩ := ask_in (hv.each r hr).2.2
  refine (there_iff (fun r hr => ⟨(hv.each r hr).1, (hv.each r hr).2.2⟩) (hv.each r hr).1 ?_).2 ⟨r, hr, hs, equal_within (hv.each r hr).1 (hv.each r hr).1 rfl⟩
  rw [count_of hx.apex, count_of hx.q]
  have := hx.le
  omega
theorem encl_q {q : ByteArray} {x : List (List UInt8)} {c : Nat} (hx : rows q = some x) (hc : c ≤ x.length) (L : List Rec) (h : thereB c L q = true) : enclTo c L q (x.length - c) = q := by
  obtain ⟨k, h1, h2, h3, h4⟩ := encl_spec c L q (x.length - c)
  have hq : tailS q ((c + (x.length - c) : Nat) : Int) = q := by rw [show c + (x.length - c) = x.length by omega]; exact tail_self hx
  by_cases hk : k = x.length - c
  · rw [h2, hk, hq]
  · have := h3 (x.length - c) (by omega) (Nat.le_refl _)
    rw [hq, h] at this
    cases this

/-- What stands in a zone is found. -/
theorem gives1 {apex : ByteArray} {L : List Rec} (hv : Valid apex L) {r : Rec} (hr : r ∈ L) :
    (findR apex L r.owner r.typ).kind = 4 ∨ (findR apex L r.owner r.typ).kind = 3 ∨ signsB r = true ∨ ((findR apex L r.owner r.typ).kind = 2 ∧ (r.typ = 46 ∨ r.typ = 47)) ∨
    (r ∈ (findR apex L r.owner r.typ).recs ∧ (findR apex L r.owner r.typ).kind = 1 ∧ (findR apex L r.owner r.typ).wild = false) := by
  obtain ⟨h1, h2, h3⟩ := hv.each r hr
  obtain ⟨x, a, hx⟩ := ask_in h3
  have ht := type_of h2
  rcases find_cases apex L r.owner r.typ h3 hx ⟨ht.1, ht.2.1⟩ with ⟨k, _, _, h⟩ | h
  · rcases (stop_kind h).2 with h | h
    · exact .inl h.1
    · exact .inr (.inl h.1)
  · cases hs : signsB r
    · have hth := there_self hv hr hs
      rw [count_of hx.apex, Int.toNat_natCast] at hth
      rw [encl_q hx.q hx.le L hth] at h
      unfold restR at h
      rw [if_pos rfl] at h
      rw [h]
      obtain ⟨_, _, g3, g⟩ := stands_kind L r.owner r.typ r.owner r.owner false
      have hm : r ∈ atL L r.owner r.typ := atL_mem hr ((equal_fold h1 h1).2 rfl) hs (.inl rfl)
      rcases g with ⟨k1, k2, k3, k4, k5⟩ | ⟨k1, k2⟩ | ⟨k1, k2, k3⟩
      · refine .inr (.inr (.inr (.inl ⟨k1, ?_⟩)))
        obtain ⟨y, hy⟩ := List.exists_mem_of_ne_nil _ k3
        have hy' : y ∈ rowsS L (foldS r.owner, 5) := by
          have := hy
          unfold atL at this
          rwa [if_neg (by decide)] at this
        obtain ⟨y1, y2⟩ := mem_rowsS.1 hy'
        have y3 : foldS y.owner = foldS r.owner := congrArg Prod.fst y2
        have y4 : y.typ = 5 := congrArg Prod.snd y2
        have hb := at_all (rules_parts hv.rules).2.2.2.2.2.1 y y1
        unfold bad4 at hb
        rw [decide_eq_true y4, Bool.true_and, decide_eq_false_iff_not, y3] at hb
        apply Classical.byContradiction
        intro hne
        apply hb
        unfold allF
        have : 2 ≤ (L.filter fun z => !decide (z.typ = 46) && !decide (z.typ = 47) && decide (foldS z.owner = foldS r.owner)).length := by
          refine two_le (a := y) (b := r) (List.mem_filter.2 ⟨y1, ?_⟩) (List.mem_filter.2 ⟨hr, ?_⟩) (fun e => k4 (by rw [← e]; exact y4))
          · rw [y4, y3]; simp
          · have e1 : ¬ r.typ = 46 := fun e => hne (.inl e)
            have e2 : ¬ r.typ = 47 := fun e => hne (.inr e)
            simp [e1, e2]
        omega
      · exact .inr (.inr (.inr (.inr ⟨by rw [k2]; exact hm, k1, g3⟩)))
      · rw [k3] at hm; simp at hm
    · exact .inr (.inr (.inl rfl))

/-- What is found stands there. -/
theorem gives2 {apex : ByteArray} {L : List Rec} (hv : Valid apex L) (q : ByteArray) (t : Int) : ∀ y ∈ (findR apex L q t).recs,
    ((findR apex L q t).wild = true ∧ ∃ r ∈ L, equalB r.owner (findR apex L q t).owner = true ∧ y = { r with owner := q }) ∨
    ((findR apex L q t).wild = false ∧ y ∈ L ∧ withinB q y.owner = true) := by
  intro y hy
  by_cases hw : withinB q apex = true ∧ 1 ≤ t ∧ t ≤ 65535
  · obtain ⟨x, a, hx⟩ := ask_in hw.1
    have hqc := check_of hx.q
    rcases find_cases apex L q t hw.1 hx hw.2 with ⟨k, hk1, hk2, h⟩ | h
    · obtain ⟨g1, g2⟩ := stop_kind h
      have : ∃ ty, y ∈ rowsS L (foldS (tailS q k), ty) := by
        rcases g2 with g2 | g2
        · exact ⟨2, by rw [← g2.2]; exact hy⟩
        · exact ⟨39, by rw [← g2.2]; exact hy⟩
      obtain ⟨ty, hm⟩ := this
      obtain ⟨m1, m2⟩ := mem_rowsS.1 hm
      have m3 : foldS y.owner = foldS (tailS q k) := congrArg Prod.fst m2
      refine .inr ⟨g1, m1, ?_⟩
      obtain ⟨z, hz⟩ := rows_check (hv.each y m1).1
      have ht := (tail_row hx.q (k := (k : Int)) (by omega) (by omega)).2
      rw [Int.toNat_natCast] at ht
      have h5 := (fold_eq hz ht).1 m3
      have h6 : z.length = k := by rw [← lowR_len z, h5, lowR_len, List.length_drop]; omega
      rw [within_rows hx.q hz, h5, h6, lowR_drop]
      exact ⟨hk2, rfl⟩
    · unfold restR at h
      split at h
      · rw [h] at hy ⊢
        obtain ⟨g1, g2, g3, g⟩ := stands_kind L q t q q false
        have hm : ∃ ty, y ∈ atL L q ty := by
          rcases g with ⟨_, k2, _⟩ | ⟨_, k2⟩ | ⟨_, k2, _⟩
          · exact ⟨5, by rw [← k2]; exact hy⟩
          · exact ⟨t, by rw [← k2]; exact hy⟩
          · rw [k2] at hy; simp at hy
        obtain ⟨ty, hm⟩ := hm
        have h1 := (mem_atL hm).1
        have h2 := (mem_atL' (hv.each y h1).1 hqc hm).2
        exact .inr ⟨g3, h1, equal_within hqc (hv.each y h1).1 h2.symm⟩
      · split at h
        · rename_i e1 e2
          rw [h] at hy ⊢
          obtain ⟨g1, g2, g3, g⟩ := stands_kind L (starS (enclTo a.length L q (x.length - a.length))) t (starS (enclTo a.length L q (x.length - a.length))) (enclTo a.length L q (x.length - a.length)) true
          generalize starS (enclTo a.length L q (x.length - a.length)) = s at *
          obtain ⟨r, hr, rfl⟩ := List.mem_map.1 hy
          have hsc : checkB s = true := by
            cases hc : checkB s
            · rw [there_none hv.named hc] at e2; cases e2
            · rfl
          have hm : ∃ ty, r ∈ atL L s ty := by
            rcases g with ⟨_, k2, _⟩ | ⟨_, k2⟩ | ⟨_, k2, _⟩
            · exact ⟨5, by rw [← k2]; exact hr⟩
            · exact ⟨t, by rw [← k2]; exact hr⟩
            · rw [k2] at hr; simp at hr
          obtain ⟨ty, hm⟩ := hm
          have h1 := (mem_atL hm).1
          have h2 := (mem_atL' (hv.each r h1).1 hsc hm).2
          exact .inl ⟨g3, r, h1, by show equalB r.owner (standsR L s t s _ true).owner = true; rw [g1]; exact (equal_fold (hv.each r h1).1 hsc).2 h2, rfl⟩
        · rw [h] at hy; simp at hy
  · unfold findR at hy
    rw [if_neg hw] at hy
    simp [noFnd] at hy

theorem star_row {e : ByteArray} {x : List (List UInt8)} (hx : rows e = some x) (hs : e.size ≤ 253) : rows (starHead ++ e) = some ([42] :: x) := by
  obtain ⟨h1, h2, h3, _⟩ := rows_some hx
  have e1 : starHead ++ e = nameOf ([42] :: x) := by
    apply ba_ext
    show (starHead ++ e).data.toList = putL ([42] :: x)
    rw [ByteArray.data_append, Array.toList_append, h3, putL]
    rfl
  have hl := rows_len hx
  rw [e1]
  refine rows_of ?_ ?_
  · intro l hl
    rcases List.mem_cons.1 hl with rfl | h
    · exact ⟨by decide, by decide⟩
    · exact h2 l h
  · rw [putL]
    simp
    omega
theorem star_rows {e s : ByteArray} {x : List (List UInt8)} (hx : rows e = some x) (hs : starS e = s) (hc : checkB s = true) : countI s = countI e + 1 := by
  unfold starS at hs
  split at hs
  · rename_i h
    rw [← hs, count_of (star_row hx h.2), count_of hx, List.length_cons]
    omega
  · rw [← hs, empty_check] at hc
    cases hc

/-- What is said to be absent is. -/
theorem absent {apex : ByteArray} {L : List Rec} (hv : Valid apex L) (q : ByteArray) (t : Int) {r : Rec} (hr : r ∈ L) (hs : signsB r = false) :
    ¬ ((findR apex L q t).kind = 6 ∧ (withinB r.owner q = true ∨ withinB r.owner (starS (findR apex L q t).encl) = true)) ∧
    ¬ ((findR apex L q t).kind = 5 ∧ (findR apex L q t).wild = false ∧ equalB r.owner q = true ∧ (r.typ = t ∨ t = 255)) ∧
    ¬ ((findR apex L q t).wild = true ∧ (withinB r.owner q = true ∨ withinB r.owner (tailS q (countI (findR apex L q t).encl + 1)) = true)) := by
  by_cases hw : withinB q apex = true ∧ 1 ≤ t ∧ t ≤ 65535
  · obtain ⟨x, a, hx⟩ := ask_in hw.1
    have hqc := check_of hx.q
    have hel : ∀ r ∈ L, checkB r.owner = true ∧ withinB r.owner apex = true := fun r hr => ⟨(hv.each r hr).1, (hv.each r hr).2.2⟩
    have hth : ∀ n : ByteArray, countI apex ≤ countI n → withinB r.owner n = true → thereB a.length L n = true := fun n h1 h2 => by
      have := (there_iff hel (within_check h2).2 h1).2 ⟨r, hr, hs, h2⟩
      rwa [count_of hx.apex, Int.toNat_natCast] at this
    have hqq : withinB r.owner q = true → enclTo a.length L q (x.length - a.length) = q := fun h =>
      encl_q hx.q hx.le L (hth q (by rw [count_of hx.apex, count_of hx.q]; have := hx.le; omega) h)
    rcases find_cases apex L q t hw.1 hx hw.2 with ⟨k, hk1, hk2, h⟩ | h
    · obtain ⟨g1, g2⟩ := stop_kind h
      refine ⟨fun h => ?_, fun h => ?_, fun h => ?_⟩
      · rcases g2 with g2 | g2 <;> rw [g2.1] at h <;> exact absurd h.1 (by decide)
      · rcases g2 with g2 | g2 <;> rw [g2.1] at h <;> exact absurd h.1 (by decide)
      · rw [g1] at h; exact absurd h.1 (by decide)
    · obtain ⟨k, hk1, hk2, hk3, hk4⟩ := encl_spec a.length L q (x.length - a.length)
      unfold restR at h
      split at h
      · rw [h]
        obtain ⟨g1, g2, g3, g⟩ := stands_kind L q t q q false
        refine ⟨fun h => ?_, fun h => ?_, fun h => ?_⟩
        · rcases g with ⟨k2, _⟩ | ⟨k2, _⟩ | ⟨k2, _⟩ <;> rw [k2] at h <;> exact absurd h.1 (by decide)
        · rcases g with ⟨k2, _⟩ | ⟨k2, _⟩ | ⟨k2, _, k3⟩
          · rw [k2] at h; exact absurd h.1 (by decide)
          · rw [k2] at h; exact absurd h.1 (by decide)
          · have := atL_mem hr h.2.2.1 hs h.2.2.2
            rw [k3] at this
            simp at this
        · rw [g3] at h; exact absurd h.1 (by decide)
      · rename_i hne
        split at h
        · rename_i hst
          rw [h]
          obtain ⟨g1, g2, g3, g⟩ := stands_kind L (starS (enclTo a.length L q (x.length - a.length))) t (starS (enclTo a.length L q (x.length - a.length))) (enclTo a.length L q (x.length - a.length)) true
          refine ⟨fun h => ?_, fun h => ?_, fun h => ?_⟩
          · have h1 := h.1
            change (standsR L _ t _ _ true).kind = 6 at h1
            rcases g with ⟨k2, _⟩ | ⟨k2, _⟩ | ⟨k2, _⟩ <;> rw [k2] at h1 <;> exact absurd h1 (by decide)
          · have h1 := h.2.1
            change (standsR L _ t _ _ true).wild = false at h1
            rw [g3] at h1
            exact absurd h1 (by decide)
          · rcases h.2 with h1 | h1
            · exact hne (hqq h1)
            · change withinB r.owner (tailS q (countI (standsR L _ t _ _ true).encl + 1)) = true at h1
              rw [g2, hk2, count_tail hx.q (by omega) (by have := hx.le; omega)] at h1
              have hlt : k < x.length - a.length := by
                rcases Nat.lt_or_ge k (x.length - a.length) with h5 | h5
                · exact h5
                · exact absurd (by rw [hk2, show a.length + k = x.length by have := hx.le; omega]; exact tail_self hx.q) hne
              have e1 : (((a.length + k : Nat) : Int) + 1) = ((a.length + (k + 1) : Nat) : Int) := by omega
              rw [e1] at h1
              have h6 := hk3 (k + 1) (by omega) (by omega)
              rw [hth _ (by rw [count_tail hx.q (by omega) (by omega), count_of hx.apex]; omega) h1] at h6
              cases h6
        · rename_i hst
          rw [h]
          refine ⟨fun h => ?_, fun h => absurd h.1 (by show ¬ ((6 : Int) = 5); decide), fun h => absurd h.1 (by show ¬ (false = true); decide)⟩
          rcases h.2 with h1 | h1
          · exact hne (hqq h1)
          · change withinB r.owner (starS (enclTo a.length L q (x.length - a.length))) = true at h1
            refine hst (hth _ ?_ h1)
            have hec := (tail_row hx.q (k := ((a.length + k : Nat) : Int)) (by omega) (by have := hx.le; omega)).2
            rw [← hk2] at hec
            rw [star_rows hec rfl (within_check h1).2, hk2, count_tail hx.q (by omega) (by have := hx.le; omega), count_of hx.apex]
            omega
  · have : findR apex L q t = noFnd := by unfold findR; rw [if_neg hw]
    rw [this]
    exact ⟨fun h => absurd h.1 (by decide), fun h => absurd h.1 (by decide), fun h => absurd h.1 (by decide)⟩
end zn
end Go.Proofs.YtpjoaghnciomeaaGreat
/-
  What zone.New says doesn't hang on the list's order, plainly. No program in sight.
-/
namespace Go.Proofs.YtpjoaghnciomeaaGreat
open Go.RowKit Go.Shelf Go.WideMaps Go.Proofs.YtpjoaghnciomeaaGreat.nm Go.Proofs.YtpjoaghnciomeaaGreat.od

namespace zn
theorem firstB_iff {bad : Nat → Bool} {n : Nat} : firstB bad n = none ↔ ∀ j, j < n → bad j = false := ⟨firstB_no, firstB_none⟩
theorem at_iff {L : List Rec} {bad : Rec → Bool} : firstB (atB L bad) L.length = none ↔ ∀ r ∈ L, bad r = false := by
  refine ⟨at_all, fun h => firstB_none fun j hj => ?_⟩
  rw [atB_get hj]
  exact h _ (List.getElem_mem hj)
theorem mem_take_at {L : List Rec} {i j : Nat} (hij : i < j) (hj : j < L.length) : L[i]'(by omega) ∈ L.take j := by
  rw [List.mem_take_iff_getElem]
  exact ⟨i, by omega, rfl⟩
theorem twice_iff {L : List Rec} : firstB (twiceB L) L.length = none ↔ L.Pairwise (fun a b => fullR a ≠ fullR b) := by
  refine ⟨distinct_of, fun h => firstB_none fun j hj => ?_⟩
  rw [List.pairwise_iff_getElem] at h
  unfold twiceB
  rw [List.getElem?_eq_getElem hj]
  simp only [decide_eq_false_iff_not, Nat.not_lt, Nat.le_zero_eq]
  unfold cntFull
  rw [List.length_eq_zero_iff, List.filter_eq_nil_iff]
  intro r hr
  rw [List.mem_take_iff_getElem] at hr
  obtain ⟨i, hi, rfl⟩ := hr
  have := h i j (by omega) hj (by omega)
  simpa using this
theorem soaC_fold (L : List Rec) : ∀ c : Nat, L.foldl (fun c r => soaN r c) c = c + (L.filter fun r => decide (r.typ = 6)).length := by
  induction L with
  | nil => intro c; rfl
  | cons r L ih =>
    intro c
    rw [List.foldl_cons, ih, List.filter_cons]
    unfold soaN
    by_cases h : r.typ = 6
    · simp [h]; omega
    · simp [h]
theorem soaC_eq (L : List Rec) : soaC L = (L.filter fun r => decide (r.typ = 6)).length := by
  unfold soaC
  rw [soaC_fold]
  omega
theorem soa_iff {apex : ByteArray} {L : List Rec} : firstB (soaB apex L) L.length = none ↔ L.Pairwise (fun a b => ¬ (a.typ = 6 ∧ b.typ = 6)) ∧ ∀ r ∈ L, r.typ = 6 → equalB r.owner apex = true := by
  rw [firstB_iff]
  constructor
  · intro h
    refine ⟨?_, fun r hr h6 => ?_⟩
    · rw [List.pairwise_iff_getElem]
      rintro i j hi hj hij ⟨e1, e2⟩
      have := h j hj
      unfold soaB at this
      rw [List.getElem?_eq_getElem hj] at this
      unfold bad2 at this
      simp only [e2, decide_true, Bool.true_and, Bool.or_eq_false_iff, decide_eq_false_iff_not, Nat.not_lt, Nat.le_zero_eq] at this
      have h2 := this.1
      rw [soaC_eq, List.length_eq_zero_iff, List.filter_eq_nil_iff] at h2
      have := h2 _ (mem_take_at hij hj)
      simp [e1] at this
    · obtain ⟨j, hj, rfl⟩ := List.getElem_of_mem hr
      have := h j hj
      unfold soaB at this
      rw [List.getElem?_eq_getElem hj] at this
      unfold bad2 at this
      simp only [h6, decide_true, Bool.true_and, Bool.or_eq_false_iff, Bool.not_eq_false'] at this
      exact this.2
  · rintro ⟨h1, h2⟩ j hj
    unfold soaB
    rw [List.getElem?_eq_getElem hj]
    show bad2 apex (soaC (L.take j)) L[j] = false
    unfold bad2
    by_cases h6 : L[j].typ = 6
    · rw [h2 _ (List.getElem_mem hj) h6]
      have : soaC (L.take j) = 0 := by
        rw [soaC_eq, List.length_eq_zero_iff, List.filter_eq_nil_iff]
        intro r hr
        rw [List.mem_take_iff_getElem] at hr
        obtain ⟨i, hi, rfl⟩ := hr
        rw [List.pairwise_iff_getElem] at h1
        intro e
        exact h1 i j (by omega) hj (by omega) ⟨by simpa using e, h6⟩
      rw [this]
      simp
    · simp [h6]
theorem soaC_zero {L : List Rec} : soaC L = 0 ↔ ∀ r ∈ L, r.typ ≠ 6 := by
  rw [soaC_eq, List.length_eq_zero_iff, List.filter_eq_nil_iff]
  simp
theorem rows_nil {L L' : List Rec} (hp : L.Perm L') (κ : Key) : (rowsS L κ).length = (rowsS L' κ).length := (hp.filter _).length_eq
theorem all_perm {L L' : List Rec} (hp : L.Perm L') : allF L = allF L' := by
  funext n
  unfold allF
  rw [(hp.filter _).length_eq]
theorem below_perm {L L' : List Rec} (hp : L.Perm L') : belowF L = belowF L' := by
  funext n
  unfold belowF
  rw [((hp.flatMap_right _).filter _).length_eq]
theorem ttl_iff {L : List Rec} : (∀ r ∈ L, bad6 (rowsS L) r = false) ↔ ∀ r ∈ L, ∀ r' ∈ L, r.typ ≠ 46 → keyR r = keyR r' → r.ttl = r'.ttl := by
  have hd : ∀ r ∈ L, ∃ h ∈ L, keyR h = keyR r ∧ ((rowsS L (keyR r)).headD r) = h := fun r hr => by
    have hm : r ∈ rowsS L (keyR r) := mem_rowsS.2 ⟨hr, rfl⟩
    cases hc : rowsS L (keyR r) with
    | nil => rw [hc] at hm; simp at hm
    | cons h l =>
      have : h ∈ rowsS L (keyR r) := by rw [hc]; simp
      exact ⟨h, (mem_rowsS.1 this).1, (mem_rowsS.1 this).2, rfl⟩
  constructor
  · intro h r hr r' hr' ht hk
    have ht' : r'.typ ≠ 46 := by
      have : r.typ = r'.typ := congrArg Prod.snd hk
      rwa [← this]
    have h1 := h r hr
    have h2 := h r' hr'
    unfold bad6 at h1 h2
    simp only [ht, ht', decide_false, Bool.not_false, Bool.true_and, Bool.not_eq_false', decide_eq_true_eq] at h1 h2
    obtain ⟨a, _, _, ea⟩ := hd r hr
    obtain ⟨b, _, _, eb⟩ := hd r' hr'
    rw [ea] at h1
    rw [eb] at h2
    have : a = b := by
      rw [← ea, ← eb, hk]
      cases hc : rowsS L (keyR r') with
      | nil =>
        have hm : r' ∈ rowsS L (keyR r') := mem_rowsS.2 ⟨hr', rfl⟩
        rw [hc] at hm; simp at hm
      | cons => rfl
    rw [h1, h2, this]
  · intro h r hr
    obtain ⟨a, ha, hk, e⟩ := hd r hr
    unfold bad6
    by_cases ht : r.typ = 46
    · simp [ht]
    · rw [e, h r hr a ha ht hk.symm]
      simp

open Classical in
/-- What is wrong, without its place. -/
noncomputable def codeC (apex : ByteArray) (l : List Rec) : Option Int :=
  if checkB apex = false then some 1 else if 2000 < l.length then some 20
  else if ¬ (∀ r ∈ l, bad1 r = false) then some 8 else if ¬ (∀ r ∈ l, (!withinB r.owner apex) = false) then some 5
  else if ¬ l.Pairwise (fun a b => fullR a ≠ fullR b) then some 19
  else if ¬ (l.Pairwise (fun a b => ¬ (a.typ = 6 ∧ b.typ = 6)) ∧ ∀ r ∈ l, r.typ = 6 → equalB r.owner apex = true) then some 15
  else if (∀ r ∈ l, r.typ ≠ 6) then some 15
  else if (rowsS l (foldS apex, 2)).length = 0 then some 16
  else if ¬ (∀ r ∈ l, bad3 r = false) then some 22 else if ¬ (∀ r ∈ l, bad4 (allF l) r = false) then some 17
  else if ¬ (∀ r ∈ l, bad5 (foldS apex) (rowsS l) (belowF l) r = false) then some 18
  else if ¬ (∀ r ∈ l, ∀ r' ∈ l, r.typ ≠ 46 → keyR r = keyR r' → r.ttl = r'.ttl) then some 21 else none

theorem code_of (apex : ByteArray) (l : List Rec) : (newE apex l).map Prod.snd = codeC apex l := by
  unfold newE codeC
  by_cases h1 : checkB apex = false
  · rw [if_pos h1, if_pos h1]; rfl
  rw [if_neg h1, if_neg h1]
  by_cases h2 : 2000 < l.length
  · rw [if_pos h2, if_pos h2]; rfl
  rw [if_neg h2, if_neg h2]
  unfold plainR
  cases h3 : firstB (atB l bad1) l.length with
  | some k => rw [if_pos (fun h => by rw [at_iff.2 h] at h3; cases h3)]; rfl
  | none =>
    rw [if_neg (not_not_intro (at_iff.1 h3))]
    cases h4 : firstB (atB l fun r => !withinB r.owner apex) l.length with
    | some k => rw [if_pos (fun h => by rw [at_iff.2 h] at h4; cases h4)]; rfl
    | none =>
      rw [if_neg (not_not_intro (at_iff.1 h4))]
      show (rulesR apex l).map Prod.snd = _
      unfold rulesR
      cases h5 : firstB (twiceB l) l.length with
      | some k => rw [if_pos (fun h => by rw [twice_iff.2 h] at h5; cases h5)]; rfl
      | none =>
        rw [if_neg (not_not_intro (twice_iff.1 h5))]
        cases h6 : firstB (soaB apex l) l.length with
        | some k => rw [if_pos (fun h => by rw [soa_iff.2 h] at h6; cases h6)]; rfl
        | none =>
          rw [if_neg (not_not_intro (soa_iff.1 h6))]
          by_cases h7 : soaC l = 0
          · rw [if_pos (soaC_zero.1 h7)]
            simp only [if_pos h7]
            rfl
          · rw [if_neg (fun h => h7 (soaC_zero.2 h))]
            simp only [if_neg h7]
            by_cases h8 : (rowsS l (foldS apex, 2)).length = 0
            · rw [if_pos h8, if_pos h8]; rfl
            · rw [if_neg h8, if_neg h8]
              cases h9 : firstB (atB l bad3) l.length with
              | some k => rw [if_pos (fun h => by rw [at_iff.2 h] at h9; cases h9)]; rfl
              | none =>
                rw [if_neg (not_not_intro (at_iff.1 h9))]
                cases h10 : firstB (atB l (bad4 (allF l))) l.length with
                | some k => rw [if_pos (fun h => by rw [at_iff.2 h] at h10; cases h10)]; rfl
                | none =>
                  rw [if_neg (not_not_intro (at_iff.1 h10))]
                  cases h11 : firstB (atB l (bad5 (foldS apex) (rowsS l) (belowF l))) l.length with
                  | some k => rw [if_pos (fun h => by rw [at_iff.2 h] at h11; cases h11)]; rfl
                  | none =>
                    rw [if_neg (not_not_intro (at_iff.1 h11))]
                    cases h12 : firstB (atB l (bad6 (rowsS l))) l.length with
                    | some k => rw [if_pos (fun h => by rw [at_iff.2 (ttl_iff.2 h)] at h12; cases h12)]; rfl
                    | none => rw [if_neg (not_not_intro (ttl_iff.1 (at_iff.1 h12)))]; rfl
theorem bad5_perm {L L' : List Rec} (hp : L.Perm L') (low : ByteArray) (r : Rec) : bad5 low (rowsS L) (belowF L) r = bad5 low (rowsS L') (belowF L') r := by
  unfold bad5
  rw [rows_nil hp, below_perm hp]
theorem codeC_perm {apex : ByteArray} {l l' : List Rec} (hp : l.Perm l') : codeC apex l = codeC apex l' := by
  have e : ∀ P : Rec → Prop, (∀ r ∈ l, P r) ↔ (∀ r ∈ l', P r) := fun P => ⟨fun h r hr => h r (hp.mem_iff.2 hr), fun h r hr => h r (hp.mem_iff.1 hr)⟩
  unfold codeC
  have e1 : l.Pairwise (fun a b => fullR a ≠ fullR b) ↔ l'.Pairwise (fun a b => fullR a ≠ fullR b) := hp.pairwise_iff (fun h => Ne.symm h)
  have e2 : l.Pairwise (fun a b : Rec => ¬ (a.typ = 6 ∧ b.typ = 6)) ↔ l'.Pairwise (fun a b => ¬ (a.typ = 6 ∧ b.typ = 6)) := hp.pairwise_iff (fun h k => h ⟨k.2, k.1⟩)
  have e3 : (∀ r ∈ l, ∀ r' ∈ l, r.typ ≠ 46 → keyR r = keyR r' → r.ttl = r'.ttl) ↔ (∀ r ∈ l', ∀ r' ∈ l', r.typ ≠ 46 → keyR r = keyR r' → r.ttl = r'.ttl) := by
    rw [e]
    exact forall_congr' fun r => forall_congr' fun _ => e _
  simp only [e, e1, e2, hp.length_eq, rows_nil hp, all_perm hp, bad5_perm hp]
theorem newE_perm {apex : ByteArray} {l l' : List Rec} (hp : l.Perm l') : (newE apex l).map Prod.snd = (newE apex l').map Prod.snd := by rw [code_of, code_of, codeC_perm hp]
theorem newE_none {apex : ByteArray} {l : List Rec} : newE apex l = none ↔ (newE apex l).map Prod.snd = none := by simp
theorem valid_of {apex : ByteArray} {l : List Rec} (h : newE apex l = none) : Valid apex l := by
  unfold newE at h
  split at h
  · cases h
  · rename_i h1
    split at h
    · cases h
    · rename_i h2
      split at h
      · cases h
      · rename_i h3
        refine ⟨by simpa using h1, by omega, ?_, h⟩
        unfold plainR at h3
        split at h3
        · cases h3
        · rename_i h4
          split at h3
          · cases h3
          · rename_i h5
            intro r hr
            have a1 := at_all h4 r hr
            refine ⟨?_, a1, by simpa using at_all h5 r hr⟩
            unfold bad1 at a1
            simp only [Bool.not_eq_false', Bool.and_eq_true] at a1
            exact a1.1.1.1.1
theorem newE_of {apex : ByteArray} {l l' : List Rec} (hp : l.Perm l') (h : newE apex l = none) : newE apex l' = none := by
  rw [newE_none, ← newE_perm hp, ← newE_none]; exact h
end zn
end Go.Proofs.YtpjoaghnciomeaaGreat

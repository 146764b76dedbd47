/-
  Names, plainly: the labels of a text as the program goes through them, each with its place. No program in sight.
-/
namespace Go.Proofs.YtnloommafgnanaaGreat.nm

/-- The length that stands at a place. -/
def sizeAt (s : ByteArray) (k : Nat) : Nat := (s.data.toList[k]?.getD 0).toNat
/-- What the program goes through from a place on. -/
def walk (s : ByteArray) : Nat → Nat → List (Nat × ByteArray)
  | 0, _ => []
  | f + 1, k =>
    if k < s.size then
      if 63 < sizeAt s k ∨ s.size < k + 1 + sizeAt s k then []
      else (k, s.extract (k + 1) (k + 1 + sizeAt s k)) :: (if sizeAt s k = 0 then [] else walk s f (k + 1 + sizeAt s k))
    else []
def marks (s : ByteArray) : List (Nat × ByteArray) := walk s (s.size + 1) 0

/-- Does a pair end the name? -/
def ends (s : ByteArray) (p : Nat × ByteArray) : Bool := p.2.size == 0 && p.1 + 1 == s.size
def checkB (s : ByteArray) : Bool := decide (s.size ≤ 255) && (marks s).any (ends s)

theorem walk_at {s : ByteArray} {f k : Nat} (hk : k < s.size) (h : ¬ (63 < sizeAt s k ∨ s.size < k + 1 + sizeAt s k)) :
    walk s (f + 1) k = (k, s.extract (k + 1) (k + 1 + sizeAt s k)) :: (if sizeAt s k = 0 then [] else walk s f (k + 1 + sizeAt s k)) := by
  rw [walk, if_pos hk, if_neg h]
theorem walk_stop {s : ByteArray} {f k : Nat} (h : s.size ≤ k ∨ 63 < sizeAt s k ∨ s.size < k + 1 + sizeAt s k) : walk s f k = [] := by
  cases f with
  | zero => rfl
  | succ f =>
    rw [walk]
    split
    · split
      · rfl
      · rename_i h1 h2
        exact absurd (h.resolve_left (by omega)) h2
    · rfl
theorem sizeAt_eq {s : ByteArray} {k : Nat} (h : k < s.size) : sizeAt s k = s[k].toNat := by
  unfold sizeAt
  rw [List.getElem?_eq_getElem (by simpa using h)]; rfl

/-- How many labels; -1: no name. -/
def countI (s : ByteArray) : Int := if checkB s then ((marks s).length : Int) - 1 else -1

/-- The last k labels. -/
def tailS (s : ByteArray) (k : Int) : ByteArray :=
  if 0 ≤ k ∧ k ≤ countI s then s.extract (((marks s)[(countI s - k).toNat]?).getD (0, ByteArray.empty)).1 s.size else ByteArray.empty
end Go.Proofs.YtnloommafgnanaaGreat.nm
/-
  Data, plainly: how many bytes of a text are a field.
-/
namespace Go.Proofs.YtnloommafgnanaaGreat.dt
open Go.Proofs.YtnloommafgnanaaGreat.nm

def numI (n : Int) (d : ByteArray) : Int := if (d.size : Int) < n then -1 else n
def textI (d : ByteArray) : Int := if d.size = 0 then -1 else if d.size ≤ sizeAt d 0 then -1 else 1 + (sizeAt d 0 : Int)
def textsGo (d : ByteArray) : Nat → Nat → Int
  | 0, _ => -1
  | f + 1, k => if k < d.size then (if textI (d.extract k d.size) < 0 then -1 else textsGo d f (k + (textI (d.extract k d.size)).toNat)) else if k = 0 then -1 else (k : Int)
def textsI (d : ByteArray) : Int := textsGo d (d.size + 1) 0
def someI (d : ByteArray) : Int := if d.size = 0 then -1 else (d.size : Int)
def kindI (d : ByteArray) : Int := if d.size < 2 then -1 else if sizeAt d 0 = 0 ∧ sizeAt d 1 = 0 then -1 else 2
def hashI (d : ByteArray) : Int := if d.size = 0 then -1 else if sizeAt d 0 = 0 then -1 else textI d
def hostGo (d : ByteArray) : Nat → Nat → Nat
  | 0, k => k
  | f + 1, k => if k < d.size ∧ 0 < sizeAt d k then hostGo d f (k + 1 + sizeAt d k) else k
def hostEnd (d : ByteArray) : Nat := hostGo d (d.size + 1) 0
def hostI (d : ByteArray) : Int := if d.size ≤ hostEnd d then -1 else if checkB (d.extract 0 (hostEnd d + 1)) = true then (hostEnd d : Int) + 1 else -1

theorem size_extract (d : ByteArray) {k : Nat} (_h : k ≤ d.size) : (d.extract k d.size).size = d.size - k := by
  rw [ByteArray.size_extract]; omega
theorem textI_range (d : ByteArray) : textI d = -1 ∨ (1 ≤ textI d ∧ textI d ≤ d.size ∧ textI d ≤ 256) := by
  unfold textI
  split
  · exact .inl rfl
  · split
    · exact .inl rfl
    · have : sizeAt d 0 < 256 := UInt8.toNat_lt _
      omega
theorem hostGo_stop {d : ByteArray} {f k : Nat} (h : ¬ (k < d.size ∧ 0 < sizeAt d k)) : hostGo d f k = k := by
  cases f with
  | zero => rfl
  | succ f => rw [hostGo, if_neg h]
theorem hostGo_next {d : ByteArray} {f k : Nat} (h : k < d.size) (h2 : 0 < sizeAt d k) : hostGo d (f + 1) k = hostGo d f (k + 1 + sizeAt d k) := by
  rw [hostGo, if_pos ⟨h, h2⟩]
theorem textsGo_stop {d : ByteArray} {f k : Nat} (h : d.size ≤ k) : textsGo d (f + 1) k = if k = 0 then -1 else (k : Int) := by
  rw [textsGo, if_neg (by omega)]
theorem textsGo_bad {d : ByteArray} {f k : Nat} (h : k < d.size) (h2 : textI (d.extract k d.size) < 0) : textsGo d (f + 1) k = -1 := by
  rw [textsGo, if_pos h, if_pos h2]
theorem textsGo_next {d : ByteArray} {f k : Nat} (h : k < d.size) (h2 : ¬ textI (d.extract k d.size) < 0) : textsGo d (f + 1) k = textsGo d f (k + (textI (d.extract k d.size)).toNat) := by
  rw [textsGo, if_pos h, if_neg h2]

/-! ### Types of a set -/
/-- Bit k of the bytes behind the head. -/
def bitB (r : ByteArray) (k : Nat) : Bool := decide (sizeAt r (2 + k / 8) / 2 ^ (7 - k % 8) % 2 = 1)
/-- What k bits of a block add. -/
def blockL (r : ByteArray) (k : Nat) : List Int := ((List.range k).filter (bitB r)).map (fun j => ((sizeAt r 0 * 256 + j : Nat) : Int))
def headBad (r : ByteArray) (last : Int) : Prop :=
  r.size < 3 ∨ (sizeAt r 0 : Int) ≤ last ∨ sizeAt r 1 < 1 ∨ 32 < sizeAt r 1 ∨ r.size < 2 + sizeAt r 1 ∨ sizeAt r (1 + sizeAt r 1) = 0
instance (r : ByteArray) (last : Int) : Decidable (headBad r last) := by unfold headBad; infer_instance
def typesGo : Nat → ByteArray → Int → List Int → Option (List Int)
  | 0, _, _, _ => none
  | f + 1, r, last, acc => if r.size = 0 then some acc else if headBad r last then none
      else typesGo f (r.extract (2 + sizeAt r 1) r.size) (sizeAt r 0) (acc ++ blockL r (8 * sizeAt r 1))
/-- The types of a set; none: it is none. -/
def typesL (d : ByteArray) : Option (List Int) :=
  match typesGo (d.size + 1) d (-1) [] with
  | some l => if l.head? = some 0 then none else some l
  | none => none
def kindsI (d : ByteArray) : Int := if (typesL d).isSome = true then (d.size : Int) else -1
theorem blockL_succ (r : ByteArray) (k : Nat) : blockL r (k + 1) = blockL r k ++ (if bitB r k = true then [((sizeAt r 0 * 256 + k : Nat) : Int)] else []) := by
  unfold blockL
  rw [List.range_succ, List.filter_append, List.map_append]
  congr 1
  by_cases h : bitB r k = true <;> simp [h]
theorem blockL_len (r : ByteArray) (k : Nat) : (blockL r k).length ≤ k := by
  unfold blockL
  rw [List.length_map]
  exact Nat.le_trans (List.length_filter_le _ _) (by simp)
theorem typesGo_end {f : Nat} {r : ByteArray} {last : Int} {acc : List Int} (h : r.size = 0) : typesGo (f + 1) r last acc = some acc := by rw [typesGo, if_pos h]
theorem typesGo_bad {f : Nat} {r : ByteArray} {last : Int} {acc : List Int} (h : r.size ≠ 0) (h2 : headBad r last) : typesGo (f + 1) r last acc = none := by rw [typesGo, if_neg h, if_pos h2]
theorem typesGo_next {f : Nat} {r : ByteArray} {last : Int} {acc : List Int} (h : r.size ≠ 0) (h2 : ¬ headBad r last) : typesGo (f + 1) r last acc = typesGo f (r.extract (2 + sizeAt r 1) r.size) (sizeAt r 0) (acc ++ blockL r (8 * sizeAt r 1)) := by rw [typesGo, if_neg h, if_neg h2]
end Go.Proofs.YtnloommafgnanaaGreat.dt
/-
  Names, plainly: a name is a row of labels (splitL), and what the program goes through says the same.
-/
namespace Go.Proofs.YtnloommafgnanaaGreat.nm

/-- The labels of a text, by the definition. -/
def splitL : Nat → List UInt8 → Option (List (List UInt8))
  | 0, _ => none
  | _ + 1, [] => none
  | f + 1, c :: r =>
    if c.toNat = 0 then (if r = [] then some [] else none)
    else if 63 < c.toNat ∨ r.length < c.toNat then none
    else (splitL f (r.drop c.toNat)).map (r.take c.toNat :: ·)

/-- The row of labels of a name. -/
def rows (s : ByteArray) : Option (List (List UInt8)) := if s.size ≤ 255 then splitL (s.size + 1) s.data.toList else none

def putL : List (List UInt8) → List UInt8
  | [] => [0]
  | l :: ls => UInt8.ofNat l.length :: (l ++ putL ls)

/-- A row that can be a name's. -/
def RowOk (ls : List (List UInt8)) : Prop := ∀ l ∈ ls, 0 < l.length ∧ l.length ≤ 63

theorem splitL_ok : ∀ (f : Nat) (r : List UInt8) (ls : List (List UInt8)), splitL f r = some ls → RowOk ls ∧ r = putL ls := by
  intro f
  induction f with
  | zero => intro r ls h; simp [splitL] at h
  | succ f ih =>
    intro r ls h
    cases r with
    | nil => simp [splitL] at h
    | cons c r =>
      rw [splitL] at h
      split at h
      · rename_i hc
        split at h
        · rename_i hr
          cases h
          have h0 : c = 0 := UInt8.toNat_inj.1 hc
          exact ⟨fun l hl => by simp at hl, by rw [hr, h0]; rfl⟩
        · cases h
      · split at h
        · cases h
        · rename_i hc hb
          cases hs : splitL f (r.drop c.toNat) with
          | none => rw [hs] at h; cases h
          | some l2 =>
            rw [hs] at h
            simp only [Option.map_some, Option.some.injEq] at h
            obtain ⟨h1, h2⟩ := ih _ _ hs
            have hlen : (r.take c.toNat).length = c.toNat := by rw [List.length_take]; omega
            subst h
            refine ⟨fun l hl => ?_, ?_⟩
            · rcases List.mem_cons.1 hl with rfl | hl
              · omega
              · exact h1 l hl
            · rw [putL, hlen, ← h2, List.take_append_drop]
              congr 1
              simp

theorem splitL_put : ∀ (ls : List (List UInt8)) (f : Nat), RowOk ls → ls.length < f → splitL f (putL ls) = some ls := by
  intro ls
  induction ls with
  | nil =>
    intro f _ hf
    obtain ⟨f, rfl⟩ : ∃ g, f = g + 1 := ⟨f - 1, by omega⟩
    rfl
  | cons l ls ih =>
    intro f ho hf
    obtain ⟨f, rfl⟩ : ∃ g, f = g + 1 := ⟨f - 1, by simp at hf; omega⟩
    obtain ⟨h0, h1⟩ := ho l (by simp)
    have hn : (UInt8.ofNat l.length).toNat = l.length := by rw [UInt8.toNat_ofNat']; omega
    rw [putL, splitL, hn, if_neg (by omega), if_neg (by simp; omega)]
    rw [List.drop_left, List.take_left, ih f (fun l hl => ho l (by simp [hl])) (by simpa using hf)]
    rfl

theorem putL_length_ge (ls : List (List UInt8)) : ls.length < (putL ls).length := by
  induction ls with
  | nil => simp [putL]
  | cons l ls ih => simp [putL]; omega

theorem splitL_fuel {f g : Nat} {r : List UInt8} (hf : r.length < f) (hg : r.length < g) : splitL f r = splitL g r := by
  cases h : splitL f r with
  | some ls =>
    obtain ⟨h1, h2⟩ := splitL_ok f r ls h
    rw [h2, splitL_put ls g h1 (by rw [h2] at hg; have := putL_length_ge ls; omega)]
  | none =>
    cases h' : splitL g r with
    | none => rfl
    | some ls =>
      obtain ⟨h1, h2⟩ := splitL_ok g r ls h'
      rw [h2, splitL_put ls f h1 (by rw [h2] at hf; have := putL_length_ge ls; omega)] at h
      cases h

/-- The marks of a row that begins at a place. -/
def marksAt : Nat → List (List UInt8) → List (Nat × ByteArray)
  | k, [] => [(k, ByteArray.empty)]
  | k, l :: ls => (k, ⟨l.toArray⟩) :: marksAt (k + 1 + l.length) ls

theorem extract_list (s : ByteArray) (a b : Nat) : (s.extract a b).data.toList = (s.data.toList.drop a).take (b - a) := by
  rw [ByteArray.data_extract, Array.toList_extract]
theorem ba_ext {a b : ByteArray} (h : a.data.toList = b.data.toList) : a = b := by
  cases a; cases b
  simp only at h
  rw [Array.toList_inj.1 h]

theorem walk_rows (s : ByteArray) : ∀ (f k : Nat), k ≤ s.size → s.size < k + f →
    (∀ ls, splitL f (s.data.toList.drop k) = some ls → walk s f k = marksAt k ls ∧ k + (putL ls).length = s.size) ∧
    (splitL f (s.data.toList.drop k) = none → ∀ p ∈ walk s f k, ends s p = false) := by
  intro f
  induction f with
  | zero => intro k hk hf; omega
  | succ f ih =>
    intro k hk hf
    have hlen : (s.data.toList.drop k).length = s.size - k := by simp
    by_cases hlt : k < s.size
    · have hd : s.data.toList.drop k = s[k] :: s.data.toList.drop (k + 1) := by
        rw [List.drop_eq_getElem_cons (by simpa using hlt)]; rfl
      have hsz : sizeAt s k = s[k].toNat := sizeAt_eq hlt
      rw [hd, splitL, walk, if_pos hlt, hsz]
      have hl2 : (s.data.toList.drop (k + 1)).length = s.size - (k + 1) := by simp
      by_cases hz : s[k].toNat = 0
      · rw [if_pos hz]
        have hnot : ¬ (63 < s[k].toNat ∨ s.size < k + 1 + s[k].toNat) := by omega
        rw [if_neg hnot, if_pos hz, hz]
        have hex : s.extract (k + 1) (k + 1 + 0) = ByteArray.empty := ba_ext (by rw [extract_list]; simp)
        rw [hex]
        refine ⟨fun ls h => ?_, fun h p hp => ?_⟩
        · split at h
          · rename_i hr
            cases h
            have h3 := congrArg List.length hr
            rw [hl2, List.length_nil] at h3
            refine ⟨rfl, ?_⟩
            show k + 1 = s.size
            omega
          · cases h
        · split at h
          · cases h
          · rename_i hr
            rw [List.mem_singleton] at hp
            subst hp
            have : s.size ≠ k + 1 := fun e => hr (List.eq_nil_of_length_eq_zero (by rw [hl2]; omega))
            simp [ends]
            omega
      · rw [if_neg hz]
        by_cases hb : 63 < s[k].toNat ∨ s.size < k + 1 + s[k].toNat
        · have hb' : 63 < s[k].toNat ∨ (s.data.toList.drop (k + 1)).length < s[k].toNat := by rw [hl2]; omega
          rw [if_pos hb', if_pos hb]
          exact ⟨(fun ls h => by cases h), (fun _ p hp => by simp at hp)⟩
        · have hb' : ¬ (63 < s[k].toNat ∨ (s.data.toList.drop (k + 1)).length < s[k].toNat) := by rw [hl2]; omega
          rw [if_neg hb', if_neg hb, if_neg hz, List.drop_drop]
          obtain ⟨i1, i2⟩ := ih (k + 1 + s[k].toNat) (by omega) (by omega)
          have hex : (s.extract (k + 1) (k + 1 + s[k].toNat)).data.toList = (s.data.toList.drop (k + 1)).take s[k].toNat := by
            rw [extract_list]; congr 1; omega
          have hsz2 : (s.extract (k + 1) (k + 1 + s[k].toNat)).size = s[k].toNat := by
            show (s.extract (k + 1) (k + 1 + s[k].toNat)).data.size = _
            rw [← Array.length_toList, hex, List.length_take, hl2]; omega
          refine ⟨fun ls h => ?_, fun h p hp => ?_⟩
          · cases hs : splitL f (s.data.toList.drop (k + 1 + s[k].toNat)) with
            | none => rw [hs] at h; cases h
            | some l2 =>
              rw [hs] at h
              simp only [Option.map_some, Option.some.injEq] at h
              subst h
              obtain ⟨j1, j2⟩ := i1 l2 hs
              have htl : ((s.data.toList.drop (k + 1)).take s[k].toNat).length = s[k].toNat := by rw [List.length_take, hl2]; omega
              rw [j1, marksAt, htl]
              refine ⟨?_, ?_⟩
              · congr 2
                exact ba_ext (by rw [hex])
              · simp only [putL, List.length_cons, List.length_append, htl]
                omega
          · have hn : splitL f (s.data.toList.drop (k + 1 + s[k].toNat)) = none := by
              cases hs : splitL f (s.data.toList.drop (k + 1 + s[k].toNat)) with
              | none => rfl
              | some l2 => rw [hs] at h; cases h
            rcases List.mem_cons.1 hp with rfl | hp
            · simp [ends, hsz2]
              omega
            · exact i2 hn p hp
    · have hk2 : k = s.size := by omega
      have hd : s.data.toList.drop k = [] := List.drop_eq_nil_of_le (by simp; omega)
      rw [hd]
      refine ⟨fun ls h => by simp [splitL] at h, fun _ p hp => ?_⟩
      rw [walk, if_neg hlt] at hp
      simp at hp

theorem marksAt_ends (s : ByteArray) : ∀ (ls : List (List UInt8)) (k : Nat), k + (putL ls).length = s.size → (marksAt k ls).any (ends s) = true := by
  intro ls
  induction ls with
  | nil => intro k h; simp [putL] at h; simp [marksAt, ends]; omega
  | cons l ls ih =>
    intro k h
    rw [marksAt, List.any_cons, ih (k + 1 + l.length) (by simp [putL] at h; omega), Bool.or_true]

theorem checkB_rows (s : ByteArray) : checkB s = (rows s).isSome := by
  unfold checkB rows marks
  by_cases hs : s.size ≤ 255
  · rw [if_pos hs, decide_eq_true hs, Bool.true_and]
    obtain ⟨h1, h2⟩ := walk_rows s (s.size + 1) 0 (Nat.zero_le _) (by omega)
    rw [List.drop_zero] at h1 h2
    cases h : splitL (s.size + 1) s.data.toList with
    | none =>
      rw [List.any_eq_false.2]
      · rfl
      · intro p hp
        rw [h2 h p hp]; simp
    | some ls =>
      obtain ⟨a, b⟩ := h1 ls h
      rw [a, marksAt_ends s ls 0 b]
      rfl
  · rw [if_neg hs, decide_eq_false hs, Bool.false_and]
    rfl

/-- A name is the row of its labels. -/
theorem rows_some {s : ByteArray} {ls : List (List UInt8)} (h : rows s = some ls) : s.size ≤ 255 ∧ RowOk ls ∧ s.data.toList = putL ls ∧ marks s = marksAt 0 ls := by
  unfold rows at h
  split at h
  · rename_i hs
    obtain ⟨a, b⟩ := splitL_ok _ _ _ h
    obtain ⟨h1, _⟩ := walk_rows s (s.size + 1) 0 (Nat.zero_le _) (by omega)
    rw [List.drop_zero] at h1
    exact ⟨hs, a, b, (h1 ls h).1⟩
  · cases h
theorem rows_put {ls : List (List UInt8)} (ho : RowOk ls) (hl : (putL ls).length ≤ 255) : rows ⟨(putL ls).toArray⟩ = some ls := by
  unfold rows
  rw [if_pos (by simpa [ByteArray.size] using hl)]
  exact splitL_put ls _ ho (by have := putL_length_ge ls; simp [ByteArray.size]; omega)

end Go.Proofs.YtnloommafgnanaaGreat.nm

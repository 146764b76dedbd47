import Derived.Test.YtdjjemajfphjaaaGreatQUpdW
namespace Go.Proofs.YtdjjemajfphjaaaGreat
open Go.RowKit Go.Shelf Go.Proofs.YtdjjemajfphjaaaGreat.nm Go.Proofs.YtdjjemajfphjaaaGreat.od
namespace up
open zn (rowsS keyR fullR alikeB rthereB equal_fold alike_full)
theorem fm_congr {α β : Type} {f g : α → Option β} {l : List α} (h : ∀ y ∈ l, f y = g y) : l.filterMap f = l.filterMap g := by
  induction l with
  | nil => rfl
  | cons a t ih => rw [List.filterMap_cons, List.filterMap_cons, h a (List.mem_cons_self ..), ih fun y hy => h y (List.mem_cons_of_mem _ hy)]
def Plain (x : Rec) : Prop := x.cls = 1 ∧ x.typ ≠ 5 ∧ x.typ ≠ 6 ∧ checkB x.owner = true
def blkB (l : List Rec) (x : Rec) : Bool := l.any fun y => equalB y.owner x.owner && (decide (y.typ = 5) && !besideB x.typ)
def ageR (x y : Rec) : Rec := if y.typ = x.typ ∧ x.typ ≠ 46 ∧ equalB x.owner y.owner = true then { y with ttl := x.ttl } else y
def stepL (l : List Rec) (x : Rec) : List Rec := ((l.filter fun y => !alikeB x y).map (ageR x)) ++ [x]
theorem add_plain {apex : ByteArray} {l : List Rec} {x : Rec} (h : Plain x) : changeL apex l x = if blkB l x = true then l else stepL l x := by
  obtain ⟨h1, h5, h6, _⟩ := h
  unfold changeL
  rw [if_pos h1]
  unfold addL
  rw [if_neg h6]
  have hb : l.any (fun y => equalB y.owner x.owner && ((decide (x.typ = 5) && decide (y.typ ≠ 5) && !besideB y.typ) || (decide (x.typ ≠ 5) && decide (y.typ = 5) && !besideB x.typ))) = blkB l x := by
    unfold blkB
    exact any_congr fun y _ => by simp [h5]
  rw [hb]
  have hs : ((l.filter fun y => !(alikeB x y || (decide (x.typ = 5) && decide (y.typ = 5) && equalB x.owner y.owner))).map fun y => if y.typ = x.typ ∧ x.typ ≠ 46 ∧ equalB x.owner y.owner = true then { y with ttl := x.ttl } else y) ++ [x] = stepL l x := by
    unfold stepL
    congr 2
    exact List.filter_congr fun y _ => by simp [h5]
  rw [hs]
theorem age_owner (x y : Rec) : (ageR x y).owner = y.owner := by unfold ageR; split <;> rfl
theorem age_typ (x y : Rec) : (ageR x y).typ = y.typ := by unfold ageR; split <;> rfl
theorem age_data (x y : Rec) : (ageR x y).data = y.data := by unfold ageR; split <;> rfl
theorem age_alike (x y z : Rec) : alikeB x (ageR z y) = alikeB x y := by unfold zn.alikeB; rw [age_owner, age_typ, age_data]
theorem alike_self {x : Rec} (h : checkB x.owner = true) : alikeB x x = true := (alike_full h h).2 rfl
def fate (xs : List Rec) (y : Rec) : Option Rec := xs.foldl (fun o x => o.bind fun y => if alikeB x y = true then none else some (ageR x y)) (some y)
def fates (xs : List Rec) (o : Option Rec) : Option Rec := xs.foldl (fun o x => o.bind fun y => if alikeB x y = true then none else some (ageR x y)) o
theorem fates_none (xs : List Rec) : fates xs none = none := by
  induction xs with
  | nil => rfl
  | cons x t ih => exact ih
theorem fate_cons (x : Rec) (t : List Rec) (y : Rec) : fate (x :: t) y = if alikeB x y = true then none else fate t (ageR x y) := by
  show fates t ((some y).bind _) = _
  rw [Option.bind_some]
  split
  · exact fates_none t
  · rfl
def foldL (l : List Rec) (xs : List Rec) : List Rec := xs.foldl stepL l
theorem step_app (a b : List Rec) (x : Rec) : stepL (a ++ b) x = ((a.filter fun y => !alikeB x y).map (ageR x)) ++ stepL b x := by
  unfold stepL
  rw [List.filter_append, List.map_append, List.append_assoc]
theorem fold_app (xs : List Rec) : ∀ a b : List Rec, foldL (a ++ b) xs = a.filterMap (fate xs) ++ foldL b xs := by
  induction xs with
  | nil =>
    intro a b
    have : a.filterMap (fate []) = a := by
      have : fate [] = some := by funext y; rfl
      rw [this, List.filterMap_some]
    rw [this]; rfl
  | cons x t ih =>
    intro a b
    show foldL (stepL (a ++ b) x) t = _
    rw [step_app, ih]
    congr 1
    rw [List.filterMap_map, List.filterMap_filter]
    refine fm_congr fun y _ => ?_
    rw [fate_cons]
    cases alikeB x y <;> rfl
theorem fold_eq (l xs : List Rec) : foldL l xs = l.filterMap (fate xs) ++ foldL [] xs := by
  have := fold_app xs l []
  rwa [List.append_nil] at this
theorem fate_gone {xs : List Rec} {x y : Rec} (hx : x ∈ xs) (ha : alikeB x y = true) : fate xs y = none := by
  induction xs generalizing y with
  | nil => cases hx
  | cons z t ih =>
    rw [fate_cons]
    rcases List.mem_cons.1 hx with rfl | hx
    · rw [if_pos ha]
    · split
      · rfl
      · exact ih hx (by rw [age_alike]; exact ha)
theorem fate_stays {xs : List Rec} {y y' : Rec} (h : fate xs y = some y') : ∀ x ∈ xs, alikeB x y = false := by
  intro x hx
  cases ha : alikeB x y
  · rfl
  · rw [fate_gone hx ha] at h; cases h
def setsB (x y : Rec) : Bool := decide (y.typ = x.typ) && decide (x.typ ≠ 46) && equalB x.owner y.owner
def lastA (xs : List Rec) (y : Rec) (t : Int) : Int := xs.foldl (fun t x => if setsB x y = true then x.ttl else t) t
theorem fate_val {xs : List Rec} {y : Rec} (h : ∀ x ∈ xs, alikeB x y = false) : fate xs y = some { y with ttl := lastA xs y y.ttl } := by
  induction xs generalizing y with
  | nil => rfl
  | cons x t ih =>
    rw [fate_cons, if_neg (by rw [h x (List.mem_cons_self ..)]; simp), ih (fun z hz => by rw [age_alike]; exact h z (List.mem_cons_of_mem _ hz))]
    have hs : ∀ z : Rec, setsB z (ageR x y) = setsB z y := fun z => by unfold setsB; rw [age_typ, age_owner]
    have hl : ∀ (t : List Rec) (a : Int), lastA t (ageR x y) a = lastA t y a := by
      intro t
      induction t with
      | nil => intro a; rfl
      | cons z t ih2 => intro a; show lastA t (ageR x y) (if setsB z (ageR x y) = true then z.ttl else a) = lastA t y (if setsB z y = true then z.ttl else a); rw [hs, ih2]
    rw [hl]
    have ha : (ageR x y).ttl = if setsB x y = true then x.ttl else y.ttl := by
      unfold ageR setsB
      by_cases hc : y.typ = x.typ ∧ x.typ ≠ 46 ∧ equalB x.owner y.owner = true
      · rw [if_pos hc]; simp [hc.1, hc.2.1, hc.2.2]
      · rw [if_neg hc, if_neg (fun hh => hc (by simpa [and_assoc] using hh))]
    rw [ha]
    have hr : ∀ a : Int, ({ ageR x y with ttl := a } : Rec) = { y with ttl := a } := fun a => by unfold ageR; split <;> rfl
    rw [hr]
    rfl
theorem last_again (xs : List Rec) (y : Rec) (t : Int) : lastA xs y (lastA xs y t) = lastA xs y t := by
  have h : ∀ (xs : List Rec), (∀ a b : Int, lastA xs y a = lastA xs y b) ∨ ∀ a : Int, lastA xs y a = a := by
    intro xs
    induction xs with
    | nil => exact .inr fun _ => rfl
    | cons x r ih =>
      rcases ih with h | h
      · exact .inl fun a b => h _ _
      · by_cases hs : setsB x y = true
        · left
          intro a b
          show lastA r y (if setsB x y = true then x.ttl else a) = lastA r y (if setsB x y = true then x.ttl else b)
          rw [if_pos hs, if_pos hs]
        · right
          intro a
          show lastA r y (if setsB x y = true then x.ttl else a) = a
          rw [if_neg hs]; exact h a
  rcases h xs with h | h
  · exact h _ _
  · exact h _
theorem fate_again {xs : List Rec} {y y' : Rec} (h : fate xs y = some y') : fate xs y' = some y' := by
  have h1 := fate_stays h
  rw [fate_val h1] at h
  obtain rfl := Option.some.inj h
  have h2 : ∀ x ∈ xs, alikeB x { y with ttl := lastA xs y y.ttl } = false := fun x hx => h1 x hx
  rw [fate_val h2]
  have h3 : ∀ (xs : List Rec) (a b : Int), lastA xs { y with ttl := b } a = lastA xs y a := by
    intro xs
    induction xs with
    | nil => intro a b; rfl
    | cons x r ih => intro a b; exact ih _ _
  rw [h3]
  show some ({ y with ttl := lastA xs y (lastA xs y y.ttl) } : Rec) = _
  rw [last_again]
theorem fold_nil {xs : List Rec} (hn : ∀ x ∈ xs, checkB x.owner = true) : ∀ z ∈ foldL [] xs, ∃ x ∈ xs, alikeB x z = true ∧ z.typ = x.typ := by
  have h : ∀ (xs : List Rec), (∀ x ∈ xs, checkB x.owner = true) → ∀ (l : List Rec) (P : Rec → Prop), (∀ z ∈ l, P z) → (∀ x z, P z → P (ageR x z)) → (∀ x ∈ xs, P x) → ∀ z ∈ foldL l xs, P z := by
    intro xs
    induction xs with
    | nil => intro _ l P hl _ _ z hz; exact hl z hz
    | cons x t ih =>
      intro hc l P hl ha hx z hz
      refine ih (fun z hz => hc z (List.mem_cons_of_mem _ hz)) (stepL l x) P (fun z hz => ?_) ha (fun z hz => hx z (List.mem_cons_of_mem _ hz)) z hz
      unfold stepL at hz
      rcases List.mem_append.1 hz with hz | hz
      · obtain ⟨r, hr, rfl⟩ := List.mem_map.1 hz
        exact ha x r (hl r (List.mem_filter.1 hr).1)
      · rw [List.mem_singleton.1 hz]; exact hx x (List.mem_cons_self ..)
  exact h xs hn [] (fun z => ∃ x ∈ xs, alikeB x z = true ∧ z.typ = x.typ) (fun z hz => by cases hz) (fun x z ⟨r, hr, h1, h2⟩ => ⟨r, hr, by rw [age_alike]; exact h1, by rw [age_typ]; exact h2⟩) (fun x hx => ⟨x, hx, alike_self (hn x hx), rfl⟩)
theorem fate_six {xs : List Rec} (h : ∀ x ∈ xs, x.typ ≠ 6) {y : Rec} (hy : y.typ = 6) : fate xs y = some y := by
  induction xs with
  | nil => rfl
  | cons x t ih =>
    have h6 := h x (List.mem_cons_self ..)
    have ha : alikeB x y = false := by
      unfold zn.alikeB
      have : decide (x.typ = y.typ) = false := decide_eq_false (by omega)
      rw [this]; rfl
    have hg : ageR x y = y := by unfold ageR; exact if_neg (fun hh => by omega)
    rw [fate_cons, if_neg (by rw [ha]; simp), hg]
    exact ih fun z hz => h z (List.mem_cons_of_mem _ hz)
theorem fold_again {xs : List Rec} (hn : ∀ x ∈ xs, checkB x.owner = true) (h6 : ∀ x ∈ xs, x.typ ≠ 6) (B : Rec → Rec) (hB : ∀ y, y.typ ≠ 6 → B y = y) (hB6 : ∀ y, y.typ = 6 → (B y).typ = 6) (l : List Rec) :
    foldL ((foldL l xs).map B) xs = (foldL l xs).map B := by
  rw [fold_eq l xs, List.map_append]
  have hnil : (foldL [] xs).map B = foldL [] xs := by
    conv => rhs; rw [← List.map_id (foldL [] xs)]
    refine List.map_congr_left fun z hz => ?_
    obtain ⟨x, hx, _, ht⟩ := fold_nil hn z hz
    exact hB z (by rw [ht]; exact h6 x hx)
  rw [hnil, fold_app]
  have h1 : ((l.filterMap (fate xs)).map B).filterMap (fate xs) = (l.filterMap (fate xs)).map B := by
    rw [List.filterMap_map]
    conv => rhs; rw [← List.filterMap_eq_map]
    refine fm_congr fun y hy => ?_
    obtain ⟨r, hr, hf⟩ := List.mem_filterMap.1 hy
    show fate xs (B y) = some (B y)
    by_cases ht : y.typ = 6
    · exact fate_six h6 (hB6 y ht)
    · rw [hB y ht]
      exact fate_again hf
  rw [h1]
  congr 1
  rw [fold_eq (foldL [] xs) xs]
  have h2 : (foldL [] xs).filterMap (fate xs) = [] := by
    rw [List.filterMap_eq_nil_iff]
    intro z hz
    obtain ⟨x, hx, ha, _⟩ := fold_nil hn z hz
    exact fate_gone hx ha
  rw [h2, List.nil_append]
theorem step_perm {a b : List Rec} (h : a.Perm b) (x : Rec) : (stepL a x).Perm (stepL b x) := ((h.filter _).map _).append_right _
theorem fold_perm {a b : List Rec} (h : a.Perm b) (xs : List Rec) : (foldL a xs).Perm (foldL b xs) := by
  induction xs generalizing a b with
  | nil => exact h
  | cons x t ih => exact ih (step_perm h x)
theorem blk_five {a b : List Rec} (h : ∀ n : ByteArray, (∃ y ∈ a, y.typ = 5 ∧ y.owner = n) ↔ ∃ y ∈ b, y.typ = 5 ∧ y.owner = n) (x : Rec) : blkB a x = blkB b x := by
  rw [Bool.eq_iff_iff]
  unfold blkB
  simp only [List.any_eq_true, Bool.and_eq_true, decide_eq_true_eq]
  constructor
  · rintro ⟨y, hy, h1, h2, h3⟩
    obtain ⟨z, hz, h4, h5⟩ := (h y.owner).1 ⟨y, hy, h2, rfl⟩
    exact ⟨z, hz, by rw [h5]; exact h1, h4, h3⟩
  · rintro ⟨y, hy, h1, h2, h3⟩
    obtain ⟨z, hz, h4, h5⟩ := (h y.owner).2 ⟨y, hy, h2, rfl⟩
    exact ⟨z, hz, by rw [h5]; exact h1, h4, h3⟩
theorem step_five {l : List Rec} {x : Rec} (h5 : x.typ ≠ 5) (n : ByteArray) : (∃ y ∈ stepL l x, y.typ = 5 ∧ y.owner = n) ↔ ∃ y ∈ l, y.typ = 5 ∧ y.owner = n := by
  unfold stepL
  constructor
  · rintro ⟨y, hy, h1, h2⟩
    rcases List.mem_append.1 hy with hy | hy
    · obtain ⟨r, hr, rfl⟩ := List.mem_map.1 hy
      exact ⟨r, (List.mem_filter.1 hr).1, by rw [age_typ] at h1; exact h1, by rw [age_owner] at h2; exact h2⟩
    · rw [List.mem_singleton.1 hy] at h1; exact absurd h1 h5
  · rintro ⟨y, hy, h1, h2⟩
    refine ⟨ageR x y, List.mem_append_left _ (List.mem_map_of_mem (List.mem_filter.2 ⟨hy, ?_⟩)), by rw [age_typ]; exact h1, by rw [age_owner]; exact h2⟩
    have : decide (x.typ = y.typ) = false := decide_eq_false (by omega)
    unfold zn.alikeB
    rw [this]; rfl
theorem change_five {apex : ByteArray} {l : List Rec} {x : Rec} (hx : Plain x) (n : ByteArray) : (∃ y ∈ changeL apex l x, y.typ = 5 ∧ y.owner = n) ↔ ∃ y ∈ l, y.typ = 5 ∧ y.owner = n := by
  rw [add_plain hx]
  split
  · exact Iff.rfl
  · exact step_five hx.2.1 n
theorem changes_five {apex : ByteArray} {xs : List Rec} (hx : ∀ x ∈ xs, Plain x) (l : List Rec) (n : ByteArray) : (∃ y ∈ changesL apex l xs, y.typ = 5 ∧ y.owner = n) ↔ ∃ y ∈ l, y.typ = 5 ∧ y.owner = n := by
  induction xs generalizing l with
  | nil => exact Iff.rfl
  | cons x t ih =>
    show (∃ y ∈ changesL apex (changeL apex l x) t, _) ↔ _
    rw [ih (fun z hz => hx z (List.mem_cons_of_mem _ hz)), change_five (hx x (List.mem_cons_self ..))]
theorem changes_fold {apex : ByteArray} {xs : List Rec} (hx : ∀ x ∈ xs, Plain x) (l : List Rec) : changesL apex l xs = foldL l (xs.filter fun x => !blkB l x) := by
  have h : ∀ (xs : List Rec), (∀ x ∈ xs, Plain x) → ∀ l l0 : List Rec, (∀ x, blkB l x = blkB l0 x) → changesL apex l xs = foldL l (xs.filter fun x => !blkB l0 x) := by
    intro xs
    induction xs with
    | nil => intro _ l l0 _; rfl
    | cons x t ih =>
      intro hx l l0 hb
      show changesL apex (changeL apex l x) t = _
      have hp := hx x (List.mem_cons_self ..)
      rw [ih (fun z hz => hx z (List.mem_cons_of_mem _ hz)) (changeL apex l x) l0 (fun z => (blk_five (change_five hp) z).trans (hb z)), add_plain hp, hb x]
      cases hb2 : blkB l0 x
      · rw [List.filter_cons_of_pos (by rw [hb2]; rfl)]
        rfl
      · rw [List.filter_cons_of_neg (by rw [hb2]; simp)]
        rfl
  exact h xs hx l l fun _ => rfl
theorem bump_not {ser : Int} {y : Rec} (h : y.typ ≠ 6) : bumpX ser y = y := by unfold bumpX; exact if_neg fun hh => h hh.1
theorem bump_typ (ser : Int) (y : Rec) : (bumpX ser y).typ = y.typ := by unfold bumpX; split <;> rfl
theorem out_map (apex : ByteArray) (L au : List Rec) : ∃ B : Rec → Rec, outL apex L au = (changesL apex L au).map B ∧ (∀ y, y.typ ≠ 6 → B y = y) ∧ ∀ y, y.typ = 6 → (B y).typ = 6 := by
  by_cases h : (changesL apex L au).Perm L
  · exact ⟨id, by rw [out_same h, List.map_id], fun _ _ => rfl, fun _ h => h⟩
  · exact ⟨_, out_other h, fun y hy => bump_not hy, fun y hy => by rw [bump_typ]; exact hy⟩
theorem out_again {apex : ByteArray} {L L1 xs : List Rec} (hx : ∀ x ∈ xs, Plain x) (h1 : L1.Perm (outL apex L xs)) : (changesL apex L1 xs).Perm L1 := by
  obtain ⟨B, hB, hB1, hB6⟩ := out_map apex L xs
  have hb : ∀ x, blkB L1 x = blkB L x := fun x => blk_five (fun n => by
    rw [← changes_five (apex := apex) hx L n]
    constructor
    · rintro ⟨y, hy, h2, h3⟩
      rw [h1.mem_iff, hB] at hy
      obtain ⟨r, hr, rfl⟩ := List.mem_map.1 hy
      by_cases h6 : r.typ = 6
      · have := hB6 r h6; omega
      · rw [hB1 r h6] at h2 h3
        exact ⟨r, hr, h2, h3⟩
    · rintro ⟨y, hy, h2, h3⟩
      refine ⟨y, ?_, h2, h3⟩
      rw [h1.mem_iff, hB]
      exact List.mem_map.2 ⟨y, hy, hB1 y (by omega)⟩) x
  rw [changes_fold hx L1]
  have he : (xs.filter fun x => !blkB L1 x) = xs.filter fun x => !blkB L x := List.filter_congr fun x _ => by rw [hb]
  rw [he]
  rw [hB, changes_fold hx L] at h1
  have h2 := fold_perm h1 (xs.filter fun x => !blkB L x)
  rw [fold_again (fun x hx' => (hx x (List.mem_filter.1 hx').1).2.2.2) (fun x hx' => (hx x (List.mem_filter.1 hx').1).2.2.1) B hB1 hB6 L] at h2
  exact h2.trans h1.symm
end up
end Go.Proofs.YtdjjemajfphjaaaGreat

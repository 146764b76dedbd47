/-
  zone: records, their order, signs.
-/
import Derived.Test.YtnloommafgnanaaGreatQDataS
import Derived.Test.YtnloommafgnanaaGreatQDrawn
import Derived.Test.YtnloommafgnanaaGreatQNameE
import Derived.WalkLawsBesides
import Derived.Lib.Small
import Derived.Sort.Statements
namespace Go.Proofs.YtnloommafgnanaaGreat
open Go.RowKit Go.Shelf Go.Proofs.YtnloommafgnanaaGreat.nm

/-- A record. -/
structure Rec where
  owner : ByteArray
  typ : Int
  cls : Int
  ttl : Int
  data : ByteArray
  deriving DecidableEq
/-- Its cells. -/
@[reducible] def recC (r : Rec) : List Value := [.string r.owner, .int .i64 r.typ, .int .i64 r.cls, .int .i64 r.ttl, .string r.data]
@[reducible] def recV (r : Rec) : Value := .agg #[.string r.owner, .int .i64 r.typ, .int .i64 r.cls, .int .i64 r.ttl, .string r.data]

namespace zn
def orL : List Int → Int
  | [] => 0
  | a :: l => if a = 0 then orL l else a
/-- zone.order. -/
def orderI (x y : Rec) : Int := orL [compareI x.owner y.owner, Lib.compareInt x.typ y.typ, Lib.compareBytes (dt.foldD x.typ x.data).data.toList (dt.foldD y.typ y.data).data.toList]
end zn

theorem rec_cell (w : World) (r : Rec) (t : TypeId) (j : Nat) (v : Value) (h : (recC r)[j]? = some v) : (w.alloc (.cells (recC r).toArray t)).cell? ⟨w.heap.size, j, none⟩ = some v := by
  rw [heap_cell (heap_new_at rfl)]
  simpa using h

end Go.Proofs.YtnloommafgnanaaGreat
/-
  zone: rows of records; signs; each.
-/
namespace Go.Proofs.YtnloommafgnanaaGreat
open Go.RowKit Go.Shelf Go.Proofs.YtnloommafgnanaaGreat.nm

/-- A record lies at a place. -/
def RecAt (w : World) (b off : Nat) (r : Rec) : Prop :=
  w.cell? ⟨b, off, none⟩ = some (.string r.owner) ∧ w.cell? ⟨b, off + 1, none⟩ = some (.int .i64 r.typ) ∧ w.cell? ⟨b, off + 2, none⟩ = some (.int .i64 r.cls) ∧
  w.cell? ⟨b, off + 3, none⟩ = some (.int .i64 r.ttl) ∧ w.cell? ⟨b, off + 4, none⟩ = some (.string r.data)
/-- A slice of records reads as l. -/
def RecsAt (w : World) (v : Value) (l : List Rec) : Prop :=
  ∃ a cap, v = .slice a l.length cap ∧ l.length ≤ cap ∧ ∀ k (hk : k < l.length), ∃ b off, a = some ⟨b, off, none⟩ ∧ b < w.heap.size ∧ RecAt w b (off + k * 5) l[k]
theorem RecAt.keep {w w' : World} {b off : Nat} {r : Rec} (h : RecAt w b off r) (hk : w'.heap[b]? = w.heap[b]?) : RecAt w' b off r := by
  have e : ∀ i, w'.cell? ⟨b, i, none⟩ = w.cell? ⟨b, i, none⟩ := fun i => World.cell?_of_block (w := w) (a := ⟨b, i, none⟩) hk
  exact ⟨(e _).trans h.1, (e _).trans h.2.1, (e _).trans h.2.2.1, (e _).trans h.2.2.2.1, (e _).trans h.2.2.2.2⟩
theorem RecsAt.below {w w' : World} {v : Value} {l : List Rec} (h : RecsAt w v l) (hb : Below w.heap.size w w') : RecsAt w' v l := by
  obtain ⟨a, cap, hv, hc, hr⟩ := h
  refine ⟨a, cap, hv, hc, fun k hk => ?_⟩
  obtain ⟨b, off, ha, hbl, hra⟩ := hr k hk
  exact ⟨b, off, ha, Nat.lt_of_lt_of_le hbl hb.size, hra.keep (hb.block b hbl)⟩

namespace zn
end zn

end Go.Proofs.YtnloommafgnanaaGreat
/-
  Comparisons that order: names, records. No program walked.
-/
namespace Go.Proofs.YtnloommafgnanaaGreat
open Go.RowKit Go.Shelf Go.Proofs.YtnloommafgnanaaGreat.nm

namespace od
/-- A comparison: both ways round, and in a row. -/
structure Cmp {α : Type} (c : α → α → Int) : Prop where
  anti : ∀ a b, c a b < 0 ↔ 0 < c b a
  trans : ∀ a b d, c a b ≤ 0 → c b d ≤ 0 → c a d ≤ 0

section
variable {α : Type} {c : α → α → Int} (h : Cmp c)
include h
theorem Cmp.le (a b : α) : c a b ≤ 0 ↔ 0 ≤ c b a := by have := h.anti b a; omega
theorem Cmp.zero (a b : α) : c a b = 0 ↔ c b a = 0 := by have := h.anti a b; have := h.anti b a; omega
theorem Cmp.self (a : α) : c a a = 0 := by have := h.anti a a; omega
theorem Cmp.congr {a b : α} (e : c a b = 0) (d : α) : (c a d ≤ 0 ↔ c b d ≤ 0) ∧ (0 ≤ c a d ↔ 0 ≤ c b d) := by
  have e' := (h.zero a b).1 e
  have h1 := h.trans a b d
  have h2 := h.trans b a d
  have h3 := h.trans d a b
  have h4 := h.trans d b a
  have h5 := h.le d a
  have h6 := h.le d b
  omega
theorem Cmp.pull {β : Type} (f : β → α) : Cmp (fun a b => c (f a) (f b)) := ⟨fun _ _ => h.anti _ _, fun _ _ _ => h.trans _ _ _⟩
end

theorem Cmp.lex {α : Type} {c d : α → α → Int} (hc : Cmp c) (hd : Cmp d) : Cmp (fun a b => if c a b = 0 then d a b else c a b) where
  anti := fun a b => by
    have h1 := hc.zero a b
    have h2 := hc.anti a b
    have h3 := hd.anti a b
    show (if c a b = 0 then d a b else c a b) < 0 ↔ 0 < (if c b a = 0 then d b a else c b a)
    split <;> split <;> omega
  trans := fun a b e h1 h2 => by
    show (if c a e = 0 then d a e else c a e) ≤ 0
    have k1 : c a b ≤ 0 := by revert h1; show (if c a b = 0 then d a b else c a b) ≤ 0 → _; split <;> omega
    have k2 : c b e ≤ 0 := by revert h2; show (if c b e = 0 then d b e else c b e) ≤ 0 → _; split <;> omega
    have k3 := hc.trans a b e k1 k2
    split
    · rename_i h0
      have k4 : c e a = 0 := (hc.zero a e).1 h0
      have k5 := hc.trans e a b (by omega) k1
      have k6 := hc.le e b
      have k7 : c b e = 0 := by omega
      have k8 := hc.trans b e a k2 (by omega)
      have k9 := hc.le b a
      have k10 : c a b = 0 := by omega
      refine hd.trans a b e ?_ ?_
      · revert h1; show (if c a b = 0 then d a b else c a b) ≤ 0 → _; rw [if_pos k10]; exact id
      · revert h2; show (if c b e = 0 then d b e else c b e) ≤ 0 → _; rw [if_pos k7]; exact id
    · exact k3

/-- Lists, the first places first. -/
def listC {α : Type} (c : α → α → Int) : List α → List α → Int
  | [], [] => 0
  | [], _ :: _ => -1
  | _ :: _, [] => 1
  | a :: x, b :: y => if c a b = 0 then listC c x y else c a b
theorem listC_zero {α : Type} {c : α → α → Int} (hz : ∀ a b, c a b = 0 ↔ a = b) : ∀ x y : List α, listC c x y = 0 ↔ x = y
  | [], [] => by simp [listC]
  | [], _ :: _ => by simp [listC]
  | _ :: _, [] => by simp [listC]
  | a :: x, b :: y => by
    rw [listC]
    by_cases e : c a b = 0
    · rw [if_pos e, listC_zero hz x y, (hz a b).1 e]; simp
    · rw [if_neg e]
      constructor
      · intro h; exact absurd h e
      · intro h; injection h with h1 h2; exact absurd ((hz a b).2 h1) e
theorem Cmp.list {α : Type} {c : α → α → Int} (hc : Cmp c) : Cmp (listC c) where
  anti := by
    intro x
    induction x with
    | nil => intro y; cases y <;> simp [listC]
    | cons a x ih =>
      intro y
      cases y with
      | nil => simp [listC]
      | cons b y =>
        rw [listC, listC]
        have h1 := hc.zero a b
        have h2 := hc.anti a b
        have h3 := ih y
        split <;> split <;> omega
  trans := by
    intro x
    induction x with
    | nil => intro y z _ _; cases z <;> simp [listC]
    | cons a x ih =>
      intro y z h1 h2
      cases y with
      | nil => simp [listC] at h1
      | cons b y =>
        cases z with
        | nil => simp [listC] at h2
        | cons e z =>
          rw [listC] at *
          have k1 : c a b ≤ 0 := by revert h1; split <;> omega
          have k2 : c b e ≤ 0 := by revert h2; split <;> omega
          have k3 := hc.trans a b e k1 k2
          split
          · rename_i h0
            have k4 : c e a = 0 := (hc.zero a e).1 h0
            have k5 := hc.trans e a b (by omega) k1
            have k6 := hc.le e b
            have k7 : c b e = 0 := by omega
            have k8 := hc.trans b e a k2 (by omega)
            have k9 := hc.le b a
            have k10 : c a b = 0 := by omega
            rw [if_pos k10] at h1
            rw [if_pos k7] at h2
            exact ih y z h1 h2
          · exact k3

def byteC (a b : UInt8) : Int := if a < b then -1 else if b < a then 1 else 0
theorem byteC_cmp : Cmp byteC where
  anti := fun a b => by
    unfold byteC
    simp only [UInt8.lt_iff_toNat_lt]
    repeat' split
    all_goals omega
  trans := fun a b d => by
    unfold byteC
    simp only [UInt8.lt_iff_toNat_lt]
    repeat' split
    all_goals omega
theorem byteC_zero (a b : UInt8) : byteC a b = 0 ↔ a = b := by
  unfold byteC
  simp only [UInt8.lt_iff_toNat_lt, ← UInt8.toNat_inj]
  repeat' split
  all_goals omega
theorem compareBytes_eq : ∀ x y : List UInt8, Lib.compareBytes x y = listC byteC x y
  | [], [] => rfl
  | [], _ :: _ => rfl
  | _ :: _, [] => rfl
  | a :: x, b :: y => by
    rw [Lib.compareBytes, listC, compareBytes_eq x y]
    unfold byteC
    repeat' split
    all_goals first | omega | rfl | simp_all
theorem bytes_cmp : Cmp Lib.compareBytes := by
  have : Lib.compareBytes = listC byteC := by funext x y; exact compareBytes_eq x y
  rw [this]; exact byteC_cmp.list
theorem bytes_zero (x y : List UInt8) : Lib.compareBytes x y = 0 ↔ x = y := by rw [compareBytes_eq]; exact listC_zero byteC_zero x y
theorem text_cmp : Cmp (fun a b : ByteArray => Lib.compareBytes a.data.toList b.data.toList) := bytes_cmp.pull fun a : ByteArray => a.data.toList
theorem text_zero (a b : ByteArray) : Lib.compareBytes a.data.toList b.data.toList = 0 ↔ a = b := by
  rw [bytes_zero]
  exact ⟨ba_ext, fun h => by rw [h]⟩
theorem int_cmp : Cmp Lib.compareInt where
  anti := fun a b => by unfold Lib.compareInt; repeat' split
                        all_goals omega
  trans := fun a b d => by unfold Lib.compareInt; repeat' split
                           all_goals omega
theorem int_zero (a b : Int) : Lib.compareInt a b = 0 ↔ a = b := by
  unfold Lib.compareInt
  repeat' split
  all_goals omega
theorem cmpRows_eq : ∀ x y : List ByteArray, cmpRows x y = listC (fun a b : ByteArray => Lib.compareBytes a.data.toList b.data.toList) x y
  | [], [] => rfl
  | [], _ :: _ => rfl
  | _ :: _, [] => rfl
  | a :: x, b :: y => by rw [cmpRows, listC, cmpRows_eq x y]
theorem rowsC_cmp : Cmp cmpRows := by
  have : cmpRows = listC (fun a b : ByteArray => Lib.compareBytes a.data.toList b.data.toList) := by funext x y; exact cmpRows_eq x y
  rw [this]; exact text_cmp.list
theorem rowsC_zero (x y : List ByteArray) : cmpRows x y = 0 ↔ x = y := by rw [cmpRows_eq]; exact listC_zero text_zero x y

/-- The labels of a name, as texts. -/
theorem marksAt_labels : ∀ (ls : List (List UInt8)) (k : Nat), RowOk ls → keepL (marksAt k ls) = ls.map fun l => ⟨l.toArray⟩ := by
  intro ls
  induction ls with
  | nil =>
    intro k _
    simp [keepL, marksAt]
  | cons l ls ih =>
    intro k h
    have h1 := ih (k + 1 + l.length) (fun x hx => h x (by simp [hx]))
    have h2 := h l (by simp)
    unfold keepL at h1 ⊢
    rw [marksAt, List.map_cons, List.filter_cons_of_pos, h1]
    · rfl
    · rw [ByteArray.toList_eq]
      cases l with
      | nil => exact absurd h2 (by simp)
      | cons c l => rfl
theorem labelsL_rows {s : ByteArray} {ls : List (List UInt8)} (h : rows s = some ls) : labelsL s = ls.map fun l => ⟨l.toArray⟩ := by
  obtain ⟨_, h2, _, h4⟩ := rows_some h
  unfold labelsL
  rw [if_pos (check_of h), h4]
  exact marksAt_labels ls 0 h2
/-- The rows of a name, the last label first, in small letters. -/
def nameK (s : ByteArray) : List ByteArray := (labelsL (lowS s)).reverse
theorem nameK_rows {s : ByteArray} {ls : List (List UInt8)} (h : rows s = some ls) : nameK s = ((lowR ls).map fun l => (⟨l.toArray⟩ : ByteArray)).reverse := by
  unfold nameK
  rw [labelsL_rows (rows_low h)]
theorem compareI_key {a b : ByteArray} (ha : checkB a = true) (hb : checkB b = true) : compareI a b = cmpRows (nameK a) (nameK b) := by
  unfold compareI
  rw [if_pos ⟨ha, hb⟩]
  rfl
theorem mk_inj : ∀ x y : List (List UInt8), (x.map fun l => (⟨l.toArray⟩ : ByteArray)) = (y.map fun l => (⟨l.toArray⟩ : ByteArray)) → x = y
  | [], [], _ => rfl
  | [], _ :: _, h => by simp at h
  | _ :: _, [], h => by simp at h
  | a :: x, b :: y, h => by
    simp only [List.map_cons, List.cons.injEq] at h
    rw [mk_inj x y h.2]
    have := congrArg (fun s : ByteArray => s.data.toList) h.1
    simp only at this
    rw [this]
theorem nameK_inj {a b : ByteArray} (ha : checkB a = true) (hb : checkB b = true) : nameK a = nameK b ↔ foldS a = foldS b := by
  obtain ⟨x, hx⟩ := rows_check ha
  obtain ⟨y, hy⟩ := rows_check hb
  rw [nameK_rows hx, nameK_rows hy, foldS_row hx, foldS_row hy]
  constructor
  · intro h
    rw [mk_inj _ _ (List.reverse_inj.1 h)]
  · intro h
    obtain ⟨a1, a2, _, _⟩ := rows_some hx
    obtain ⟨b1, b2, _, _⟩ := rows_some hy
    rw [nameOf_inj (rowOk_low a2) (rowOk_low b2) (by rw [putL_low_len a2, rows_len hx]; exact a1) h]
theorem compareI_zero {a b : ByteArray} (ha : checkB a = true) (hb : checkB b = true) : compareI a b = 0 ↔ foldS a = foldS b := by
  rw [compareI_key ha hb, rowsC_zero, nameK_inj ha hb]

/-- Names. -/
abbrev Nm := { s : ByteArray // checkB s = true }
theorem names_cmp : Cmp (fun a b : Nm => compareI a.1 b.1) := by
  have h : (fun a b : Nm => compareI a.1 b.1) = fun a b : Nm => cmpRows (nameK a.1) (nameK b.1) := by funext a b; exact compareI_key a.2 b.2
  rw [h]
  exact rowsC_cmp.pull fun a : Nm => nameK a.1
/-- Records at names. -/
abbrev RecN := { r : Rec // checkB r.owner = true }
theorem orderI_if (x y : Rec) : zn.orderI x y = if compareI x.owner y.owner = 0 then (if Lib.compareInt x.typ y.typ = 0 then Lib.compareBytes (dt.foldD x.typ x.data).data.toList (dt.foldD y.typ y.data).data.toList else Lib.compareInt x.typ y.typ) else compareI x.owner y.owner := by
  unfold zn.orderI zn.orL zn.orL zn.orL zn.orL
  repeat' split
  all_goals first | rfl | omega
theorem recs_cmp : Cmp (fun a b : RecN => zn.orderI a.1 b.1) := by
  have h : (fun a b : RecN => zn.orderI a.1 b.1) = fun a b : RecN => if compareI a.1.owner b.1.owner = 0 then (if Lib.compareInt a.1.typ b.1.typ = 0 then Lib.compareBytes (dt.foldD a.1.typ a.1.data).data.toList (dt.foldD b.1.typ b.1.data).data.toList else Lib.compareInt a.1.typ b.1.typ) else compareI a.1.owner b.1.owner := by
    funext a b; exact orderI_if _ _
  rw [h]
  exact (names_cmp.pull fun a : RecN => (⟨a.1.owner, a.2⟩ : Nm)).lex ((int_cmp.pull fun a : RecN => a.1.typ).lex (text_cmp.pull fun a : RecN => dt.foldD a.1.typ a.1.data))
theorem orderI_zero {x y : Rec} (hx : checkB x.owner = true) (hy : checkB y.owner = true) : zn.orderI x y = 0 ↔ foldS x.owner = foldS y.owner ∧ x.typ = y.typ ∧ dt.foldD x.typ x.data = dt.foldD y.typ y.data := by
  rw [orderI_if]
  have h1 := compareI_zero hx hy
  have h2 := int_zero x.typ y.typ
  have h3 := text_zero (dt.foldD x.typ x.data) (dt.foldD y.typ y.data)
  by_cases e1 : compareI x.owner y.owner = 0
  · rw [if_pos e1]
    by_cases e2 : Lib.compareInt x.typ y.typ = 0
    · rw [if_pos e2, h3]
      exact ⟨fun h => ⟨h1.1 e1, h2.1 e2, h⟩, fun h => h.2.2⟩
    · rw [if_neg e2]
      exact ⟨fun h => absurd h e2, fun h => absurd (h2.2 h.2.1) e2⟩
  · rw [if_neg e1]
    exact ⟨fun h => absurd h e1, fun h => absurd (h1.2 h.1) e1⟩

/-! ### What is sorted is one list -/
section
variable {α : Type} {c : α → α → Int}
end
end od
end Go.Proofs.YtnloommafgnanaaGreat

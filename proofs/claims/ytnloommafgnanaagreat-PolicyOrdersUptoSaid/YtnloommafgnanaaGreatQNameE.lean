/-
  name.IsStar.
-/
import Derived.Test.YtnloommafgnanaaGreatQNameA
import Derived.Test.YtnloommafgnanaaGreatQShelf
import Derived.Test.YtnloommafgnanaaGreatQDataF
import Derived.Test.YtnloommafgnanaaGreatQMarks
import Derived.Deep.QuietTactic
import Derived.BigQuiet
import Derived.Lib.Bytealg
import Derived.Lib.Strings
namespace Go.Proofs.YtnloommafgnanaaGreat
open Go.RowKit Go.Shelf
namespace nm
def isStarB (s : ByteArray) : Bool := checkB s && Lib.hasPrefix s.data.toList starHead.data.toList
end nm
end Go.Proofs.YtnloommafgnanaaGreat
/-
  name.Labels.
-/
namespace Go.Proofs.YtnloommafgnanaaGreat
open Go.RowKit Go.Shelf
attribute [local go_sem] Oper.semAt_some
namespace nm
def keepL (p : List (Nat × ByteArray)) : List ByteArray := (p.map (·.2)).filter (fun l => !l.toList.isEmpty)
/-- The labels of a name. -/
def labelsL (s : ByteArray) : List ByteArray := if checkB s = true then keepL (marks s) else []
end nm

theorem info_str : (Tryz.prog.info? 9).map (fun i => (i.zero, i.size, i.bytes)) = some (some (.string ByteArray.empty), 1, 16) := by kernel_rfl

theorem ownsRow_base {W : World} {base base' : Nat} {e : TypeId} {size : Nat} {v : Value} {m : Nat} {xs : List Value} (h : W.ownsRow base e size v m xs) (hb : base' ≤ base) : W.ownsRow base' e size v m xs := by
  refine ⟨h.1, ?_⟩
  rcases h.2 with hn | ⟨g, cap, cur, hv, hg, rest⟩
  · exact .inl hn
  · exact .inr ⟨g, cap, cur, hv, by omega, rest⟩

end Go.Proofs.YtnloommafgnanaaGreat
/-
  name.Compare.
-/
namespace Go.Proofs.YtnloommafgnanaaGreat
open Go.RowKit Go.Shelf
namespace nm
/-- Which of two rows of labels comes first, the last labels first. -/
def cmpRows : List ByteArray → List ByteArray → Int
  | [], [] => 0
  | [], _ :: _ => -1
  | _ :: _, [] => 1
  | a :: x, b :: y => if Lib.compareBytes a.data.toList b.data.toList = 0 then cmpRows x y else Lib.compareBytes a.data.toList b.data.toList
/-- name.Compare. -/
def compareI (a b : ByteArray) : Int := if checkB a = true ∧ checkB b = true then cmpRows (labelsL (lowS a)).reverse (labelsL (lowS b)).reverse else 0
theorem lowS_size (s : ByteArray) : (lowS s).size = s.size := by
  show (lowS s).data.size = s.data.size
  unfold lowS
  simp
end nm

theorem belowD {B : Nat} {a w : World} (h : Below B a w) (n : Nat) : Below B a (w.drewN n) := ⟨h.os, h.tape, h.output, h.size, h.block⟩
/-- A row of texts, as the walk reads it. -/
theorem row_form {W W' : World} {base : Nat} {e : TypeId} {v : Value} {xs : List ByteArray} (h : W.ownsRow base e 1 v xs.length (xs.map .string)) (hk : ∀ g, g < W.heap.size → W'.heap[g]? = W.heap[g]?) :
    ∃ a cap, v = .slice a xs.length cap ∧ xs.length ≤ cap ∧ ∀ j (hj : j < xs.length), ∃ g, a = some ⟨g, 0, none⟩ ∧ W'.cell? ⟨g, j, none⟩ = some (.string xs[j]) := by
  rcases h.2 with ⟨rfl, h0⟩ | ⟨g, cap, cur, rfl, _, hg, hnc, _, _, hx⟩
  · exact ⟨none, 0, by rw [h0], by omega, fun j hj => by omega⟩
  · refine ⟨_, cap, rfl, hnc, fun j hj => ⟨g, rfl, ?_⟩⟩
    have hg' := (hk g (heap_lt hg)).trans hg
    rw [heap_cell hg']
    have h2 : (xs.map Value.string)[j]? = some (.string xs[j]) := by rw [List.getElem?_map, List.getElem?_eq_getElem hj]; rfl
    rw [← h2, ← hx, List.getElem?_take]
    split
    · simp
    · omega

theorem ownsRow_cells {W : World} {base : Nat} {e : TypeId} {g n cap : Nat} {xs : List Value} (h : W.ownsRow base e 1 (.slice (some ⟨g, 0, none⟩) n cap) n xs) : ∀ j (hj : j < xs.length), W.cell? ⟨g, j, none⟩ = some xs[j] := by
  intro j hj
  rcases h.2 with ⟨h0, _⟩ | ⟨g', cap', cur, he, _, hg, hnc, _, _, hx⟩
  · cases h0
  · simp only [Value.slice.injEq, Option.some.injEq, Addr.mk.injEq, and_true, true_and] at he
    obtain ⟨rfl, rfl⟩ := he
    rw [heap_cell hg]
    have h2 : xs[j]? = some xs[j] := List.getElem?_eq_getElem hj
    rw [← h2, ← hx, List.getElem?_take]
    split
    · simp
    · have := h.1; omega

end Go.Proofs.YtnloommafgnanaaGreat
/-
  Names as rows of labels: small letters, tails, parents, what is within.
-/
namespace Go.Proofs.YtnloommafgnanaaGreat.nm

/-- The name of a row of labels. -/
def nameOf (ls : List (List UInt8)) : ByteArray := ⟨(putL ls).toArray⟩
/-- A row in small letters. -/
def lowR (ls : List (List UInt8)) : List (List UInt8) := ls.map (·.map lowB)

theorem rows_of {ls : List (List UInt8)} (ho : RowOk ls) (hl : (putL ls).length ≤ 255) : rows (nameOf ls) = some ls := rows_put ho hl
theorem rows_len {s : ByteArray} {ls : List (List UInt8)} (h : rows s = some ls) : (putL ls).length = s.size := by
  rw [← (rows_some h).2.2.1]; exact Array.length_toList
theorem lowB_small {c : UInt8} (h : c.toNat < 65) : lowB c = c := lowB_no (by omega)
theorem putL_low : ∀ (ls : List (List UInt8)), RowOk ls → (putL ls).map lowB = putL (lowR ls) := by
  intro ls
  induction ls with
  | nil => intro _; rfl
  | cons l ls ih =>
    intro h
    obtain ⟨h0, h1⟩ := h l (by simp)
    rw [putL, List.map_cons, List.map_append, ih (fun x hx => h x (by simp [hx]))]
    show _ = putL (l.map lowB :: lowR ls)
    rw [putL, List.length_map, lowB_small]
    rw [UInt8.toNat_ofNat']
    omega
theorem rowOk_low {ls : List (List UInt8)} (h : RowOk ls) : RowOk (lowR ls) := fun l hl => by
  obtain ⟨x, hx, rfl⟩ := List.mem_map.1 hl
  simpa using h x hx
theorem putL_low_len {ls : List (List UInt8)} (h : RowOk ls) : (putL (lowR ls)).length = (putL ls).length := by rw [← putL_low ls h, List.length_map]
theorem lowS_row {s : ByteArray} {ls : List (List UInt8)} (h : rows s = some ls) : lowS s = nameOf (lowR ls) := by
  obtain ⟨_, h2, h3, _⟩ := rows_some h
  apply ba_ext
  show s.data.toList.map lowB = putL (lowR ls)
  rw [h3, putL_low ls h2]
theorem rows_low {s : ByteArray} {ls : List (List UInt8)} (h : rows s = some ls) : rows (lowS s) = some (lowR ls) := by
  obtain ⟨h1, h2, h3, _⟩ := rows_some h
  rw [lowS_row h]
  exact rows_of (rowOk_low h2) (by rw [putL_low_len h2, rows_len h]; exact h1)
theorem foldS_row {s : ByteArray} {ls : List (List UInt8)} (h : rows s = some ls) : foldS s = nameOf (lowR ls) := by
  unfold foldS
  rw [checkB_rows, h, if_pos (show (some ls).isSome = true from rfl), lowS_row h]
theorem rows_check {s : ByteArray} (h : checkB s = true) : ∃ ls, rows s = some ls := by
  rw [checkB_rows] at h
  exact Option.isSome_iff_exists.1 h
theorem check_of {s : ByteArray} {ls : List (List UInt8)} (h : rows s = some ls) : checkB s = true := by rw [checkB_rows, h]; rfl
theorem nameOf_inj {a b : List (List UInt8)} (ha : RowOk a) (hb : RowOk b) (hl : (putL a).length ≤ 255) (h : nameOf a = nameOf b) : a = b := by
  have h1 : putL a = putL b := by
    have := congrArg (fun s : ByteArray => s.data.toList) h
    simpa [nameOf] using this
  have h2 := rows_of ha hl
  rw [h, rows_of hb (by rw [← h1]; exact hl)] at h2
  exact (Option.some.inj h2).symm
end Go.Proofs.YtnloommafgnanaaGreat.nm

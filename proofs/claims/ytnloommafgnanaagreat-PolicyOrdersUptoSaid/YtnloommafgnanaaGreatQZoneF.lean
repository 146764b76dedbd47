/-
  zone.gather.
-/
import Derived.Test.YtnloommafgnanaaGreatQZoneC
import Derived.Deep.RegionHeld3
import Derived.Maps.Range
namespace Go.Proofs.YtnloommafgnanaaGreat
open Go.RowKit Go.Shelf Go.WideMaps Go.Proofs.YtnloommafgnanaaGreat.nm

theorem info_rec : (Tryz.prog.info? 42).map (fun i => (i.zero, i.size, i.bytes)) = some (some (.agg #[.string ⟨#[]⟩, .int .i64 0, .int .i64 0, .int .i64 0, .string ⟨#[]⟩]), 5, 56) := by kernel_rfl

end Go.Proofs.YtnloommafgnanaaGreat
/-
  zone.rules: the six rules that it hands to each.
-/
namespace Go.Proofs.YtnloommafgnanaaGreat
open Go.RowKit Go.Shelf Go.WideMaps Go.Proofs.YtnloommafgnanaaGreat.nm

/-! ### Maps of counts -/
/-- A map of ints: what each key reads. -/
def CountM {α : Type} [DecidableEq α] (encK : α → Value) (Kok : α → Prop) (w : World) (b : Nat) (f : α → Int) : Prop :=
  ∃ (dom : List α) (g : α → Int), MapF encK Kok w b dom (fun a => .int .i64 (g a)) ∧ ∀ a, f a = if a ∈ dom then g a else 0
section
variable {α : Type} [DecidableEq α] {encK : α → Value} {Kok : α → Prop} {w w' : World} {b : Nat} {f : α → Int} {k t : TypeId}
theorem CountM.keep (h : CountM encK Kok w b f) (hk : b < w.heap.size → w'.heap[b]? = w.heap[b]?) : CountM encK Kok w' b f := by
  obtain ⟨d, g, h1, h2⟩ := h
  exact ⟨d, g, h1.keep fun o ho => (hk (heap_lt ho)).trans ho, h2⟩
theorem CountM.below (h : CountM encK Kok w b f) (hb : Below w.heap.size w w') : CountM encK Kok w' b f := h.keep fun hlt => hb.block b hlt
theorem CountM.drew (h : CountM encK Kok w b f) : CountM encK Kok w.drew b f := h
theorem CountM.alloc (h : CountM encK Kok w b f) (o : Obj) : CountM encK Kok (w.alloc o) b f := h.keep fun hb => Below.heap_alloc w o b hb
theorem CountM.lt (h : CountM encK Kok w b f) : b < w.heap.size := by obtain ⟨_, _, h1, _⟩ := h; exact h1.lt
theorem CountM.congr {f' : α → Int} (h : CountM encK Kok w b f) (hf : ∀ a, f a = f' a) : CountM encK Kok w b f' := by
  obtain ⟨d, g, h1, h2⟩ := h
  exact ⟨d, g, h1, fun a => (hf a).symm.trans (h2 a)⟩
theorem CountM.grown (h : CountM encK Kok w b f) {row : Option Nat} (hg : w.grownBy w' row) (hne : row ≠ some b) : CountM encK Kok w' b f := h.keep fun hlt => hg.block b hlt (Ne.symm hne)
theorem CountM.made (w : World) (encK : α → Value) (Kok : α → Prop) : CountM encK Kok (w.alloc (.map #[] 0)) w.heap.size (fun _ => 0) :=
  ⟨[], fun _ => 0, MapF.made w _ _ _, fun a => by simp⟩
theorem CountM.look (K : KeyE Tryz.prog k encK Kok) (ht : Tryz.prog.underlying t = some (.map k 3)) (h : CountM encK Kok w b f) {a : α} (ha : Kok a) :
    (Instr.lookup t (.map (some b)) (encK a) false).run Tryz.prog w = .ok (.int .i64 (f a)) w := by
  obtain ⟨d, g, h1, h2⟩ := h
  rw [mapF_look K ht zero_int h1 ha, h2]
  split <;> rfl
theorem CountM.put (K : KeyE Tryz.prog k encK Kok) (ht : Tryz.prog.underlying t = some (.map k 3)) (h : CountM encK Kok w b f) {a : α} (ha : Kok a) (y : Int) :
    ∃ w1, (Instr.mapUpdate t (.map (some b)) (encK a) (.int .i64 y)).run Tryz.prog w = .ok () w1 ∧ w.grownBy w1 (some b) ∧ CountM encK Kok w1 b (fun c => if c = a then y else f c) := by
  obtain ⟨d, g, h, h2⟩ := h
  obtain ⟨w1, h1, h3, _, h4⟩ := mapF_update K ht h ha (.int .i64 y)
  refine ⟨w1, h1, h3, insK d a, fun c => if c = a then y else g c, h4.congr fun c _ => ?_, fun c => ?_⟩
  · unfold updK
    by_cases e : c = a
    · simp [e]
    · simp [e]
  · by_cases e : c = a
    · simp [e, zn.mem_insK]
    · simp [e, zn.mem_insK, h2]
theorem CountM.entry (K : KeyE Tryz.prog k encK Kok) (ht : Tryz.prog.underlying t = some (.map k 3)) (h : CountM encK Kok w b f) {a : α} (ha : Kok a) :
    ∃ (st : Nat) (w1 : World), (Instr.mapEntry t (.map (some b)) (encK a)).run Tryz.prog w = .ok (.tuple #[.int .i64 (f a), .int .i64 (st : Int)]) w1 ∧ w.grownBy w1 (some b) ∧ CountM encK Kok w1 b f ∧
      ∀ (y : Int), ∃ w3, (Instr.entryStore t (.map (some b)) (.int .i64 (st : Int)) (.int .i64 y)).run Tryz.prog w1 = .ok () w3 ∧ w1.grownBy w3 (some b) ∧ CountM encK Kok w3 b (fun c => if c = a then y else f c) := by
  obtain ⟨d, g, h, h2⟩ := h
  obtain ⟨st, w1, h1, h3, _, h4, h5⟩ := mapF_entry K ht zero_int h ha
  refine ⟨st, w1, ?_, h3, ⟨insK d a, fun c => if c = a then f a else g c, h4.congr fun c _ => ?_, fun c => ?_⟩, fun y => ?_⟩
  · rw [h1, h2]
    split <;> rfl
  · unfold updK
    by_cases e : c = a
    · subst e
      simp only [if_true, h2]
      split <;> rfl
    · simp [e]
  · by_cases e : c = a
    · simp [e, zn.mem_insK]
    · simp [e, zn.mem_insK, h2]
  · obtain ⟨w3, g1, g2, _, g3⟩ := h5 w1 (.int .i64 y) rfl
    refine ⟨w3, g1, g2, insK d a, fun c => if c = a then y else g c, g3.congr fun c _ => ?_, fun c => ?_⟩
    · unfold updK
      by_cases e : c = a
      · simp [e]
      · simp [e]
    · by_cases e : c = a
      · simp [e, zn.mem_insK]
      · simp [e, zn.mem_insK, h2]
end

/-- What folded data measures. -/
theorem foldParts_len (D : Nat) : ∀ (fs : List dt.Fld) (ps : List ByteArray), (∀ p ∈ ps, p.size ≤ D) → (dt.foldParts fs ps).length ≤ fs.length * D
  | [], _, _ => by simp [dt.foldParts]
  | _ :: _, [], _ => by simp [dt.foldParts]
  | f :: fs, p :: ps, h => by
    have h1 := foldParts_len D fs ps fun q hq => h q (by simp [hq])
    have h2 := dt.foldPart_size f p
    have h3 := h p (by simp)
    rw [dt.foldParts, List.length_append, List.length_cons, Nat.add_mul, ba_len]
    omega
theorem foldD_size (t : Int) (d : ByteArray) : (dt.foldD t d).size ≤ maxLen := by
  unfold dt.foldD
  split
  · rename_i hc
    have hd : d.size ≤ 65535 := by
      unfold dt.chkI at hc
      repeat' split at hc
      all_goals omega
    split
    · unfold maxLen; omega
    · rename_i fs hf
      split
      · rename_i ps r hs
        obtain ⟨_, _, h3⟩ := dt.splitF_len fs d [] ps _ hs
        have h4 := foldParts_len 65535 fs ps fun p hp => by
          rcases h3 p hp with h | h
          · cases h
          · omega
        have h5 := dt.form_len t fs hf
        have h6 : fs.length * 65535 ≤ 100 * 65535 := Nat.mul_le_mul_right _ h5
        show (dt.foldParts fs ps).toArray.size ≤ maxLen
        rw [List.size_toArray]
        unfold maxLen
        omega
      · exact Nat.zero_le _
  · exact Nat.zero_le _

namespace zn
def fullR (r : Rec) : ByteArray × Int × ByteArray := (foldS r.owner, r.typ, dt.foldD r.typ r.data)
end zn
end Go.Proofs.YtnloommafgnanaaGreat

/-
  zone.rules: the other five rules that it hands to each.
-/
namespace Go.Proofs.YtnloommafgnanaaGreat
open Go.RowKit Go.Shelf Go.WideMaps Go.Proofs.YtnloommafgnanaaGreat.nm

/-- What a row's value looks like. -/
theorem ownsRow_len {w : World} {base : Nat} {e : TypeId} {size : Nat} {v : Value} {n : Nat} {xs : List Value} (h : w.ownsRow base e size v n xs) : ∃ a cap, v = .slice a n cap ∧ n ≤ cap := by
  rcases h.2 with ⟨rfl, rfl⟩ | ⟨g, cap, cur, rfl, _, _, hc, _⟩
  · exact ⟨none, 0, rfl, Nat.le_refl _⟩
  · exact ⟨_, cap, rfl, hc⟩
namespace zn
def bad3 (r : Rec) : Bool := (decide (r.typ = 2) || decide (r.typ = 39)) && isStarB r.owner
def bad4 (all : ByteArray → Int) (r : Rec) : Bool := decide (r.typ = 5) && decide (1 < all (foldS r.owner))
end zn

end Go.Proofs.YtnloommafgnanaaGreat
/-
  zone.rules: the second, fifth and sixth rule that it hands to each.
-/
namespace Go.Proofs.YtnloommafgnanaaGreat
open Go.RowKit Go.Shelf Go.WideMaps Go.Proofs.YtnloommafgnanaaGreat.nm

namespace zn
def bad2 (apex : ByteArray) (c : Nat) (r : Rec) : Bool := decide (r.typ = 6) && (decide (0 < c) || !equalB r.owner apex)
def bad5 (low : ByteArray) (F : Key → List Rec) (below : ByteArray → Int) (r : Rec) : Bool := decide (r.typ = 39) && (decide (foldS r.owner = low) || decide (1 < (F (foldS r.owner, 39)).length) || decide (0 < below (foldS r.owner)))
def bad6 (F : Key → List Rec) (r : Rec) : Bool := !decide (r.typ = 46) && !decide (r.ttl = ((F (keyR r)).headD r).ttl)
end zn
end Go.Proofs.YtnloommafgnanaaGreat
/-
  zone.rules: the sixth rule that it hands to each.
-/
namespace Go.Proofs.YtnloommafgnanaaGreat
open Go.RowKit Go.Shelf Go.WideMaps Go.Proofs.YtnloommafgnanaaGreat.nm

end Go.Proofs.YtnloommafgnanaaGreat
/-
  zone.rules: the second rule that it hands to each.
-/
namespace Go.Proofs.YtnloommafgnanaaGreat
open Go.RowKit Go.Shelf Go.WideMaps Go.Proofs.YtnloommafgnanaaGreat.nm

/-- How many SOA records there are, behind one more record. -/
def zn.soaN (r : Rec) (c : Nat) : Nat := if r.typ = 6 then c + 1 else c

end Go.Proofs.YtnloommafgnanaaGreat

/-
  The keys of the zone's maps: texts; a name and a type; these and data.
-/
import Derived.Test.YtnloommafgnanaaGreatQMapF
import Derived.Test.YtnloommafgnanaaGreatQZoneA
import Derived.Test.YtnloommafgnanaaGreatQNameE
import Derived.Deep.AppendLies
import Derived.Lib.OwnKind
namespace Go.Proofs.YtnloommafgnanaaGreat
open Go.RowKit Go.WideMaps Go.WideElems

theorem laidOut : laidOutB Tryz.prog = true := by kernel_rfl
@[reducible] def keyV (a : ByteArray × Int) : Value := .agg #[.string a.1, .int .i64 a.2]
def KeyOk (a : ByteArray × Int) : Prop := a.1.size ≤ maxLen ∧ (Lit.int .i64 a.2).wf = true
def StrOk (a : ByteArray) : Prop := a.size ≤ maxLen
theorem strE : KeyE Tryz.prog 9 Value.string StrOk where
  law := string_law Tryz.underlying9
  key := fun _ ha => ⟨_, keyOf_string_mk Tryz.underlying9 ha⟩
  inj := fun a b h => by simpa using h
end Go.Proofs.YtnloommafgnanaaGreat
/-
  zone.plain: the rules that look at each record alone.
-/
namespace Go.Proofs.YtnloommafgnanaaGreat
open Go.RowKit Go.Shelf Go.Proofs.YtnloommafgnanaaGreat.nm

/-- A drawn region, written out, whose operations read, or call what only lays blocks. -/
theorem wp_region_gw {P : Program} {id : Nat} {Q : Exit → Act → World → Prop} {a : Act} {w : World} {l : List Oper} (hm : P.follows .mixedOrders = true) (hB : Region.lexB .any l.toArray = true)
    (h : wpQuiet P l.toArray (fun W => ∃ p, W = gw w p) (fun a' => ∀ W, (∃ p, W = gw w p) → Q .normal a' W) l a) : (Code.region id l.toArray true).wp P Q a w :=
  wp_region_quiet (C := fun W => ∃ p, W = gw w p) hm hB (gw_draw w) (by simpa using h)

namespace zn
/-- The first of n places of which bad holds. -/
def firstB (bad : Nat → Bool) (n : Nat) : Option Nat := (List.range n).find? bad
def bad1 (r : Rec) : Bool := !(checkB r.owner && decide (r.cls = 1) && decide (0 ≤ r.ttl) && decide (r.ttl ≤ 2147483647) && decide (dt.chkI r.typ r.data = 0))
/-- What holds of place k of a list. -/
def atB (l : List Rec) (f : Rec → Bool) (k : Nat) : Bool := match l[k]? with
  | some r => f r
  | none => false
end zn

end Go.Proofs.YtnloommafgnanaaGreat
/-
  Rows of records by key, and names that are there: maps that a zone owns. No program walked.
-/
namespace Go.Proofs.YtnloommafgnanaaGreat
open Go.RowKit Go.WideMaps Go.Proofs.YtnloommafgnanaaGreat.nm

abbrev Key := ByteArray × Int
instance decMem {α : Type} [DecidableEq α] (a : α) (d : List α) : Decidable (a ∈ d) := inferInstance
/-- The cells of a list of records. -/
def recsC (l : List Rec) : List Value := l.flatMap recC
theorem recsC_len (l : List Rec) : (recsC l).length = l.length * 5 := by
  unfold recsC
  induction l with
  | nil => rfl
  | cons r l ih => rw [List.flatMap_cons, List.length_append, ih, List.length_cons]; simp; omega
theorem recsC_get : ∀ (l : List Rec) (k : Nat) (hk : k < l.length) (j : Nat) (v : Value), (recC l[k])[j]? = some v → (recsC l)[k * 5 + j]? = some v
  | r :: l, 0, hk, j, v, h => by
    have hj : j < (recC r).length := (List.getElem?_eq_some_iff.1 h).1
    show (recC r ++ recsC l)[0 * 5 + j]? = some v
    rw [Nat.zero_mul, Nat.zero_add, List.getElem?_append_left hj]
    exact h
  | r :: l, k + 1, hk, j, v, h => by
    show (recC r ++ recsC l)[(k + 1) * 5 + j]? = some v
    rw [List.getElem?_append_right (by simp; omega)]
    have := recsC_get l k (by simpa using hk) j v h
    rw [← this]
    congr 1
    simp
    omega

/-- A block of maps of rows: each key's records lie in a row of their own. -/
def SetsV (w : World) (base sb : Nat) (dom : List Key) (F : Key → List Rec) : Prop :=
  ∃ val : Key → Value, MapF keyV KeyOk w sb dom val ∧ (∀ κ ∈ dom, w.ownsRow base 42 5 (val κ) (F κ).length (recsC (F κ))) ∧ (∀ κ ∈ dom, ∀ κ' ∈ dom, κ ≠ κ' → (val κ).ownBlock ≠ (val κ').ownBlock)

section
variable {w w' : World} {base sb : Nat} {dom : List Key} {F F' : Key → List Rec}
theorem ownsRow_keepOne {w w' : World} {base : Nat} {e : TypeId} {size : Nat} {v : Value} {n : Nat} {xs : List Value} (h : w.ownsRow base e size v n xs) (hk : ∀ b, v.ownBlock = some b → w'.heap[b]? = w.heap[b]?) : w'.ownsRow base e size v n xs := by
  refine ⟨h.1, ?_⟩
  rcases h.2 with hn | ⟨g, cap, cur, rfl, hb, hg, rest⟩
  · exact .inl hn
  · exact .inr ⟨g, cap, cur, rfl, hb, (hk g rfl).trans hg, rest⟩
theorem SetsV.keep (h : SetsV w base sb dom F) (hk : ∀ b, base ≤ b ∨ b = sb → b < w.heap.size → w'.heap[b]? = w.heap[b]?) : SetsV w' base sb dom F := by
  obtain ⟨val, h1, h2, h3⟩ := h
  refine ⟨val, h1.keep fun o ho => (hk sb (.inr rfl) (heap_lt ho)).trans ho, fun κ hκ => ?_, h3⟩
  exact ownsRow_keepOne (h2 κ hκ) fun b hb => hk b (.inl ((h2 κ hκ).lt b hb).1) ((h2 κ hκ).lt b hb).2
theorem SetsV.alloc (h : SetsV w base sb dom F) (o : Obj) : SetsV (w.alloc o) base sb dom F := h.keep fun b _ hb => Below.heap_alloc w o b hb
theorem SetsV.below (h : SetsV w base sb dom F) (hb : Below w.heap.size w w') : SetsV w' base sb dom F := h.keep fun b _ hlt => hb.block b hlt
theorem SetsV.lt (h : SetsV w base sb dom F) : sb < w.heap.size := by obtain ⟨_, h1, _⟩ := h; exact h1.lt
theorem SetsV.congr (h : SetsV w base sb dom F) (hF : ∀ κ ∈ dom, F κ = F' κ) : SetsV w base sb dom F' := by
  obtain ⟨val, h1, h2, h3⟩ := h
  exact ⟨val, h1, fun κ hκ => by rw [← hF κ hκ]; exact h2 κ hκ, h3⟩
theorem SetsV.made (w : World) (base : Nat) (F : Key → List Rec) : SetsV (w.alloc (.map #[] 0)) base w.heap.size [] F :=
  ⟨fun _ => .slice none 0 0, MapF.made w keyV KeyOk _, fun κ h => by simp at h, fun κ h => by simp at h⟩
/-- The map's own cells turned, as another block: nothing turns. -/
theorem SetsV.setCell (h : SetsV w base sb dom F) {a : Addr} (hb : a.block < base) (hs : a.block ≠ sb) (u : Value) : SetsV (w.setCell a u) base sb dom F :=
  h.keep fun b hb' _ => Below.heap_setCell _ _ _ _ (fun e => by rcases hb' with h1 | h1 <;> omega)

theorem zero_int (w : World) : (zeroValue 3).run Tryz.prog w = .ok (.int .i64 0) w := by kernel_rfl

end

theorem SetsV.drew {w : World} {base sb : Nat} {dom : List Key} {F : Key → List Rec} (h : SetsV w base sb dom F) : SetsV w.drew base sb dom F := h.keep fun _ _ _ => rfl
/-! ### What gather makes -/
namespace zn
def keyR (r : Rec) : Key := (foldS r.owner, r.typ)
/-- The keys, in the order in which they come. -/
def domS (l : List Rec) : List Key := l.foldl (fun d r => insK d (keyR r)) []
/-- The records of a key. -/
def rowsS (l : List Rec) (κ : Key) : List Rec := l.filter fun r => decide (keyR r = κ)
theorem domS_app (l : List Rec) (r : Rec) : domS (l ++ [r]) = insK (domS l) (keyR r) := by unfold domS; rw [List.foldl_append]; rfl
theorem mem_insK {α : Type} [DecidableEq α] {d : List α} {a b : α} : b ∈ insK d a ↔ b ∈ d ∨ b = a := by
  unfold insK
  split
  · rename_i h
    exact ⟨.inl, fun h' => h'.elim id (fun e => e ▸ h)⟩
  · rw [List.mem_append, List.mem_singleton]
theorem mem_foldS : ∀ {l : List Rec} {d : List Key} {κ : Key}, κ ∈ l.foldl (fun d r => insK d (keyR r)) d ↔ κ ∈ d ∨ ∃ r ∈ l, keyR r = κ
  | [], d, κ => by simp
  | r :: l, d, κ => by
    rw [List.foldl_cons, mem_foldS (l := l), mem_insK]
    constructor
    · rintro ((h | h) | ⟨x, hx, e⟩)
      · exact .inl h
      · exact .inr ⟨r, by simp, h.symm⟩
      · exact .inr ⟨x, by simp [hx], e⟩
    · rintro (h | ⟨x, hx, e⟩)
      · exact .inl (.inl h)
      · rcases List.mem_cons.1 hx with rfl | hx
        · exact .inl (.inr e.symm)
        · exact .inr ⟨x, hx, e⟩
theorem mem_domS {l : List Rec} {κ : Key} : κ ∈ domS l ↔ ∃ r ∈ l, keyR r = κ := by
  unfold domS
  rw [mem_foldS]
  simp
theorem rowsS_app (l : List Rec) (r : Rec) (κ : Key) : rowsS (l ++ [r]) κ = if κ = keyR r then rowsS l κ ++ [r] else rowsS l κ := by
  unfold rowsS
  rw [List.filter_append]
  by_cases h : keyR r = κ
  · rw [if_pos h.symm]; simp [h]
  · rw [if_neg (fun e => h e.symm)]; simp [h]
theorem rowsS_none {l : List Rec} {κ : Key} (h : κ ∉ domS l) : rowsS l κ = [] := by
  unfold rowsS
  rw [List.filter_eq_nil_iff]
  intro r hr e
  exact h (mem_domS.2 ⟨r, hr, by simpa using e⟩)
end zn

/-- A record more in the sets. -/
theorem SetsV.next {w : World} {base sb : Nat} {l : List Rec} {r : Rec} (h : SetsV w base sb (insK (zn.domS l) (zn.keyR r)) (fun κ' => if κ' = zn.keyR r then (if zn.keyR r ∈ zn.domS l then zn.rowsS l (zn.keyR r) else []) ++ [r] else zn.rowsS l κ')) :
    SetsV w base sb (zn.domS (l ++ [r])) (zn.rowsS (l ++ [r])) := by
  rw [zn.domS_app]
  refine h.congr fun κ _ => ?_
  rw [zn.rowsS_app]
  by_cases e : κ = zn.keyR r
  · rw [if_pos e, if_pos e]
    subst e
    by_cases hd : zn.keyR r ∈ zn.domS l
    · rw [if_pos hd]
    · rw [if_neg hd, zn.rowsS_none hd]
  · rw [if_neg e, if_neg e]

/-- The names that are there. -/
def TheresV (w : World) (tb : Nat) (dom : List ByteArray) : Prop := ∃ f : ByteArray → Int, MapF Value.string StrOk w tb dom (fun a => .int .i64 (f a))
section
variable {w w' : World} {tb : Nat} {dom : List ByteArray}
theorem TheresV.keep (h : TheresV w tb dom) (hk : tb < w.heap.size → w'.heap[tb]? = w.heap[tb]?) : TheresV w' tb dom := by
  obtain ⟨f, h⟩ := h
  exact ⟨f, h.keep fun o ho => (hk (heap_lt ho)).trans ho⟩
theorem TheresV.alloc (h : TheresV w tb dom) (o : Obj) : TheresV (w.alloc o) tb dom := h.keep fun hb => Below.heap_alloc w o tb hb
theorem TheresV.below (h : TheresV w tb dom) (hb : Below w.heap.size w w') : TheresV w' tb dom := h.keep fun hlt => hb.block tb hlt
theorem TheresV.lt (h : TheresV w tb dom) : tb < w.heap.size := by obtain ⟨_, h1⟩ := h; exact h1.lt
theorem TheresV.grown (h : TheresV w tb dom) {row : Option Nat} (hg : w.grownBy w' row) (hne : row ≠ some tb) : TheresV w' tb dom := h.keep fun hlt => hg.block tb hlt (Ne.symm hne)
theorem TheresV.drew (h : TheresV w tb dom) : TheresV w.drew tb dom := h
theorem TheresV.made (w : World) : TheresV (w.alloc (.map #[] 0)) w.heap.size [] := ⟨fun _ => 0, MapF.made w _ _ _⟩
/-- 'there[n] op= ..': what is read, and what then stands. -/
theorem theres_step (h : TheresV w tb dom) {n : ByteArray} (hn : n.size ≤ maxLen) : ∃ x : Int, (Instr.lookup 67 (.map (some tb)) (.string n) false).run Tryz.prog w = .ok (.int .i64 x) w ∧
    ∀ y : Int, ∃ w1, (Instr.mapUpdate 67 (.map (some tb)) (.string n) (.int .i64 y)).run Tryz.prog w = .ok () w1 ∧ w.grownBy w1 (some tb) ∧ TheresV w1 tb (insK dom n) := by
  obtain ⟨f, h⟩ := h
  refine ⟨if n ∈ dom then f n else 0, ?_, fun y => ?_⟩
  · rw [mapF_look strE Tryz.underlying67 zero_int h hn]
    split <;> rfl
  · obtain ⟨w1, h1, h2, _, h3⟩ := mapF_update strE Tryz.underlying67 h hn (.int .i64 y)
    refine ⟨w1, h1, h2, fun a => if a = n then y else f a, h3.congr fun a _ => ?_⟩
    unfold updK
    by_cases e : a = n
    · simp [e]
    · simp [e]
end
end Go.Proofs.YtnloommafgnanaaGreat

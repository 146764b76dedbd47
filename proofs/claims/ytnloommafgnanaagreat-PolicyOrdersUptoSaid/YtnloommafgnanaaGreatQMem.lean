/-
  Words for memory, over any program: rows that a call owns at any offset (append, cut), maps known entry by entry, and frames by the kind of block.
-/
import Derived.WalkKit
import Derived.Maps.AppendAt
import Derived.Deep.AppendLies
import Derived.Deep.Draws
import Derived.StringKeys
import Derived.WideKeyMaps
import Derived.MapKept
import Derived.ArgAppend
import Derived.Lib.Hide
namespace Go.Proofs.YtnloommafgnanaaGreat
open Go.RowKit

/-! ### Rows -/

/-- The slice value v, of n elements, reads as xs and may be appended to: its block lies from base on, of element type e, nothing frozen. The row may begin anywhere in its block. -/
def RowAt (w : World) (base : Nat) (e : TypeId) (size : Nat) (v : Value) (n : Nat) (xs : List Value) : Prop :=
  xs.length = n * size ∧
  ((v = .slice none 0 0 ∧ n = 0) ∨
   ∃ g off cap cur, v = .slice (some ⟨g, off, none⟩) n cap ∧ base ≤ g ∧ w.heap[g]? = some (.cells cur e (0, 0)) ∧ n ≤ cap ∧ cap ≤ maxLen ∧ off + cap * size ≤ cur.size ∧ (cur.toList.drop off).take (n * size) = xs)

/-- What a frame may pass over: blocks of which T holds. -/
structure Fr (B : Nat) (T : Obj → Prop) (w w' : World) : Prop where
  below : Below B w w'
  kept : ∀ (k : Nat) (o : Obj), w.heap[k]? = some o → ¬ T o → w'.heap[k]? = some o

section
variable {B : Nat} {T : Obj → Prop} {w w' w'' : World}
theorem Fr.refl (B : Nat) (T : Obj → Prop) (w : World) : Fr B T w w := ⟨Below.refl _ _, fun _ _ h _ => h⟩
theorem Fr.trans (h : Fr B T w w') (h' : Fr B T w' w'') : Fr B T w w'' :=
  ⟨h.below.trans h'.below, fun k o hk ht => h'.kept k o (h.kept k o hk ht) ht⟩
theorem Fr.drew (h : Fr B T w w') : Fr B T w w'.drew := ⟨h.below.drew, h.kept⟩
theorem Fr.alloc (h : Fr B T w w') (hB : B ≤ w'.heap.size) (o : Obj) : Fr B T w (w'.alloc o) :=
  h.trans ⟨(Below.refl _ _).alloc hB o, fun k o' hk _ => by
    have hlt : k < w'.heap.size := (Array.getElem?_eq_some_iff.1 hk).1
    rw [Below.heap_alloc _ _ _ hlt]; exact hk⟩
/-- A change of one block of which T holds, from B on. -/
theorem Fr.block (h : Fr B T w w') {b : Nat} {o : Obj} (hb : w'.heap[b]? = some o) (ht : T o) (hB : B ≤ b)
    (hg : w'.grownBy w'' (some b)) : Fr B T w w'' :=
  h.trans ⟨(Below.refl _ _).grown hg (by have := (Array.getElem?_eq_some_iff.1 hb).1; omega) (fun k hk => by cases hk; exact hB), fun k o' hk hn => by
    have hlt : k < w'.heap.size := (Array.getElem?_eq_some_iff.1 hk).1
    rw [hg.block k hlt (fun e => by cases e; rw [hb] at hk; cases hk; exact hn ht)]; exact hk⟩
theorem Fr.mono {T' : Obj → Prop} (h : Fr B T w w') (hT : ∀ o, T o → T' o) : Fr B T' w w' :=
  ⟨h.below, fun k o hk hn => h.kept k o hk (fun ht => hn (hT o ht))⟩
theorem Fr.monoB {B' : Nat} (h : Fr B T w w') (hB : B' ≤ B) : Fr B' T w w' := ⟨h.below.mono hB, h.kept⟩
theorem grownBy_setCell (w : World) (a : Addr) (u : Value) : w.grownBy (w.setCell a u) (some a.block) :=
  ⟨rfl, rfl, rfl, by simp [World.setCell], fun k _ hk => Below.heap_setCell _ _ _ _ (fun e => hk (by rw [e]))⟩
end

/-- How the walk compares two texts. -/
theorem str_eq {a b : ByteArray} : (a.toList == b.toList) = true ↔ a = b := by
  rw [beq_iff_eq, ByteArray.toList_eq, ByteArray.toList_eq]
  exact ⟨fun h => by
    cases a; cases b
    simp only at h
    congr 1
    exact Array.toList_inj.1 h, fun h => by rw [h]⟩
theorem str_ne {a b : ByteArray} (h : a ≠ b) : (a.toList == b.toList) = false := by
  cases hb : (a.toList == b.toList)
  · rfl
  · exact absurd (str_eq.1 hb) h
theorem str_empty {a : ByteArray} (h : a.size = 0) : a.toList.isEmpty = true := by
  rw [ByteArray.toList_eq, List.isEmpty_iff]
  exact List.eq_nil_of_length_eq_zero (by simpa using h)
theorem str_some {a : ByteArray} (h : a.size ≠ 0) : a.toList.isEmpty = false := by
  rw [ByteArray.toList_eq]
  cases hl : a.data.toList with
  | nil => exact absurd (by have := congrArg List.length hl; simpa using this) h
  | cons x l => rfl
theorem heap_new_at {w : World} {o : Obj} {n : Nat} (h : n = w.heap.size) : (w.alloc o).heap[n]? = some o := by subst h; exact heap_alloc_new w o
/-- The cells of a block that has just been made. -/
theorem news_at (w : World) (cs : List Value) (t : TypeId) : ∀ j u, cs[j]? = some u → (w.alloc (.cells cs.toArray t)).cell? ((⟨w.heap.size, 0, none⟩ : Addr).add j) = some u := by
  intro j u hu
  rw [Addr.add_lit, Nat.zero_add]
  have h : (w.alloc (.cells cs.toArray t)).heap[w.heap.size]? = some (.cells cs.toArray t (0, 0)) := heap_new_at rfl
  simp only [World.cell?, h]
  simpa using hu
theorem heap_lt {w : World} {k : Nat} {o : Obj} (h : w.heap[k]? = some o) : k < w.heap.size := (Array.getElem?_eq_some_iff.1 h).1
theorem heap_alloc_keep {w : World} {k : Nat} {o : Obj} (h : w.heap[k]? = some o) (o' : Obj) : (w.alloc o').heap[k]? = some o := by
  rw [Below.heap_alloc _ _ _ (heap_lt h)]; exact h
theorem heap_set_keep {w : World} {k : Nat} {o : Obj} (h : w.heap[k]? = some o) {a : Addr} (hne : k ≠ a.block) (u : Value) : (w.setCell a u).heap[k]? = some o := by
  rw [Below.heap_setCell _ _ _ _ hne]; exact h
theorem heap_set_at {w : World} {g : Nat} {cs : Array Value} {t : TypeId} {fz : Nat × Nat} (h : w.heap[g]? = some (.cells cs t fz)) (i : Nat) (u : Value) :
    (w.setCell ⟨g, i, none⟩ u).heap[g]? = some (.cells (cs.setIfInBounds i u) t fz) := by
  simp [World.setCell, Array.getElem?_modify, h]
theorem heap_frozen {w : World} {g : Nat} {cs : Array Value} {t : TypeId} (h : w.heap[g]? = some (.cells cs t (0, 0))) (i : Nat) : w.frozen? ⟨g, i, none⟩ = false := by
  simp [World.frozen?, h]
theorem heap_cell {w : World} {g : Nat} {cs : Array Value} {t : TypeId} {fz : Nat × Nat} (h : w.heap[g]? = some (.cells cs t fz)) (i : Nat) : w.cell? ⟨g, i, none⟩ = cs[i]? := by
  simp [World.cell?, h]
theorem heap_ne {w : World} {g g' : Nat} {o o' : Obj} (h : w.heap[g]? = some o) (h' : w.heap[g']? = some o') (hne : o ≠ o') : g ≠ g' := by
  rintro rfl; rw [h] at h'; exact hne (Option.some.inj h')

/-- Writing a list of cells into one block, cell after cell. -/
theorem setCells_heap (g : Nat) (e : TypeId) : ∀ (news : List Value) (o : Nat) (cur : Array Value) (w : World), w.heap[g]? = some (.cells cur e (0, 0)) → o + news.length ≤ cur.size →
    ∃ cur', (w.setCells g o news).heap[g]? = some (.cells cur' e (0, 0)) ∧ cur'.size = cur.size ∧ cur'.toList = cur.toList.take o ++ news ++ cur.toList.drop (o + news.length) ∧ w.grownBy (w.setCells g o news) (some g) := by
  intro news
  induction news with
  | nil =>
    intro o cur w h _
    exact ⟨cur, h, rfl, by simp, ⟨rfl, rfl, rfl, Nat.le_refl _, fun _ _ _ => rfl⟩⟩
  | cons v r ih =>
    intro o cur w h hs
    simp only [List.length_cons] at hs
    have h1 := heap_set_at h o v
    obtain ⟨cur', h2, h3, h4, h5⟩ := ih (o + 1) _ _ h1 (by simp; omega)
    refine ⟨cur', h2, by rw [h3]; simp, ?_, ?_⟩
    · rw [h4]
      have ho : o < cur.toList.length := by simpa using (show o < cur.size by omega)
      simp only [Array.toList_setIfInBounds, List.length_cons]
      rw [List.take_set, List.drop_set]
      rw [List.take_succ_eq_append_getElem ho, List.set_append]
      have hl : (cur.toList.take o).length = o := by simp; omega
      simp only [hl, Nat.lt_irrefl, if_false, Nat.sub_self, List.set_cons_zero]
      simp only [show o < o + 1 + r.length from by omega, if_true, List.append_assoc, List.cons_append, List.nil_append]
      congr 3
      congr 1
      omega
    · refine ⟨h5.os, h5.tape, h5.output, ?_, fun k hk hn => ?_⟩
      · have := h5.size; simpa [World.setCell, World.setCells] using this
      · have := h5.block k (by simpa [World.setCell] using hk) hn
        rw [show (w.setCells g o (v :: r)).heap[k]? = ((w.setCell ⟨g, o, none⟩ v).setCells g (o + 1) r).heap[k]? from rfl, this]
        exact Below.heap_setCell _ _ _ _ (fun e => hn (by rw [e]))

section
variable {w w' : World} {base : Nat} {e : TypeId} {size : Nat} {v : Value} {n : Nat} {xs : List Value}

theorem RowAt.nil_ (w : World) (base : Nat) (e : TypeId) (size : Nat) : RowAt w base e size (.slice none 0 0) 0 [] := ⟨by simp, .inl ⟨rfl, rfl⟩⟩

/-- The row's own block, if it has one. -/
theorem RowAt.own (h : RowAt w base e size v n xs) : v.ownBlock = none ∨ ∃ g cur, v.ownBlock = some g ∧ base ≤ g ∧ w.heap[g]? = some (.cells cur e (0, 0)) := by
  rcases h.2 with ⟨rfl, _⟩ | ⟨g, off, cap, cur, rfl, hb, hg, _⟩
  · exact .inl rfl
  · exact .inr ⟨g, cur, rfl, hb, hg⟩

/-- It reads the same where its block is the same. -/
theorem RowAt.keep (h : RowAt w base e size v n xs) (hk : ∀ (g : Nat) (cur : Array Value), v.ownBlock = some g → w.heap[g]? = some (.cells cur e (0, 0)) → w'.heap[g]? = some (.cells cur e (0, 0))) : RowAt w' base e size v n xs := by
  refine ⟨h.1, ?_⟩
  rcases h.2 with hn | ⟨g, off, cap, cur, rfl, hb, hg, rest⟩
  · exact .inl hn
  · exact .inr ⟨g, off, cap, cur, rfl, hb, hk g cur rfl hg, rest⟩
theorem RowAt.fr {B : Nat} {T : Obj → Prop} (h : RowAt w base e size v n xs) (hf : Fr B T w w') (hT : ∀ cur, ¬ T (.cells cur e (0, 0))) : RowAt w' base e size v n xs :=
  h.keep fun _ cur _ hg => hf.kept _ _ hg (hT cur)
theorem RowAt.alloc (h : RowAt w base e size v n xs) (o : Obj) : RowAt (w.alloc o) base e size v n xs :=
  h.keep fun _ _ _ hg => heap_alloc_keep hg o
theorem RowAt.drew (h : RowAt w base e size v n xs) : RowAt w.drew base e size v n xs := h.keep fun _ _ _ hg => hg
theorem RowAt.setCell (h : RowAt w base e size v n xs) {a : Addr} {o : Obj} (ha : w.heap[a.block]? = some o) (hne : ∀ cur, o ≠ .cells cur e (0, 0)) (u : Value) : RowAt (w.setCell a u) base e size v n xs :=
  h.keep fun _ cur _ hg => heap_set_keep hg (heap_ne hg ha (fun e => hne cur e.symm)) u

/-- The address form of a row that has an element. -/
theorem RowAt.form (h : RowAt w base e size v n xs) (hn : 0 < n) : ∃ g off cap, v = .slice (some ⟨g, off, none⟩) n cap ∧ n ≤ cap ∧ base ≤ g ∧ (∀ j u, xs[j]? = some u → w.cell? ⟨g, off + j, none⟩ = some u) ∧ (∀ j, w.frozen? ⟨g, j, none⟩ = false) ∧
    ∃ cur, w.heap[g]? = some (.cells cur e (0, 0)) ∧ off + cap * size ≤ cur.size ∧ (cur.toList.drop off).take (n * size) = xs := by
  rcases h.2 with ⟨_, h0⟩ | ⟨g, off, cap, cur, rfl, hb, hg, hnc, hcm, hsz, hx⟩
  · omega
  · refine ⟨g, off, cap, rfl, hnc, hb, fun j u hu => ?_, heap_frozen hg, cur, hg, hsz, hx⟩
    rw [heap_cell hg]
    rw [← hx, List.getElem?_take] at hu
    split at hu
    · simpa using hu
    · cases hu

/-- The length is what the value says. -/
theorem RowAt.len (h : RowAt w base e size v n xs) : ∃ a cap, v = .slice a n cap ∧ n ≤ cap := by
  rcases h.2 with ⟨rfl, rfl⟩ | ⟨g, off, cap, cur, rfl, _, _, hnc, _⟩
  · exact ⟨none, 0, rfl, Nat.le_refl _⟩
  · exact ⟨_, cap, rfl, hnc⟩

/-- A cut of k elements at the front: 's[k:]'. -/
theorem RowAt.cutFront {g off cap k : Nat} (h : RowAt w base e size (.slice (some ⟨g, off, none⟩) n cap) n xs) (hk : k ≤ n) :
    RowAt w base e size (.slice (some ⟨g, off + k * size, none⟩) (n - k) (cap - k)) (n - k) (xs.drop (k * size)) := by
  rcases h.2 with ⟨h0, _⟩ | ⟨g', off', cap', cur, he, hb, hg, hnc, hcm, hsz, hx⟩
  · cases h0
  · simp only [Value.slice.injEq, Option.some.injEq, Addr.mk.injEq, and_true, true_and] at he
    obtain ⟨⟨rfl, rfl⟩, rfl⟩ := he
    refine ⟨by rw [List.length_drop, h.1, Nat.sub_mul], .inr ⟨g, off + k * size, cap - k, cur, rfl, hb, hg, by omega, by omega, ?_, ?_⟩⟩
    · have : k * size + (cap - k) * size = cap * size := by rw [← Nat.add_mul]; congr 1; omega
      omega
    · rw [← hx, List.drop_take, List.drop_drop, Nat.sub_mul]
end

section
variable {P : Program} (w : World)
/-- append onto a row of the call's own, wherever in its block it begins. -/
theorem run_append_row (base : Nat) (t ty e : TypeId) (i : TypeInfo) (z : Value) (size bytes : Nat) (ht : P.underlying t = some (.slice e)) (hi : P.info? e = some i) (hz : i.zero = some z)
    (hsize : i.size = size) (hby : i.bytes = bytes) (hzs : z.cells.size = size) (hsz : 0 < size)
    (v : Value) (n : Nat) (xs : List Value) (hown : RowAt w base e size v n xs)
    (a : Addr) (m c : Nat) (news : List Value) (hl : news.length = m * size) (hnews : ∀ j u, news[j]? = some u → w.cell? (a.add j) = some u) (h1 : ∀ u ∈ news, u.oneCell' = true)
    (h63 : n + m ≤ maxLen) (hbytes : (n + m) * bytes ≤ 140737488355328) (hbase : base ≤ w.heap.size) :
    ∃ v' w', (Builtin.append_ #[t, t] ty #[v, .slice (some a) m c]).run P w = .ok v' w' ∧ RowAt w' base e size v' (n + m) (xs ++ news) ∧ w.grownBy w' v.ownBlock := by
  subst hsize
  subst hby
  have hlen : (xs ++ news).length = (n + m) * i.size := by rw [List.length_append, hown.1, hl, Nat.add_mul]
  have hsmall : n + m ≤ 9223372036854775807 := by simp only [maxLen] at h63; omega
  have grown : ∀ (old : Nat), old < n + m → ∀ (row : Option Nat),
      RowAt (w.drew.alloc (.cells (xs.toArray ++ news.toArray ++ Builtin.zeroCells z.cells (grownCap w (n + m) old e - (n + m))) e)) base e i.size
        (.slice (some ⟨w.heap.size, 0, none⟩) (n + m) (grownCap w (n + m) old e)) (n + m) (xs ++ news) ∧
      w.grownBy (w.drew.alloc (.cells (xs.toArray ++ news.toArray ++ Builtin.zeroCells z.cells (grownCap w (n + m) old e - (n + m))) e)) row := by
    intro old ho row
    have hge := grownCap_ge w (n + m) old e
    have hcm : grownCap w (n + m) old e ≤ maxLen := grownCap_le_maxLen w (n + m) old e h63
    refine ⟨⟨hlen, .inr ⟨w.heap.size, 0, _, _, rfl, hbase, heap_alloc_new w.drew _, hge, hcm, ?_, ?_⟩⟩, ⟨rfl, rfl, rfl, by simp, fun k hk _ => Below.heap_alloc w.drew _ k hk⟩⟩
    · simp only [Array.size_append, List.size_toArray, size_zeroCells, hzs, hown.1, hl, ← Nat.add_mul, Nat.zero_add]
      exact Nat.mul_le_mul_right _ (by omega)
    · simp only [Array.toList_append, List.append_assoc, List.drop_zero]
      rw [← List.append_assoc, ← hlen]
      exact List.take_left
  rcases hown.2 with ⟨rfl, rfl⟩ | ⟨g, off, cap, cur, rfl, hbg, hg, hnc, hcm, hcs, htake⟩
  · have hx : xs = [] := List.eq_nil_of_length_eq_zero (by simpa using hown.1)
    subst hx
    by_cases hm : m = 0
    · subst hm
      have hn : news = [] := List.eq_nil_of_length_eq_zero (by simpa using hl)
      subst hn
      refine ⟨.slice none 0 0, w, ?_, RowAt.nil_ w base e i.size, ⟨rfl, rfl, rfl, Nat.le_refl _, fun _ _ _ => rfl⟩⟩
      simp [Builtin.append_, run_underlying ht, sizeOf, typeInfo, hi, Builtin.lenOf, Builtin.firstCells, loadCells, loadCellsFrom]
    · have hr := run_append_nil (P := P) w t ty e i z ht hi hz a m c news hl hnews (by omega) (by omega) (by have hb := hbytes; simp only [Nat.zero_add] at hb; omega)
      have hgr := grown 0 (by omega) (Value.ownBlock (.slice none 0 0))
      simp only [Nat.zero_add, List.nil_append, Array.empty_append] at hgr ⊢
      exact ⟨_, _, hr, hgr.1, hgr.2⟩
  · by_cases hroom : n + m ≤ cap
    · have hmul : (n + m) * i.size ≤ cap * i.size := Nat.mul_le_mul_right _ hroom
      rw [Nat.add_mul, ← hl] at hmul
      have hfit : off + n * i.size + news.length ≤ cur.size := by omega
      have hr := run_append_room_cells (P := P) w t ty e i ht hi g off n cap a m c news hl hnews h1 hroom
        (fun j hj => by rw [heap_cell hg]; simp; omega) (fun j _ => heap_frozen hg _)
      obtain ⟨cur', h2, h3, h4, h5⟩ := setCells_heap g e news (off + n * i.size) cur w hg hfit
      refine ⟨_, _, hr, ⟨hlen, .inr ⟨g, off, cap, cur', rfl, hbg, h2, hroom, hcm, by omega, ?_⟩⟩, h5⟩
      have hlx : (cur.toList.drop off).length = cur.size - off := by simp
      rw [h4, List.append_assoc, List.drop_append_of_le_length (by simp; omega), List.drop_take, Nat.add_sub_cancel_left, htake]
      rw [← List.append_assoc, ← hlen]
      exact List.take_left
    · obtain ⟨g0, off0, cap0, hv0, _, _, hcell, _⟩ : ∃ g' off' cap', Value.slice (some ⟨g, off, none⟩) n cap = .slice (some ⟨g', off', none⟩) n cap' ∧ True ∧ True ∧ (∀ j u, xs[j]? = some u → w.cell? ⟨g', off' + j, none⟩ = some u) ∧ True := by
        refine ⟨g, off, cap, rfl, trivial, trivial, fun j u hu => ?_, trivial⟩
        rw [heap_cell hg]
        rw [← htake, List.getElem?_take] at hu
        split at hu
        · simpa using hu
        · cases hu
      simp only [Value.slice.injEq, Option.some.injEq, Addr.mk.injEq, and_true, true_and] at hv0
      obtain ⟨⟨rfl, rfl⟩, rfl⟩ := hv0
      have holds : ∀ j u, xs[j]? = some u → w.cell? ((⟨g, off, none⟩ : Addr).add j) = some u := fun j u hu => by rw [Addr.add_lit]; exact hcell j u hu
      have hr := run_append_grow (P := P) w t ty e i z ht hi hz ⟨g, off, none⟩ n cap xs hown.1 holds a m c news hl hnews (by omega) (by omega) (growslice_fits (by omega) hbytes)
      have hgr := grown cap (by omega) (Value.ownBlock (.slice (some ⟨g, off, none⟩) n cap))
      exact ⟨_, _, hr, hgr.1, hgr.2⟩
end

section
variable {P : Program} (w : World)
theorem wp_append_row {o : Oper} {a : Act} {K : Act → World → Prop} {Q : Exit → Act → World → Prop} (s x : Operand) (t : TypeId)
    (ho : o.op = .call { callee := .builtin .append, args := #[s, x], argTypes := #[t, t] })
    (base : Nat) (e : TypeId) (i : TypeInfo) (z : Value) (size bytes : Nat) (ht : P.underlying t = some (.slice e)) (hi : P.info? e = some i) (hz : i.zero = some z)
    (hsize : i.size = size) (hby : i.bytes = bytes) (hzs : z.cells.size = size) (hsz : 0 < size)
    (v : Value) (n : Nat) (xs : List Value) (hs : a.eval s = v) (hown : RowAt w base e size v n xs)
    (ad : Addr) (m c : Nat) (news : List Value) (hx : a.eval x = .slice (some ad) m c) (hl : news.length = m * size) (hnews : ∀ j u, news[j]? = some u → w.cell? (ad.add j) = some u) (h1 : ∀ u ∈ news, u.oneCell' = true)
    (h63 : n + m ≤ maxLen) (hbytes : (n + m) * bytes ≤ 140737488355328) (hbase : base ≤ w.heap.size)
    (h : ∀ v' w', RowAt w' base e size v' (n + m) (xs ++ news) → w.grownBy w' v.ownBlock → K (a.put o.dst v') w') : o.wp P a w K Q := by
  obtain ⟨v', w', hr, h2, h3⟩ := run_append_row (P := P) w base t o.type e i z size bytes ht hi hz hsize hby hzs hsz v n xs hown ad m c news hl hnews h1 h63 hbytes hbase
  unfold Oper.wp execOp
  simp only [ho, resolve, invoke, builtin, Sem.run_bind, Sem.run_pure, Result.andThen_ok, List.map_toArray, List.map_cons, List.map_nil, hs, hx, hr]
  exact h v' w' h2 h3

theorem wpList_append_row {ops : Array Oper} {rest : List Oper} {o : Oper} {a : Act} {Q : Exit → Act → World → Prop} (hgd : o.guard = none) (s x : Operand) (t : TypeId)
    (ho : o.op = .call { callee := .builtin .append, args := #[s, x], argTypes := #[t, t] })
    (base : Nat) (e : TypeId) (i : TypeInfo) (z : Value) (size bytes : Nat) (ht : P.underlying t = some (.slice e)) (hi : P.info? e = some i) (hz : i.zero = some z)
    (hsize : i.size = size) (hby : i.bytes = bytes) (hzs : z.cells.size = size) (hsz : 0 < size)
    (v : Value) (n : Nat) (xs : List Value) (hs : a.eval s = v) (hown : RowAt w base e size v n xs)
    (ad : Addr) (m c : Nat) (news : List Value) (hx : a.eval x = .slice (some ad) m c) (hl : news.length = m * size) (hnews : ∀ j u, news[j]? = some u → w.cell? (ad.add j) = some u) (h1 : ∀ u ∈ news, u.oneCell' = true)
    (h63 : n + m ≤ maxLen) (hbytes : (n + m) * bytes ≤ 140737488355328) (hbase : base ≤ w.heap.size)
    (h : ∀ v' w', RowAt w' base e size v' (n + m) (xs ++ news) → w.grownBy w' v.ownBlock → wpList P ops Q rest (a.put o.dst v') w') : wpList P ops Q (o :: rest) a w :=
  wpList_plain hgd fun _ hK => wp_append_row w s x t ho base e i z size bytes ht hi hz hsize hby hzs hsz v n xs hs hown ad m c news hx hl hnews h1 h63 hbytes hbase fun v' w' h2 h3 => hK _ _ (h v' w' h2 h3)

end

/-! ### Maps, entry by entry -/

/-- Block b is a map whose entries, oldest first, are L. -/
def MapAt (w : World) (b : Nat) (L : List (Value × Value)) : Prop := ∃ es clock, w.heap[b]? = some (.map es clock) ∧ es.toList.map (fun x => (x.key, x.val)) = L

section
variable {P : Program} {w w' : World} {b : Nat} {L : List (Value × Value)} {k e t : TypeId}
open Go.WideMaps

theorem MapAt.keep (h : MapAt w b L) (hk : ∀ o, w.heap[b]? = some o → w'.heap[b]? = some o) : MapAt w' b L := by
  obtain ⟨es, c, h1, h2⟩ := h
  exact ⟨es, c, hk _ h1, h2⟩
theorem MapAt.alloc (h : MapAt w b L) (o : Obj) : MapAt (w.alloc o) b L := h.keep fun _ hb => heap_alloc_keep hb o
theorem MapAt.drew (h : MapAt w b L) : MapAt w.drew b L := h
theorem MapAt.lt (h : MapAt w b L) : b < w.heap.size := by obtain ⟨es, c, h1, _⟩ := h; exact heap_lt h1
theorem MapAt.setCell (h : MapAt w b L) {a : Addr} {cs : Array Value} {u : TypeId} {fz : Nat × Nat} (ha : w.heap[a.block]? = some (.cells cs u fz)) (x : Value) : MapAt (w.setCell a x) b L := by
  obtain ⟨es, c, h1, h2⟩ := h
  exact ⟨es, c, heap_set_keep h1 (heap_ne h1 ha (by simp)) x, h2⟩
theorem MapAt.grown {row : Option Nat} (h : MapAt w b L) (hg : w.grownBy w' row) (hne : row ≠ some b) : MapAt w' b L :=
  h.keep fun _ hb => by rw [hg.block b (heap_lt hb) (fun e => hne e.symm)]; exact hb
/-- All keys of L are keys of the type. -/
def KeysOk (P : Program) (k : TypeId) (L : List (Value × Value)) : Prop := ∀ x ∈ L, ∃ l, keyOf P k x.1 = some l

theorem keys_entries {es : Array MapEntry} (hL : es.toList.map (fun x => (x.key, x.val)) = L) (hk : KeysOk P k L) : ∀ x ∈ es.toList, ∃ l, keyOf P k x.key = some l := fun x hx =>
  hk (x.key, x.val) (by rw [← hL]; exact List.mem_map_of_mem hx)

/-- What is found of a key. -/
theorem map_find (K : KeyLaw P k) (h : MapAt w b L) (hk : KeysOk P k L) {key : Value} {kl : Lit} (hkey : keyOf P k key = some kl) :
    ∃ es c, w.heap[b]? = some (.map es c) ∧ es.toList.map (fun x => (x.key, x.val)) = L ∧
      (((Instr.findKey k key es.toList).run P w = .ok none w ∧ ∀ x ∈ L, x.1 ≠ key) ∨
       ∃ (j : Nat) (v : Value), (Instr.findKey k key es.toList).run P w = .ok (some (j, v)) w ∧ L[j]? = some (key, v) ∧ (es[j]?).map (·.key) = some key) := by
  obtain ⟨es, c, h1, h2⟩ := h
  refine ⟨es, c, h1, h2, ?_⟩
  rcases K.find w hkey es.toList (keys_entries h2 hk) with ⟨a, a2⟩ | ⟨j, en, a, a2, a3⟩
  · refine .inl ⟨a, fun x hx => ?_⟩
    rw [← h2] at hx
    obtain ⟨en, hen, rfl⟩ := List.mem_map.1 hx
    exact a2 en hen
  · refine .inr ⟨j, en.val, a, ?_, ?_⟩
    · rw [← h2, List.getElem?_map, a2]; simp [a3]
    · have : es[j]? = some en := by simpa using a2
      rw [this]; simp [a3]

theorem map_lookup (K : KeyLaw P k) (ht : P.underlying t = some (.map k e)) {z : Value} (hz : ∀ w, (zeroValue e).run P w = .ok z w) (h : MapAt w b L) (hk : KeysOk P k L) {key : Value} {kl : Lit} (hkey : keyOf P k key = some kl) (c : Bool) :
    ((∀ x ∈ L, x.1 ≠ key) ∧ (Instr.lookup t (.map (some b)) key c).run P w = .ok (if c then .tuple #[z, .bool false] else z) w) ∨
    ∃ (j : Nat) (v : Value), L[j]? = some (key, v) ∧ (Instr.lookup t (.map (some b)) key c).run P w = .ok (if c then .tuple #[v, .bool true] else v) w := by
  obtain ⟨es, cl, h1, h2, h3⟩ := map_find K h hk hkey
  rcases h3 with ⟨a, hn⟩ | ⟨j, v, a, hj, _⟩
  · refine .inl ⟨hn, ?_⟩
    simp [Instr.lookup, run_underlying ht, MapKept.run_getObj_map h1, K.check w _ hkey, a, hz w]
  · refine .inr ⟨j, v, hj, ?_⟩
    simp [Instr.lookup, run_underlying ht, MapKept.run_getObj_map h1, K.check w _ hkey, a]

/-- The world with block b turned into another map. -/
def putMap (w : World) (b : Nat) (es : Array MapEntry) (c : Nat) : World := { w with heap := w.heap.setIfInBounds b (.map es c) }
theorem putMap_at {es : Array MapEntry} {c : Nat} (hb : b < w.heap.size) : (putMap w b es c).heap[b]? = some (.map es c) := by simp [putMap, hb]
theorem putMap_grown {es : Array MapEntry} {c : Nat} : w.grownBy (putMap w b es c) (some b) :=
  ⟨rfl, rfl, rfl, by simp [putMap], fun k _ hk => by
    have : k ≠ b := fun e => hk (by rw [e])
    simp [putMap, Array.getElem?_setIfInBounds_ne (Ne.symm this)]⟩

theorem map_update (K : KeyLaw P k) (ht : P.underlying t = some (.map k e)) (h : MapAt w b L) (hk : KeysOk P k L) {key val : Value} {kl : Lit} (hkey : keyOf P k key = some kl) :
    ((∀ x ∈ L, x.1 ≠ key) ∧ ∃ es c, (Instr.mapUpdate t (.map (some b)) key val).run P w = .ok () (putMap w b es c) ∧ MapAt (putMap w b es c) b (L ++ [(key, val)])) ∨
    ∃ (j : Nat) (v0 : Value), L[j]? = some (key, v0) ∧ ∃ es c, (Instr.mapUpdate t (.map (some b)) key val).run P w = .ok () (putMap w b es c) ∧ MapAt (putMap w b es c) b (L.set j (key, val)) := by
  obtain ⟨es, cl, h1, h2, h3⟩ := map_find K h hk hkey
  have hb := heap_lt h1
  rcases h3 with ⟨a, hn⟩ | ⟨j, v, a, hj, hjk⟩
  · refine .inl ⟨hn, es.push { key, val, born := cl }, cl + 1, ?_, _, _, putMap_at hb, by simp [← h2]⟩
    simp [Instr.mapUpdate, run_underlying ht, MapKept.run_getObj_map h1, K.check w _ hkey, a, MapKept.run_setObj_map _ h1, putMap]
  · refine .inr ⟨j, v, hj, es.modify j fun en => { en with key, val }, cl, ?_, _, _, putMap_at hb, ?_⟩
    · simp [Instr.mapUpdate, run_underlying ht, MapKept.run_getObj_map h1, K.check w _ hkey, a, hjk, K.stays w hkey, MapKept.run_setObj_map _ h1, putMap]
    · apply List.ext_getElem?
      intro i
      simp only [List.getElem?_map, List.getElem?_set, Array.getElem?_toList, Array.getElem?_modify, ← h2]
      by_cases hi : j = i
      · subst hi
        have hlt : j < es.size := by
          rcases Nat.lt_or_ge j es.size with hh | hh
          · exact hh
          · rw [Array.getElem?_eq_none hh] at hjk; cases hjk
        simp [hlt]
      · simp [hi]

theorem map_delete (K : KeyLaw P k) (ht : P.underlying t = some (.map k e)) (h : MapAt w b L) (hk : KeysOk P k L) {key : Value} {kl : Lit} (hkey : keyOf P k key = some kl) :
    ((∀ x ∈ L, x.1 ≠ key) ∧ ∃ es c, (∀ ty, (Builtin.delete_ #[t, k] ty #[.map (some b), key]).run P w = .ok (.tuple #[]) (putMap w b es c)) ∧ MapAt (putMap w b es c) b L) ∨
    ∃ (j : Nat) (v0 : Value), L[j]? = some (key, v0) ∧ ∃ es c, (∀ ty, (Builtin.delete_ #[t, k] ty #[.map (some b), key]).run P w = .ok (.tuple #[]) (putMap w b es c)) ∧ MapAt (putMap w b es c) b (L.eraseIdx j) := by
  obtain ⟨es, cl, h1, h2, h3⟩ := map_find K h hk hkey
  have hb := heap_lt h1
  rcases h3 with ⟨a, hn⟩ | ⟨j, v, a, hj, hjk⟩
  · refine .inl ⟨hn, es, cl, ?_, _, _, putMap_at hb, h2⟩
    intro ty
    simp [Builtin.delete_, run_underlying ht, MapKept.run_getObj_map h1, K.check w _ hkey, a, MapKept.run_setObj_map _ h1, putMap]
  · refine .inr ⟨j, v, hj, es.eraseIdxIfInBounds j, cl, ?_, _, _, putMap_at hb, ?_⟩
    · intro ty
      simp [Builtin.delete_, run_underlying ht, MapKept.run_getObj_map h1, K.check w _ hkey, a, MapKept.run_setObj_map _ h1, putMap]
    · rw [← h2, ← Go.ChangeMaps.map_eraseIdx]
      congr 1
      simp only [Array.eraseIdxIfInBounds]
      split
      · simp
      · rename_i hge
        rw [List.eraseIdx_of_length_le]
        simpa using hge
end
end Go.Proofs.YtnloommafgnanaaGreat

/-
  (*gazetteerref11.Limiter).Allow: the document's limiter.
-/
import Derived.Test.YtnbdlaedbbcnjaaLimC
import Derived.Deep.CutBlock
import Derived.Deep.DrawnRows
import Derived.Deep.RegionLaw
namespace Go.Proofs.Ytnbdlaedbbcnjaa
open Go.RowKit

theorem raddress_any (s : ByteArray) (w : World) : Calls Try.prog 15 #[.string s] w fun e w' => e = .returned (.bool (addrB s)) ∧ w = w' := by
  by_cases h4 : s.size = 4
  · have e1 : addrB s = true := by simp [addrB, h4]
    have E1 := Lib.hid e1; clear e1
    go_enter Try.func15, Try.ntmps15
    go_wp2
    go_ret
    exact ⟨by rw [E1.out]; rfl, rfl⟩
  · by_cases h16 : s.size = 16
    · have e1 : addrB s = true := by simp [addrB, h16]
      have E1 := Lib.hid e1; clear e1
      go_enter Try.func15, Try.ntmps15
      go_wp2
      go_ret
      exact ⟨by rw [E1.out]; rfl, rfl⟩
    · have e1 : addrB s = false := by simp [addrB, h4, h16]
      have E1 := Lib.hid e1; clear e1
      have b4 : ((s.size : Int) == 4) = false := by rw [beq_eq_false_iff_ne]; omega
      have b16 : ((s.size : Int) == 16) = false := by rw [beq_eq_false_iff_ne]; omega
      go_enter Try.func15, Try.ntmps15
      go_wp2
      go_ret
      exact ⟨by rw [E1.out]; rfl, rfl⟩

/-- The blocks of the document's limiter: itself, the rows of those who were seen. -/
def RefT : Obj → Prop
  | .cells _ t _ => t = 31 ∨ t = 54
  | _ => False

def oneV (x : lim.One) : List Value := [.string x.1, .int .i64 x.2.1, .int .i64 x.2.2]
/-- The document's limiter that keeps S: its struct, its row. -/
structure Rim (w : World) (B mp : Nat) (rate burst : Int) (S : List lim.One) (av : Value) : Prop where
  rim : w.heap[mp]? = some (.cells #[.int .i64 rate, .int .i64 burst, av] 31 (0, 0))
  hB : B ≤ mp
  row : RowAt w B 54 3 av S.length (S.flatMap oneV)
def RimInv (w : World) (B mp : Nat) (rate burst : Int) (S : List lim.One) : Prop := ∃ av, Rim w B mp rate burst S av

theorem Rim.fr {w w' : World} {B mp B' : Nat} {rate burst : Int} {S : List lim.One} {av : Value} {T : Obj → Prop} (h : Rim w B mp rate burst S av) (hf : Fr B' T w w') (hT : ∀ o, RefT o → ¬ T o) : Rim w' B mp rate burst S av :=
  ⟨hf.kept _ _ h.rim (hT _ (.inl rfl)), h.hB, h.row.fr hf fun _ => hT _ (.inr rfl)⟩
theorem RimInv.fr {w w' : World} {B mp B' : Nat} {rate burst : Int} {S : List lim.One} {T : Obj → Prop} (h : RimInv w B mp rate burst S) (hf : Fr B' T w w') (hT : ∀ o, RefT o → ¬ T o) : RimInv w' B mp rate burst S := by
  obtain ⟨av, h⟩ := h
  exact ⟨av, h.fr hf hT⟩

theorem flat_len (S : List lim.One) : (S.flatMap oneV).length = S.length * 3 := by
  induction S with
  | nil => rfl
  | cons x S ih => simp only [List.flatMap_cons, List.length_append, ih, List.length_cons, oneV]; simp; omega
theorem flat_at {S : List lim.One} {k : Nat} {x : lim.One} (h : S[k]? = some x) (j : Nat) (hj : j < 3) : (S.flatMap oneV)[k * 3 + j]? = (oneV x)[j]? := by
  induction S generalizing k with
  | nil => cases h
  | cons y S ih =>
    cases k with
    | zero =>
      simp only [List.getElem?_cons_zero, Option.some.injEq] at h
      subst h
      rw [List.flatMap_cons, List.getElem?_append_left (by simp [oneV]; omega)]
      simp
    | succ k =>
      rw [List.getElem?_cons_succ] at h
      rw [List.flatMap_cons, List.getElem?_append_right (by simp [oneV]; omega)]
      rw [show (k + 1) * 3 + j - (oneV y).length = k * 3 + j from by simp [oneV]; omega]
      exact ih h

theorem flat_set {S : List lim.One} {k : Nat} {who : ByteArray} {y y' : Int × Int} (h : S[k]? = some (who, y)) :
    (S.set k (who, y')).flatMap oneV = ((S.flatMap oneV).set (k * 3 + 1) (.int .i64 y'.1)).set (k * 3 + 2) (.int .i64 y'.2) := by
  induction S generalizing k with
  | nil => cases h
  | cons x S ih =>
    cases k with
    | zero =>
      simp only [List.getElem?_cons_zero, Option.some.injEq] at h
      subst h
      simp [oneV]
    | succ k =>
      rw [List.getElem?_cons_succ] at h
      rw [List.set_cons_succ, List.flatMap_cons, List.flatMap_cons, ih h]
      have hl : (oneV x).length = 3 := rfl
      rw [show (k + 1) * 3 + 1 = (oneV x).length + (k * 3 + 1) from by rw [hl]; omega, show (k + 1) * 3 + 2 = (oneV x).length + (k * 3 + 2) from by rw [hl]; omega]
      rw [List.set_append_right _ _ (by omega), List.set_append_right _ _ (by omega)]
      simp only [Nat.add_sub_cancel_left]

/-- The two numbers of one who was seen, told anew in the row's block. -/
def setOne (cur : Array Value) (o : Nat) (y : Int × Int) : Array Value := (cur.setIfInBounds (o + 1) (.int .i64 y.1)).setIfInBounds (o + 2) (.int .i64 y.2)
theorem setOne_size (cur : Array Value) (o : Nat) (y : Int × Int) : (setOne cur o y).size = cur.size := by simp [setOne]
theorem setOne_list (cur : Array Value) (o : Nat) (y : Int × Int) : (setOne cur o y).toList = (cur.toList.set (o + 1) (.int .i64 y.1)).set (o + 2) (.int .i64 y.2) := by simp [setOne]
theorem setOne_at (cur : Array Value) (o i : Nat) (y : Int × Int) (h : o + 2 < cur.size) : (setOne cur o y)[i]? = if i = o + 1 then some (.int .i64 y.1) else if i = o + 2 then some (.int .i64 y.2) else cur[i]? := by
  simp only [setOne, Array.getElem?_setIfInBounds, Array.size_setIfInBounds]
  by_cases h1 : i = o + 1
  · subst h1; simp; omega
  · by_cases h2 : i = o + 2
    · subst h2; simp; omega
    · rw [if_neg (by omega), if_neg (by omega), if_neg h1, if_neg h2]
theorem setOne_twice (cur : Array Value) (o : Nat) (y y' : Int × Int) (h : o + 2 < cur.size) : setOne (setOne cur o y) o y' = setOne cur o y' := by
  apply Array.ext_getElem?
  intro i
  rw [setOne_at _ _ _ _ (by rw [setOne_size]; exact h), setOne_at _ _ _ _ h, setOne_at _ _ _ _ h]
  split
  · rfl
  · split <;> rfl
theorem setOne_same (cur : Array Value) (o : Nat) (y : Int × Int) (h : o + 2 < cur.size) (h1 : cur[o + 1]? = some (.int .i64 y.1)) (h2 : cur[o + 2]? = some (.int .i64 y.2)) : setOne cur o y = cur := by
  apply Array.ext_getElem?
  intro i
  rw [setOne_at _ _ _ _ h]
  split
  · rename_i e; rw [e, h1]
  · split
    · rename_i e; rw [e, h2]
    · rfl
theorem setOne_left (cur : Array Value) (o : Nat) (y : Int × Int) (a : Int) (h : o + 2 < cur.size) : (setOne cur o y).setIfInBounds (o + 1) (.int .i64 a) = setOne cur o (a, y.2) := by
  apply Array.ext_getElem?
  intro i
  rw [Array.getElem?_setIfInBounds, setOne_at _ _ _ _ h, setOne_at _ _ _ _ h, setOne_size]
  by_cases h1 : o + 1 = i
  · subst h1; simp; omega
  · rw [if_neg h1, if_neg (Ne.symm h1), if_neg (Ne.symm h1)]
theorem setOne_right (cur : Array Value) (o : Nat) (y : Int × Int) (a : Int) (h : o + 2 < cur.size) : (setOne cur o y).setIfInBounds (o + 2) (.int .i64 a) = setOne cur o (y.1, a) := by
  apply Array.ext_getElem?
  intro i
  rw [Array.getElem?_setIfInBounds, setOne_at _ _ _ _ h, setOne_at _ _ _ _ h, setOne_size]
  by_cases h1 : o + 2 = i
  · subst h1; simp; omega
  · rw [if_neg h1]
    split
    · rfl
    · rw [if_neg (Ne.symm h1), if_neg (Ne.symm h1)]

section
variable {w : World} {B mp : Nat} {rate burst now : Int} {S : List lim.One} {av : Value} {who : ByteArray}

/-- Where one stands in memory. -/
theorem Rim.place (h : Rim w B mp rate burst S av) {k : Nat} {x : lim.One} (hk : S[k]? = some x) :
    ∃ g off cap cur, av = .slice (some ⟨g, off, none⟩) S.length cap ∧ B ≤ g ∧ g ≠ mp ∧ w.heap[g]? = some (.cells cur 54 (0, 0)) ∧ off + k * 3 + 2 < cur.size ∧
      cur[off + k * 3]? = some (.string x.1) ∧ cur[off + k * 3 + 1]? = some (.int .i64 x.2.1) ∧ cur[off + k * 3 + 2]? = some (.int .i64 x.2.2) ∧
      ∀ (w' : World) (y : Int × Int), w'.heap[g]? = some (.cells (setOne cur (off + k * 3) y) 54 (0, 0)) → w.grownBy w' (some g) →
        Rim w' B mp rate burst (S.set k (x.1, y)) av ∧ Fr B RefT w w' := by
  have hkl := (List.getElem?_eq_some_iff.1 hk).1
  obtain ⟨g, off, cap, rfl, hcap, hB, hc, hf, cur, hcur, hsz, htk⟩ := h.row.form (by omega)
  have hmul : (k + 1) * 3 ≤ cap * 3 := Nat.mul_le_mul_right _ (by omega)
  have hat : ∀ j, j < 3 → cur[off + k * 3 + j]? = (oneV x)[j]? := by
    intro j hj
    have h1 := flat_at hk j hj
    have h2 : (oneV x)[j]? = some ((oneV x)[j]'hj) := List.getElem?_eq_getElem hj
    rw [h2] at h1
    have h3 := hc _ _ h1
    rw [heap_cell hcur] at h3
    rw [h2, ← h3]; congr 1; omega
  have hne : g ≠ mp := heap_ne hcur h.rim (by simp)
  refine ⟨g, off, cap, cur, rfl, hB, hne, hcur, by omega, hat 0 (by omega), hat 1 (by omega), hat 2 (by omega), fun w' y hw hg => ⟨⟨?_, h.hB, ?_⟩, ?_⟩⟩
  · rw [hg.block mp (heap_lt h.rim) (fun e => hne (Option.some.inj e).symm)]; exact h.rim
  · rw [List.length_set]
    refine ⟨by rw [flat_len, List.length_set], .inr ⟨g, off, cap, _, rfl, hB, hw, hcap, ?_, by rw [setOne_size]; exact hsz, ?_⟩⟩
    · rcases h.row.2 with ⟨h0, _⟩ | ⟨_, _, _, _, h0, _, _, _, hm, _⟩
      · cases h0
      · cases h0; exact hm
    · rw [setOne_list, flat_set (y := x.2) (by rw [hk]), ← htk]
      rw [List.drop_set, if_neg (by omega), List.drop_set, if_neg (by omega), List.take_set, List.take_set]
      congr 1
      · congr 1
        omega
      · omega
  · exact (Fr.refl _ _ _).block hcur (.inr rfl) hB hg

theorem fr_of_grown {B : Nat} {T : Obj → Prop} {w w' : World} (hg : w.grownBy w' none) (hB : B ≤ w.heap.size) : Fr B T w w' :=
  ⟨(Below.refl _ _).grown hg hB (fun k hk => by cases hk), fun k o hk _ => by rw [hg.block k (heap_lt hk) (by simp)]; exact hk⟩

/-- A new one, entered. -/
theorem Rim.entered (h : Rim w B mp rate burst S av) {w0 w4 : World} {v' : Value} {x : lim.One} (h0 : w.grownBy w0 none)
    (hr : RowAt w4 B 54 3 v' (S.length + 1) (S.flatMap oneV ++ oneV x)) (hg : w0.grownBy w4 av.ownBlock) :
    w4.heap[mp]? = some (.cells #[.int .i64 rate, .int .i64 burst, av] 31 (0, 0)) ∧
    Rim (w4.setCell ⟨mp, 2, none⟩ v') B mp rate burst (S ++ [x]) v' ∧ Fr B RefT w (w4.setCell ⟨mp, 2, none⟩ v') := by
  have hlt := heap_lt h.rim
  have hB := h.hB
  have m0 : w0.heap[mp]? = some (.cells #[.int .i64 rate, .int .i64 burst, av] 31 (0, 0)) := by
    rw [h0.block mp hlt (by simp)]; exact h.rim
  have m4 : w4.heap[mp]? = some (.cells #[.int .i64 rate, .int .i64 burst, av] 31 (0, 0)) := by
    rw [hg.block mp (heap_lt m0) (fun e => by
      rcases h.row.own with ho | ⟨g, cur, ho, _, hgg⟩
      · rw [ho] at e; cases e
      · rw [ho] at e; cases e
        rw [h.rim] at hgg; cases hgg)]
    exact m0
  have f0 : Fr B RefT w w0 := fr_of_grown h0 (by omega)
  have f4 : Fr B RefT w w4 := by
    rcases h.row.own with ho | ⟨g, cur, ho, hBg, hgg⟩
    · rw [ho] at hg
      exact f0.trans (fr_of_grown hg (by have := h0.size; omega))
    · have h1 : w0.heap[g]? = some (.cells cur 54 (0, 0)) := by rw [h0.block g (heap_lt hgg) (by simp)]; exact hgg
      rw [ho] at hg
      exact f0.block h1 (.inr rfl) hBg hg
  refine ⟨m4, ⟨by rw [heap_set_at m4]; rfl, h.hB, ?_⟩, f4.block m4 (.inl rfl) hB (grownBy_setCell _ _ _)⟩
  have := hr.setCell (a := ⟨mp, 2, none⟩) m4 (fun cur e => by cases e) v'
  simpa using this

/-- The eldest struck. -/
theorem Rim.struck {x : lim.One} {g off cap : Nat} (h : Rim w B mp rate burst (x :: S) (.slice (some ⟨g, off, none⟩) (S.length + 1) cap)) :
    Rim (w.setCell ⟨mp, 2, none⟩ (.slice (some ⟨g, off + 3, none⟩) S.length (cap - 1))) B mp rate burst S (.slice (some ⟨g, off + 3, none⟩) S.length (cap - 1)) ∧
      Fr B RefT w (w.setCell ⟨mp, 2, none⟩ (.slice (some ⟨g, off + 3, none⟩) S.length (cap - 1))) := by
  have hrow := h.row.cutFront (k := 1) (by simp)
  simp only [Nat.one_mul, Nat.add_sub_cancel, List.flatMap_cons] at hrow
  have hd : (oneV x ++ S.flatMap oneV).drop 3 = S.flatMap oneV := List.drop_left' rfl
  rw [hd] at hrow
  exact ⟨⟨by rw [heap_set_at h.rim]; rfl, h.hB, hrow.setCell (a := ⟨mp, 2, none⟩) h.rim (fun cur e => by cases e) _⟩, (Fr.refl _ _ _).block h.rim (.inl rfl) h.hB (grownBy_setCell _ _ _)⟩
end

theorem info_one : (Try.prog.info? 54).map (fun i => (i.zero, i.size, i.bytes)) = some (some (.agg #[.string ByteArray.empty, .int .i64 0, .int .i64 0]), 3, 32) := by kernel_rfl

/-- Where the asking stands when one's place is known. -/
def RMid (w : World) (B mp : Nat) (rate burst : Int) (S : List lim.One) (k : Nat) (s8 : Value) (wx : World) : Prop :=
  s8 = .int .i64 k ∧ RimInv wx B mp rate burst S ∧ Fr B RefT w wx

/-- The number in a cell. -/
def cellInt (w : World) (a : Addr) : Int := match w.cell? a with | some (.int _ n) => n | _ => 0
theorem cellInt_of {w : World} {a : Addr} {k : IntKind} {n : Int} (h : w.cell? a = some (.int k n)) : cellInt w a = n := by simp [cellInt, h]

theorem grownBy_drewN {w w' : World} {row : Option Nat} (h : w.grownBy w' row) (n : Nat) : w.grownBy (w'.drewN n) row := ⟨h.os, h.tape, h.output, h.size, h.block⟩
/-- What the step by step refilling has come to. -/
structure Steps (wc wr : World) (g o : Nat) (cur : Array Value) (rate burst now zl zt : Int) (j : Nat) : Prop where
  at_ : wr.heap[g]? = some (.cells (setOne cur o (zl + rate * j, zt + j)) 54 (0, 0))
  grown : wc.grownBy wr (some g)
  few : j = 0 ∨ 0 < rate ∧ zt + j ≤ now ∧ zl + rate * (j - 1) < burst

theorem Steps.step {wc wr : World} {g o : Nat} {cur : Array Value} {rate burst now zl zt L T : Int} {j : Nat}
    (h : wr.heap[g]? = some (.cells (setOne cur o (zl + rate * j, zt + j)) 54 (0, 0))) (hs : Steps wc wr g o cur rate burst now zl zt j) (hL : L = zl + rate * j) (hT : T = zt + j) (hsz : o + 2 < cur.size)
    (hc : (j = 0 ∨ 0 < rate ∧ zt + j ≤ now ∧ zl + rate * (j - 1) < burst) ∧ T < now ∧ L < burst ∧ 0 < rate) (n : Nat) :
    Steps wc (((wr.drewN n).setCell ⟨g, o + 2, none⟩ (.int .i64 (T + 1))).setCell ⟨g, o + 1, none⟩ (.int .i64 (L + rate))).drew g o cur rate burst now zl zt (j + 1) := by
  have e1 : zl + rate * ((j + 1 : Nat) : Int) = L + rate := by rw [hL, Int.natCast_add, Int.mul_add]; simp; omega
  have e2 : zt + ((j + 1 : Nat) : Int) = T + 1 := by omega
  refine ⟨?_, ?_, .inr ⟨hc.2.2.2, by omega, ?_⟩⟩
  · have := heap_set_at (heap_set_at (w := wr.drewN n) h (o + 2) (.int .i64 (T + 1))) (o + 1) (.int .i64 (L + rate))
    rw [setOne_right _ _ _ _ hsz, setOne_left _ _ _ _ hsz] at this
    rw [e1, e2]
    exact this
  · exact grownBy_drew (grownBy_trans (grownBy_trans (grownBy_drewN hs.grown n) (grownBy_setCell _ ⟨g, o + 2, none⟩ _)) (grownBy_setCell _ ⟨g, o + 1, none⟩ _))
  · rw [show (((j + 1 : Nat) : Int) - 1) = j from by omega]
    omega

theorem heap_left {w : World} {g o : Nat} {cur : Array Value} {y : Int × Int} (h : w.heap[g]? = some (.cells (setOne cur o y) 54 (0, 0))) (hsz : o + 2 < cur.size) (a : Int) :
    (w.setCell ⟨g, o + 1, none⟩ (.int .i64 a)).heap[g]? = some (.cells (setOne cur o (a, y.2)) 54 (0, 0)) := by
  rw [← setOne_left cur o y a hsz]; exact heap_set_at h _ _
theorem heap_right {w : World} {g o : Nat} {cur : Array Value} {y : Int × Int} (h : w.heap[g]? = some (.cells (setOne cur o y) 54 (0, 0))) (hsz : o + 2 < cur.size) (a : Int) :
    (w.setCell ⟨g, o + 2, none⟩ (.int .i64 a)).heap[g]? = some (.cells (setOne cur o (y.1, a)) 54 (0, 0)) := by
  rw [← setOne_right cur o y a hsz]; exact heap_set_at h _ _

/-- What the asking leaves. -/
theorem Rim.finish {w0 w1 w' : World} {B mp : Nat} {rate burst now : Int} {S S1 : List lim.One} {k : Nat} {who : ByteArray} {y : Int × Int} {r : Bool} {av : Value}
    (hask : lim.ask rate burst now S who = (r, S1.set k (who, y))) (hfr : Fr B RefT w0 w1) (h : Rim w' B mp rate burst (S1.set k (who, y)) av ∧ Fr B RefT w1 w') :
    Ending.returned (.bool r) = .returned (.bool (lim.ask rate burst now S who).1) ∧ RimInv w' B mp rate burst (lim.ask rate burst now S who).2 ∧ Fr B RefT w0 w' := by
  rw [hask]
  exact ⟨rfl, ⟨_, h.1⟩, hfr.trans h.2⟩

theorem RMid.new {w W : World} {B mp : Nat} {rate burst now : Int} {S : List lim.One} {who : ByteArray} {av : Value} (hp : ¬ lim.place S who < S.length) (hl : S.length < 1000)
    (h1 : Rim W B mp rate burst (S ++ [(who, burst, now)]) av) (h2 : Fr B RefT w W) :
    RMid w B mp rate burst (lim.enter burst now S who).1 (lim.enter burst now S who).2 (.int .i64 S.length) W := by
  unfold lim.enter
  rw [if_neg hp, if_pos hl]
  exact ⟨rfl, ⟨_, h1⟩, h2⟩
theorem RMid.full {w W : World} {B mp : Nat} {rate burst now : Int} {S : List lim.One} {who : ByteArray} {g off cap : Nat} (hp : ¬ lim.place S who < S.length) (hl : S.length = 1000)
    (h1 : Rim W B mp rate burst (S ++ [(who, burst, now)]) (.slice (some ⟨g, off, none⟩) (S.length + 1) cap)) (h2 : Fr B RefT w W) :
    RMid w B mp rate burst (lim.enter burst now S who).1 (lim.enter burst now S who).2 (.int .i64 (S.length - 1)) (W.setCell ⟨mp, 2, none⟩ (.slice (some ⟨g, off + 3, none⟩) S.length (cap - 1))) := by
  obtain ⟨x0, S', rfl⟩ : ∃ x0 S', S = x0 :: S' := by
    cases S with
    | nil => simp at hl
    | cons x0 S' => exact ⟨x0, S', rfl⟩
  have hlen : (S' ++ [(who, burst, now)]).length = (x0 :: S').length := by simp
  have h3 := Rim.struck (x := x0) (S := S' ++ [(who, burst, now)]) (by rw [hlen]; exact h1)
  rw [hlen] at h3
  unfold lim.enter
  rw [if_neg hp, if_neg (by omega)]
  exact ⟨by congr 1; simp, ⟨_, h3.1⟩, h2.trans h3.2⟩

set_option maxHeartbeats 1000000 in
set_option maxRecDepth 100000 in
theorem rallow_ask (s : ByteArray) (now : Int) (B mp : Nat) (rate burst : Int) (S : List lim.One) (w : World) (hs : addrB s = true) (hg : lim.Good burst S)
    (hr0 : 0 ≤ rate) (hr1 : rate ≤ 1000) (hb0 : 1 ≤ burst) (hb1 : burst ≤ 1000) (hn0 : -9223372036854775808 ≤ now) (hn1 : now ≤ 9223372036854775807)
    (hinv : RimInv w B mp rate burst S) :
    Calls Try.prog 9 #[.pointer (some ⟨mp, 0, none⟩), .string s, .int .i64 now] w fun e w' =>
      e = .returned (.bool (lim.ask rate burst now S (lim.keyOf s)).1) ∧ RimInv w' B mp rate burst (lim.ask rate burst now S (lim.keyOf s)).2 ∧ Fr B RefT w w' := by
  have HI := Lib.hid hinv; clear hinv
  have HG := Lib.hid hg; clear hg
  have hk : lim.keyOf s = if s.size = 16 then s.extract 0 7 else s.extract 0 3 := rfl
  have hsz : s.size = 4 ∨ s.size = 16 := by simpa [addrB] using hs
  have h3 : (3 : Int) ≤ s.size := by omega
  have HK := Lib.hid hk; clear hk
  have HZ := Lib.hid hsz; clear hsz
  have HW := Lib.hid (lim.key_size (s := s))
  go_enter Try.func9, Try.ntmps9
  go_upto_if 17 with (first | (go_at_call 15; refine (raddress_any _ _).mono ?_; rintro e w' ⟨rfl, rfl⟩))
  go_cut [7] (fun s7 wx => s7 = .string (lim.keyOf s) ∧ w = wx)
  case first =>
    rcases HZ.out with h | h
    · have b16 : ((s.size : Int) == 16) = false := by rw [beq_eq_false_iff_ne]; omega
      have hk : lim.keyOf s = s.extract 0 3 := by rw [HK.out, if_neg (by omega)]
      have HK2 := Lib.hid hk
      clear hk h
      go_wp2
      go_meet
      exact ⟨by rw [HK2.out], rfl⟩
    · have b16 : ((s.size : Int) == 16) = true := by rw [beq_iff_eq]; omega
      have h7 : (7 : Int) ≤ s.size := by omega
      have hk : lim.keyOf s = s.extract 0 7 := by rw [HK.out, if_pos h]
      have HK2 := Lib.hid hk
      clear hk h
      go_wp2
      go_meet
      exact ⟨by rw [HK2.out], rfl⟩
  case rest =>
    obtain ⟨rfl, rfl⟩ := hcut
    clear h3
    generalize hwho : lim.keyOf s = who at *
    have HWHO := Lib.hid hwho
    clear hwho HK HZ
    obtain ⟨av, hR⟩ := HI.out
    clear HI
    obtain ⟨ao, cap, rfl, hcap⟩ := hR.row.len
    have c0 : w.cell? ⟨mp, 2, none⟩ = some (.slice ao S.length cap) := by rw [heap_cell hR.rim]; rfl
    have hSl := HG.out.len
    have HR := Lib.hid hR
    clear hR
    go_upto_block 0 with fail
    go_cut [8] (fun s8 wx => s8 = .int .i64 (lim.place S who) ∧ w = wx)
    case first =>
      go_wp2
      go_loop [8] (fun i => ∃ k : Nat, k ≤ lim.place S who ∧ i = .int .i64 k) (fun i => S.length - (intOf i).toNat)
      case atStart => exact ⟨0, Nat.zero_le _, rfl⟩
      case round =>
        obtain ⟨k, hk, rfl⟩ := hrel
        have hpl := lim.place_le S who
        by_cases hlt : k < S.length
        · obtain ⟨⟨xw, xy⟩, hx⟩ : ∃ x, S[k]? = some x := ⟨_, List.getElem?_eq_getElem hlt⟩
          obtain ⟨g, off, cap', cur, he, hB, hne, hcur, hsz, k0, _⟩ := HR.out.place hx
          simp only [Value.slice.injEq, true_and] at he
          obtain ⟨rfl, rfl⟩ := he
          have c1 : w.cell? ⟨g, off + k * 3, none⟩ = some (.string xw) := by rw [heap_cell hcur]; exact k0
          clear hcur hsz k0
          by_cases hxw : xw = who
          · subst hxw
            have hkp : k = lim.place S xw := by
              rcases Nat.lt_or_ge k (lim.place S xw) with h | h
              · exact absurd rfl (lim.place_before h hx)
              · omega
            have b1 : (xw.toList == xw.toList) = true := str_eq.2 rfl
            have HKP := Lib.hid hkp
            clear hkp hx hk
            go_wp2
            go_meet
            exact ⟨by rw [← HKP.out], rfl⟩
          · have hkp : k < lim.place S who := by
              rcases Nat.lt_or_ge k (lim.place S who) with h | h
              · exact h
              · have hkk : k = lim.place S who := by omega
                have hpp : lim.place S who < S.length := by omega
                obtain ⟨y, hy⟩ := lim.place_at hpp
                rw [← hkk, hx] at hy
                cases hy
                exact absurd rfl hxw
            have b1 : (xw.toList == who.toList) = false := str_ne hxw
            clear hxw hx
            go_wp2
            go_round
            case rel => exact ⟨k + 1, by omega, by go_num⟩
            case measure => simp [intOf]; omega
        · have hke : k = S.length := by omega
          have hkp : k = lim.place S who := by omega
          have HKP := Lib.hid hkp
          subst hke
          clear hkp hk
          go_wp2
          go_meet
          exact ⟨by rw [← HKP.out], rfl⟩
    case rest =>
      obtain ⟨rfl, rfl⟩ := hcut
      have hpl := lim.place_le S who
      go_upto_if 47 with fail
      go_cut [8] (fun s8 wx => RMid w B mp rate burst (lim.enter burst now S who).1 (lim.enter burst now S who).2 s8 wx)
      case first =>
        by_cases hp : lim.place S who < S.length
        · have b2 : ((lim.place S who : Int) == S.length) = false := by rw [beq_eq_false_iff_ne]; omega
          have hfin : RMid w B mp rate burst (lim.enter burst now S who).1 (lim.enter burst now S who).2 (.int .i64 (lim.place S who)) w := by
            unfold lim.enter
            rw [if_pos hp]
            exact ⟨rfl, ⟨_, HR.out⟩, Fr.refl _ _ _⟩
          have HF := Lib.hid hfin
          clear hfin
          go_wp2
          go_meet
          exact HF.out
        · have hpe : lim.place S who = S.length := by omega
          have HP := Lib.hid hp
          have hfin := fun h1 h2 h3 => (show RMid w B mp rate burst (S ++ [(who, burst, now)]) S.length (.int .i64 S.length) w from ⟨h1, h2, h3⟩)
          clear hfin hp
          rw [hpe]
          have b2 : ((S.length : Int) == S.length) = true := by rw [beq_iff_eq]
          obtain ⟨i0, hi, hz0, hz1, hz2⟩ := info_parts info_one
          have HPE := Lib.hid hpe
          clear hpe
          have c0b : w.cell? ⟨mp, 1, none⟩ = some (.int .i64 burst) := by rw [heap_cell HR.out.rim]; rfl
          have n1 : (w.alloc (.cells #[.string who, .int .i64 burst, .int .i64 now] 54)).cell? ⟨mp, 1, none⟩ = some (.int .i64 burst) := by rw [heap_cell (heap_alloc_keep HR.out.rim _)]; rfl
          have n2 : (w.alloc (.cells #[.string who, .int .i64 burst, .int .i64 now] 54)).cell? ⟨mp, 2, none⟩ = some (.slice ao S.length cap) := by rw [heap_cell (heap_alloc_keep HR.out.rim _)]; rfl
          have q3 : S.length + 1 ≤ maxLen := by unfold maxLen; omega
          have q5 : B ≤ w.heap.size := by have := heap_lt HR.out.rim; have := HR.out.hB; omega
          have Q3 := Lib.hid q3; have Q5 := Lib.hid q5
          clear q3 q5
          go_wp2
          go_region_law
            ((refine step_append_row _ (by rfl) _ _ 29 (by rfl) B 54 i0 _ 3 32 Try.underlying29 hi hz0 hz1 hz2 rfl (by decide) (.slice ao S.length cap) S.length (S.flatMap oneV) (by rfl) ((HR.out.row.alloc _).drew) ⟨w.heap.size, 0, none⟩ 1 1 (oneV (who, burst, now)) (by rfl) (by rfl) (news_at w (oneV (who, burst, now)) _) (by simp [oneV, Value.oneCell']) Q3.out (by omega) (by have := Q5.out; simp; omega) ?_; intro v' w4 hr4 hg4; obtain ⟨m4, e1, e2⟩ := HR.out.entered (x := (who, burst, now)) (grownBy_drew (World.grownBy_alloc w _ none)) hr4 hg4; have f1 : w4.cell? ⟨mp, 1, none⟩ = some (.int .i64 burst) := (by rw [heap_cell m4]; rfl); have f2 : w4.cell? ⟨mp, 2, none⟩ = some (.slice ao S.length cap) := (by rw [heap_cell m4]; rfl); have f3 : w4.frozen? ⟨mp, 2, none⟩ = false := heap_frozen m4 _; have HE1 := Lib.hid e1; have HE2 := Lib.hid e2; obtain ⟨g, off, cap', hv', hcap', _⟩ := hr4.form (by omega); clear e1 e2 hr4 hg4 m4; subst hv'))
          all_goals clear n1 n2 c0 c0b
          all_goals
            by_cases hlen : S.length < 1000
            · go_wp2
              go_meet
              exact RMid.new HP.out hlen HE1.out HE2.out
            · have hfull : S.length = 1000 := by omega
              have HFU := Lib.hid hfull
              clear hfull
              go_wp2
              go_meet
              exact RMid.full HP.out HFU.out HE1.out HE2.out
      case rest =>
        obtain ⟨rfl, ⟨av, hR1⟩, hfr⟩ := hcut
        obtain ⟨w1, hw1⟩ : ∃ w1 : World, w1 = wc := ⟨_, rfl⟩
        subst hw1
        obtain ⟨hgood, y, hzk⟩ := lim.enter_good (S := S) (who := who) hb0 ⟨hn0, hn1⟩ HW.out HG.out
        have hask := lim.ask_at (rate := rate) (burst := burst) (now := now) (S := S) (who := who) (w' := who) (x := y) hzk
        obtain ⟨zl, zt⟩ := y
        have hb := hgood.left _ (List.mem_of_getElem? hzk)
        have htm := hgood.time _ (List.mem_of_getElem? hzk)
        have hk1 := (List.getElem?_eq_some_iff.1 hzk).1
        have hS1 := hgood.len
        obtain ⟨g, off, cap1, cur, rfl, hBg, hne, hcur, hsz, _, k1, k2, hfin⟩ := hR1.place hzk
        generalize (lim.enter burst now S who).1 = S1 at *
        generalize (lim.enter burst now S who).2 = k at *
        dsimp only at hb htm k1 k2 hfin
        obtain ⟨l0, l1⟩ := hb
        obtain ⟨t0, t1⟩ := htm
        have d0 : w1.cell? ⟨mp, 0, none⟩ = some (.int .i64 rate) := by rw [heap_cell hR1.rim]; rfl
        have d1 : w1.cell? ⟨mp, 1, none⟩ = some (.int .i64 burst) := by rw [heap_cell hR1.rim]; rfl
        have d2 : w1.cell? ⟨mp, 2, none⟩ = some (.slice (some ⟨g, off, none⟩) S1.length cap1) := by rw [heap_cell hR1.rim]; rfl
        have HRM := Lib.hid hR1.rim
        have HFR := Lib.hid hfr; have HASK := Lib.hid hask; have HC := Lib.hid hcur; have HFIN := Lib.hid hfin
        have HK1 := Lib.hid k1; have HK2 := Lib.hid k2
        clear hR1 hfr hask hcur hfin k1 k2 hzk hgood c0 HR
        have hk0 : (0 : Int) ≤ k := by omega
        have hk0' : (k : Int) < S1.length := by omega
        go_upto_block 2 with fail
        go_cut [] (fun wx => ∃ j : Nat, Steps w1 wx g (off + k * 3) cur rate burst now zl zt j ∧ (now ≤ zt + j ∨ burst ≤ zl + rate * j ∨ rate ≤ 0))
        case first =>
          go_wp2
          go_loopw [] (fun wr => ∃ j : Nat, Steps w1 wr g (off + k * 3) cur rate burst now zl zt j) (fun wr => (now - cellInt wr ⟨g, off + k * 3 + 2, none⟩).toNat)
          case atStart => exact ⟨0, ⟨by simp [setOne_same cur (off + k * 3) (zl, zt) hsz HK1.out HK2.out]; exact HC.out, World.grownBy.refl _ _, .inl rfl⟩⟩
          case round =>
            obtain ⟨j, hst⟩ := hrel
            have hwr := hst.at_
            have hj := hst.few
            have c1 : wr.cell? ⟨g, off + k * 3 + 1, none⟩ = some (.int .i64 (zl + rate * j)) := by rw [heap_cell hwr, setOne_at _ _ _ _ hsz, if_pos rfl]
            have c2 : wr.cell? ⟨g, off + k * 3 + 2, none⟩ = some (.int .i64 (zt + j)) := by rw [heap_cell hwr, setOne_at _ _ _ _ hsz, if_neg (by omega), if_pos rfl]
            have hrm : wr.heap[mp]? = _ := (hst.grown.block mp (heap_lt HRM.out) (fun e => hne (Option.some.inj e).symm)).trans HRM.out
            have e0 : wr.cell? ⟨mp, 0, none⟩ = some (.int .i64 rate) := by rw [heap_cell hrm]; rfl
            have e1 : wr.cell? ⟨mp, 1, none⟩ = some (.int .i64 burst) := by rw [heap_cell hrm]; rfl
            have f0 : ∀ i, wr.frozen? ⟨g, i, none⟩ = false := heap_frozen hwr
            have hmul : 0 ≤ rate * (j : Int) := Int.mul_nonneg hr0 (by omega)
            have hmul2 : rate * ((j : Int) - 1) = rate * j - rate := by rw [Int.mul_sub, Int.mul_one]
            have hmul3 : rate * ((j : Int) + 1) = rate * j + rate := by rw [Int.mul_add, Int.mul_one]
            have hT : zt + (j : Int) ≤ 9223372036854775807 := by omega
            have hL : zl + rate * (j : Int) ≤ 2000 := by
              rcases hj with h | h
              · subst h; simp; omega
              · rw [hmul2] at h; omega
            have hmeas : (now - cellInt wr ⟨g, off + k * 3 + 2, none⟩).toNat = (now - (zt + j)).toNat := by rw [cellInt_of c2]
            have HST := Lib.hid hst; have HM2 := Lib.hid hmul2; have HM3 := Lib.hid hmul3; have HWR := Lib.hid hwr; have HJ := Lib.hid hj; have HME := Lib.hid hmeas
            clear hst hmul2 hmul3 hwr hrm hj d0 d1 d2 hmeas
            obtain ⟨L, hLe⟩ : ∃ L, L = zl + rate * (j : Int) := ⟨_, rfl⟩
            obtain ⟨T, hTe⟩ : ∃ T, T = zt + (j : Int) := ⟨_, rfl⟩
            rw [← hLe] at c1 hL
            rw [← hTe] at c2 hT
            have HLE := Lib.hid hLe; have HTE := Lib.hid hTe
            have hL0 : 0 ≤ L := by omega
            have hT0 : -9223372036854775808 ≤ T := by omega
            clear hLe hTe hmul
            by_cases q1 : T < now
            · by_cases q2 : L < burst
              · by_cases q3 : 0 < rate
                · have b1 : decide (T < now) = true := decide_eq_true q1
                  have b2 : decide (L < burst) = true := decide_eq_true q2
                  have b3 : decide (0 < rate) = true := decide_eq_true q3
                  go_wp2
                  go_quiet (fail)
                  go_wp2
                  go_region
                  go_wp2
                  go_roundw
                  case rel => exact ⟨j + 1, Steps.step HWR.out HST.out HLE.out HTE.out hsz ⟨HJ.out, q1, q2, q3⟩ nq⟩
                  case measure =>
                    rw [HME.out, cellInt_of (n := T + 1) (k := .i64) (by
                      have := heap_set_at (heap_set_at (w := wr.drewN nq) HWR.out (off + k * 3 + 2) (.int .i64 (T + 1))) (off + k * 3 + 1) (.int .i64 (L + rate))
                      rw [heap_cell (w := World.drew _) this, Array.getElem?_setIfInBounds, if_neg (by omega), Array.getElem?_setIfInBounds, if_pos rfl, if_pos (by rw [setOne_size]; exact hsz)])]
                    have := HTE.out
                    omega
                · have b1 : decide (T < now) = true := decide_eq_true q1
                  have b2 : decide (L < burst) = true := decide_eq_true q2
                  have b3 : decide (0 < rate) = false := decide_eq_false q3
                  go_wp2
                  go_quiet (fail)
                  go_wp2
                  go_meet
                  exact ⟨j, ⟨HWR.out, grownBy_drewN HST.out.grown _, HJ.out⟩, .inr (.inr (by omega))⟩
              · have b1 : decide (T < now) = true := decide_eq_true q1
                have b2 : decide (L < burst) = false := decide_eq_false q2
                go_wp2
                go_quiet (fail)
                go_wp2
                go_meet
                exact ⟨j, ⟨HWR.out, grownBy_drewN HST.out.grown _, HJ.out⟩, .inr (.inl (by have := HLE.out; omega))⟩
            · have b1 : decide (T < now) = false := decide_eq_false q1
              go_wp2
              go_quiet (fail)
              go_wp2
              go_meet
              exact ⟨j, ⟨HWR.out, grownBy_drewN HST.out.grown _, HJ.out⟩, .inl (by have := HTE.out; omega)⟩
        case rest =>
          obtain ⟨j, hst, hend⟩ := hcut
          have hwr := hst.at_
          have hj := hst.few
          have hrf := lim.steps_refill hr0 hb0 l0 l1 hj hend
          have hmul2 : rate * ((j : Int) - 1) = rate * j - rate := by rw [Int.mul_sub, Int.mul_one]
          have hmul : 0 ≤ rate * (j : Int) := Int.mul_nonneg hr0 (by omega)
          have hT : zt + (j : Int) ≤ 9223372036854775807 := by
            rcases hj with h | h
            · subst h; simp; omega
            · omega
          have hL : zl + rate * (j : Int) ≤ 2000 := by
            rcases hj with h | h
            · subst h; simp; omega
            · rw [hmul2] at h; omega
          have c1 : wc.cell? ⟨g, off + k * 3 + 1, none⟩ = some (.int .i64 (zl + rate * j)) := by rw [heap_cell hwr, setOne_at _ _ _ _ hsz, if_pos rfl]
          have c2 : wc.cell? ⟨g, off + k * 3 + 2, none⟩ = some (.int .i64 (zt + j)) := by rw [heap_cell hwr, setOne_at _ _ _ _ hsz, if_neg (by omega), if_pos rfl]
          have hrm : wc.heap[mp]? = _ := (hst.grown.block mp (heap_lt HRM.out) (fun e => hne (Option.some.inj e).symm)).trans HRM.out
          have e0 : wc.cell? ⟨mp, 0, none⟩ = some (.int .i64 rate) := by rw [heap_cell hrm]; rfl
          have e1 : wc.cell? ⟨mp, 1, none⟩ = some (.int .i64 burst) := by rw [heap_cell hrm]; rfl
          have f0 : ∀ i, wc.frozen? ⟨g, i, none⟩ = false := heap_frozen hwr
          have HST := Lib.hid hst.grown; have HWR := Lib.hid hwr
          have hL0 : 0 ≤ zl + rate * (j : Int) := by omega
          have hT0 : -9223372036854775808 ≤ zt + (j : Int) := by omega
          clear hst hend hj hmul2 hmul hrm hwr d0 d1 d2 HK1 HK2 HRM
          generalize zl + rate * (j : Int) = L at *
          generalize zt + (j : Int) = T at *
          have hask := HASK.out
          rw [← hrf] at hask
          have HASK2 := Lib.hid hask
          clear hask HASK hrf
          have fin : ∀ (w' : World) (y : Int × Int) (r : Bool), lim.ask rate burst now S who = (r, S1.set k (who, y)) → w'.heap[g]? = some (.cells (setOne cur (off + k * 3) y) 54 (0, 0)) → wc.grownBy w' (some g) →
              Ending.returned (.bool r) = .returned (.bool (lim.ask rate burst now S who).1) ∧ RimInv w' B mp rate burst (lim.ask rate burst now S who).2 ∧ Fr B RefT w w' :=
            fun w' y r h1 h2 h3 => Rim.finish h1 HFR.out (HFIN.out w' y h2 (grownBy_trans HST.out h3))
          have HFN := Lib.hid fin
          clear fin
          by_cases q1 : burst < L
          · have b1 : decide (burst < L) = true := decide_eq_true q1
            have m1 : min L burst = burst := by omega
            by_cases q2 : T < now
            · have m2 : max T now = now := by omega
              have hask := HASK2.out
              dsimp only at hask
              rw [m1, m2, if_neg (by omega)] at hask
              have HA := Lib.hid hask
              clear hask m1 m2 HASK2
              have bz : (burst == 0) = false := by rw [beq_eq_false_iff_ne]; omega
              go_wp2
              go_quiet (fail)
              go_wp2
              go_ret
              rw [HWHO.out]
              refine HFN.out _ (burst - 1, now) _ HA.out ?_ ?_
              · exact heap_left (y := (burst, now)) (heap_right (y := (burst, T)) (heap_left (w := wc.drewN nq) (y := (L, T)) HWR.out hsz burst) hsz now) hsz (burst - 1)
              · exact grownBy_trans (grownBy_trans (grownBy_trans (grownBy_drewN (World.grownBy.refl _ _) nq) (grownBy_setCell _ ⟨g, off + k * 3 + 1, none⟩ _)) (grownBy_setCell _ ⟨g, off + k * 3 + 2, none⟩ _)) (grownBy_setCell _ ⟨g, off + k * 3 + 1, none⟩ _)
            · have m2 : max T now = T := by omega
              have hask := HASK2.out
              dsimp only at hask
              rw [m1, m2, if_neg (by omega)] at hask
              have HA := Lib.hid hask
              clear hask m1 m2 HASK2
              have bz : (burst == 0) = false := by rw [beq_eq_false_iff_ne]; omega
              go_wp2
              go_quiet (fail)
              go_wp2
              go_ret
              rw [HWHO.out]
              refine HFN.out _ (burst - 1, T) _ HA.out ?_ ?_
              · exact heap_left (y := (burst, T)) (heap_left (w := wc.drewN nq) (y := (L, T)) HWR.out hsz burst) hsz (burst - 1)
              · exact grownBy_trans (grownBy_trans (grownBy_drewN (World.grownBy.refl _ _) nq) (grownBy_setCell _ ⟨g, off + k * 3 + 1, none⟩ _)) (grownBy_setCell _ ⟨g, off + k * 3 + 1, none⟩ _)
          · have b1 : decide (burst < L) = false := decide_eq_false q1
            have m1 : min L burst = L := by omega
            by_cases q3 : L = 0
            · have bz : (L == 0) = true := by rw [beq_iff_eq]; exact q3
              by_cases q2 : T < now
              · have m2 : max T now = now := by omega
                have hask := HASK2.out
                dsimp only at hask
                rw [m1, m2, if_pos q3] at hask
                have HA := Lib.hid hask
                clear hask m1 m2 HASK2 q3
                go_wp2
                go_quiet (fail)
                go_wp2
                go_ret
                rw [HWHO.out]
                refine HFN.out _ (L, now) _ HA.out ?_ ?_
                · exact heap_right (w := wc.drewN nq) (y := (L, T)) HWR.out hsz now
                · exact grownBy_trans (grownBy_drewN (World.grownBy.refl _ _) nq) (grownBy_setCell _ ⟨g, off + k * 3 + 2, none⟩ _)
              · have m2 : max T now = T := by omega
                have hask := HASK2.out
                dsimp only at hask
                rw [m1, m2, if_pos q3] at hask
                have HA := Lib.hid hask
                clear hask m1 m2 HASK2 q3
                go_wp2
                go_quiet (fail)
                go_wp2
                go_ret
                rw [HWHO.out]
                exact HFN.out _ (L, T) _ HA.out HWR.out (grownBy_drewN (World.grownBy.refl _ _) nq)
            · have bz : (L == 0) = false := by rw [beq_eq_false_iff_ne]; exact q3
              by_cases q2 : T < now
              · have m2 : max T now = now := by omega
                have hask := HASK2.out
                dsimp only at hask
                rw [m1, m2, if_neg q3] at hask
                have HA := Lib.hid hask
                clear hask m1 m2 HASK2 q3
                go_wp2
                go_quiet (fail)
                go_wp2
                go_ret
                rw [HWHO.out]
                refine HFN.out _ (L - 1, now) _ HA.out ?_ ?_
                · exact heap_left (y := (L, now)) (heap_right (w := wc.drewN nq) (y := (L, T)) HWR.out hsz now) hsz (L - 1)
                · exact grownBy_trans (grownBy_trans (grownBy_drewN (World.grownBy.refl _ _) nq) (grownBy_setCell _ ⟨g, off + k * 3 + 2, none⟩ _)) (grownBy_setCell _ ⟨g, off + k * 3 + 1, none⟩ _)
              · have m2 : max T now = T := by omega
                have hask := HASK2.out
                dsimp only at hask
                rw [m1, m2, if_neg q3] at hask
                have HA := Lib.hid hask
                clear hask m1 m2 HASK2 q3
                go_wp2
                go_quiet (fail)
                go_wp2
                go_ret
                rw [HWHO.out]
                refine HFN.out _ (L - 1, T) _ HA.out ?_ ?_
                · exact heap_left (w := wc.drewN nq) (y := (L, T)) HWR.out hsz (L - 1)
                · exact grownBy_trans (grownBy_drewN (World.grownBy.refl _ _) nq) (grownBy_setCell _ ⟨g, off + k * 3 + 1, none⟩ _)
end Go.Proofs.Ytnbdlaedbbcnjaa

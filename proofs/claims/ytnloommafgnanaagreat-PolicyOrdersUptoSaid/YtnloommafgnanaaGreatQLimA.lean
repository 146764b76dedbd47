/-
  The limiter's plain law: what one asking does to the list of those who were seen. No program in sight.
-/
import Derived.Test.YtnloommafgnanaaGreatChecked
import Derived.Test.YtnloommafgnanaaGreatQMem
import Derived.BigQuiet
import Derived.Deep.QuietTactic
import Derived.WalkSpells
namespace Go.Proofs.YtnloommafgnanaaGreat.lim

/-- One who asks: who, how many are left, and since when. -/
abbrev One := ByteArray × Int × Int

/-- What is left of one at a later time. -/
def refill (rate burst now : Int) (x : Int × Int) : Int × Int :=
  if x.2 < now then (if 0 < rate then min burst (x.1 + rate * min (now - x.2) burst) else x.1, now) else x

/-- The key of an address. -/
def keyOf (s : ByteArray) : ByteArray := if s.size = 16 then s.extract 0 7 else s.extract 0 3

/-- Where one stands, or the list's length. -/
def place (S : List One) (who : ByteArray) : Nat := S.findIdx (fun x => decide (x.1 = who))

/-- The list with one in it, and where. -/
def enter (burst now : Int) (S : List One) (who : ByteArray) : List One × Nat :=
  if place S who < S.length then (S, place S who)
  else if S.length < 1000 then (S ++ [(who, burst, now)], S.length)
  else ((S ++ [(who, burst, now)]).drop 1, S.length - 1)

/-- One asking. -/
def ask (rate burst now : Int) (S : List One) (who : ByteArray) : Bool × List One :=
  let (S1, k) := enter burst now S who
  match S1[k]? with
  | none => (false, S1)
  | some x =>
    let y := refill rate burst now x.2
    if y.1 = 0 then (false, S1.set k (x.1, y)) else (true, S1.set k (x.1, y.1 - 1, y.2))

def allow (rate burst now : Int) (S : List One) (frm : ByteArray) : Bool × List One :=
  if frm.size = 4 ∨ frm.size = 16 then ask rate burst now S (keyOf frm) else (false, S)

/-- What is always so. -/
structure Good (burst : Int) (S : List One) : Prop where
  len : S.length ≤ 1000
  left : ∀ x ∈ S, 0 ≤ x.2.1 ∧ x.2.1 ≤ burst
  time : ∀ x ∈ S, -9223372036854775808 ≤ x.2.2 ∧ x.2.2 ≤ 9223372036854775807
  keys : S.Pairwise (fun x y => x.1 ≠ y.1)
  size : ∀ x ∈ S, x.1.size ≤ 7

theorem refill_left {rate burst now : Int} {x : Int × Int} (hr : 0 ≤ rate) (hb : 1 ≤ burst) (h0 : 0 ≤ x.1) (h1 : x.1 ≤ burst) :
    0 ≤ (refill rate burst now x).1 ∧ (refill rate burst now x).1 ≤ burst := by
  unfold refill
  split
  · rename_i hlt
    dsimp only
    split
    · have hm : 0 ≤ min (now - x.2) burst := by omega
      have := Int.mul_nonneg hr hm
      omega
    · omega
  · exact ⟨h0, h1⟩
theorem refill_time {rate burst now : Int} {x : Int × Int} : (refill rate burst now x).2 = max x.2 now := by
  unfold refill
  split
  · dsimp only; omega
  · omega

theorem place_at {S : List One} {who : ByteArray} (h : place S who < S.length) : ∃ y, S[place S who]? = some (who, y) := by
  have := List.findIdx_getElem (w := h)
  have this := of_decide_eq_true this
  refine ⟨S[place S who].2, ?_⟩
  rw [List.getElem?_eq_getElem h]
  congr 1
  exact Prod.ext this rfl

theorem place_not {S : List One} {who : ByteArray} (h : ¬ place S who < S.length) : ∀ x ∈ S, x.1 ≠ who := by
  intro x hx he
  apply h
  exact List.findIdx_lt_length_of_exists ⟨x, hx, by simp [he]⟩

/-- One key, one place. -/
theorem place_only {S : List One} {who : ByteArray} {j : Nat} {y : Int × Int} {burst : Int} (hg : Good burst S) (h : S[j]? = some (who, y)) : place S who = j := by
  have hj : j < S.length := (List.getElem?_eq_some_iff.1 h).1
  have hlt : place S who < S.length := List.findIdx_lt_length_of_exists ⟨(who, y), List.mem_of_getElem? h, by simp⟩
  obtain ⟨y', hy'⟩ := place_at hlt
  rcases Nat.lt_trichotomy (place S who) j with hh | hh | hh
  · have := List.pairwise_iff_getElem.1 hg.keys _ _ hlt hj hh
    rw [List.getElem?_eq_getElem hlt] at hy'
    rw [List.getElem?_eq_getElem hj] at h
    rw [Option.some.inj hy', Option.some.inj h] at this
    exact absurd rfl this
  · exact hh
  · have := List.pairwise_iff_getElem.1 hg.keys _ _ hj hlt hh
    rw [List.getElem?_eq_getElem hlt] at hy'
    rw [List.getElem?_eq_getElem hj] at h
    rw [Option.some.inj hy', Option.some.inj h] at this
    exact absurd rfl this

theorem key_size {s : ByteArray} : (keyOf s).size ≤ 7 := by
  unfold keyOf
  split <;> simp <;> omega

theorem enter_good {burst now : Int} {S : List One} {who : ByteArray} (hb : 1 ≤ burst) (hn : -9223372036854775808 ≤ now ∧ now ≤ 9223372036854775807) (hs : who.size ≤ 7) (hg : Good burst S) :
    Good burst (enter burst now S who).1 ∧ ∃ y, (enter burst now S who).1[(enter burst now S who).2]? = some (who, y) := by
  unfold enter
  split
  · rename_i h
    exact ⟨hg, place_at h⟩
  · rename_i h
    have hnew := place_not h
    have hfull : (S ++ [(who, burst, now)]).Pairwise (fun x y => x.1 ≠ y.1) :=
      List.pairwise_append.2 ⟨hg.keys, List.pairwise_singleton _ _, fun x hx y hy => by
        rw [List.mem_singleton] at hy; subst hy; exact hnew x hx⟩
    have hleft : ∀ x ∈ S ++ [(who, burst, now)], 0 ≤ x.2.1 ∧ x.2.1 ≤ burst := fun x hx => by
      rcases List.mem_append.1 hx with hx | hx
      · exact hg.left x hx
      · rw [List.mem_singleton] at hx; subst hx; exact ⟨by dsimp only; omega, Int.le_refl _⟩
    have htime : ∀ x ∈ S ++ [(who, burst, now)], -9223372036854775808 ≤ x.2.2 ∧ x.2.2 ≤ 9223372036854775807 := fun x hx => by
      rcases List.mem_append.1 hx with hx | hx
      · exact hg.time x hx
      · rw [List.mem_singleton] at hx; subst hx; exact hn
    have hsize : ∀ x ∈ S ++ [(who, burst, now)], x.1.size ≤ 7 := fun x hx => by
      rcases List.mem_append.1 hx with hx | hx
      · exact hg.size x hx
      · rw [List.mem_singleton] at hx; subst hx; exact hs
    have hlen := hg.len
    split
    · rename_i hl
      exact ⟨⟨by simp; omega, hleft, htime, hfull, hsize⟩, (burst, now), by simp⟩
    · rename_i hl
      refine ⟨⟨by simp; omega, fun x hx => hleft x (List.mem_of_mem_drop hx), fun x hx => htime x (List.mem_of_mem_drop hx), hfull.drop, fun x hx => hsize x (List.mem_of_mem_drop hx)⟩, (burst, now), ?_⟩
      dsimp only
      rw [List.getElem?_drop, List.getElem?_append_right (by omega)]
      have : 1 + (S.length - 1) - S.length = 0 := by omega
      rw [this]; rfl

theorem set_good {burst : Int} {S : List One} {k : Nat} {who : ByteArray} {y z : Int × Int} (hg : Good burst S) (hk : S[k]? = some (who, y)) (h0 : 0 ≤ z.1) (h1 : z.1 ≤ burst)
    (ht : -9223372036854775808 ≤ z.2 ∧ z.2 ≤ 9223372036854775807) : Good burst (S.set k (who, z)) := by
  have hmem := List.mem_of_getElem? hk
  have hall : ∀ x ∈ S.set k (who, z), x ∈ S ∨ x = (who, z) := fun x hx => List.mem_or_eq_of_mem_set hx
  refine ⟨by simp; exact hg.len, fun x hx => ?_, fun x hx => ?_, ?_, fun x hx => ?_⟩
  · rcases hall x hx with h | rfl
    · exact hg.left x h
    · exact ⟨h0, h1⟩
  · rcases hall x hx with h | rfl
    · exact hg.time x h
    · exact ht
  · rw [List.pairwise_iff_getElem]
    intro i j hi hj hij
    have hkeys : (S.set k (who, z)).map (fun x : One => x.1) = S.map (fun x : One => x.1) := by
      rw [List.map_set]
      apply List.ext_getElem?
      intro m
      rw [List.getElem?_set]
      split
      · rename_i hm
        subst hm
        rw [List.getElem?_map, hk]
        split
        · rfl
        · rename_i hl
          exact absurd (by simpa using (List.getElem?_eq_some_iff.1 hk).1) hl
      · rfl
    have hp : ((S.set k (who, z)).map (fun x : One => x.1)).Pairwise (fun a b => a ≠ b) := by
      have h0 : (S.map (fun x : One => x.1)).Pairwise (fun a b => a ≠ b) := List.pairwise_map.2 hg.keys
      rw [← hkeys] at h0
      exact h0
    exact List.pairwise_iff_getElem.1 (List.pairwise_map.1 hp) i j hi hj hij
  · rcases hall x hx with h | rfl
    · exact hg.size x h
    · exact hg.size (who, y) hmem

theorem ask_good {rate burst now : Int} {S : List One} {who : ByteArray} (hr : 0 ≤ rate) (hb : 1 ≤ burst) (hn : -9223372036854775808 ≤ now ∧ now ≤ 9223372036854775807) (hs : who.size ≤ 7) (hg : Good burst S) :
    Good burst (ask rate burst now S who).2 := by
  obtain ⟨h1, y, h2⟩ := enter_good (now := now) hb hn hs hg
  unfold ask
  dsimp only
  rw [h2]
  dsimp only
  have hm := List.mem_of_getElem? h2
  have hl := h1.left _ hm
  have ht := h1.time _ hm
  have hlr := refill_left (now := now) (x := y) hr hb hl.1 hl.2
  have htr : (refill rate burst now y).2 = max y.2 now := refill_time
  dsimp only at hl ht
  split
  · exact set_good h1 h2 hlr.1 hlr.2 (by omega)
  · exact set_good h1 h2 (by dsimp only; omega) (by dsimp only; omega) (by dsimp only; omega)

theorem ask_at {rate burst now : Int} {S : List One} {who w' : ByteArray} {x : Int × Int} (h : (enter burst now S who).1[(enter burst now S who).2]? = some (w', x)) :
    ask rate burst now S who = if (refill rate burst now x).1 = 0 then (false, (enter burst now S who).1.set (enter burst now S who).2 (w', refill rate burst now x))
      else (true, (enter burst now S who).1.set (enter burst now S who).2 (w', (refill rate burst now x).1 - 1, (refill rate burst now x).2)) := by
  unfold ask
  dsimp only
  rw [h]

theorem allow_good {rate burst now : Int} {S : List One} {frm : ByteArray} (hr : 0 ≤ rate) (hb : 1 ≤ burst) (hn : -9223372036854775808 ≤ now ∧ now ≤ 9223372036854775807) (hg : Good burst S) :
    Good burst (allow rate burst now S frm).2 := by
  unfold allow
  split
  · exact ask_good hr hb hn key_size hg
  · exact hg

theorem good_nil (burst : Int) : Good burst [] := ⟨by simp, by simp, by simp, List.Pairwise.nil, by simp⟩
end Go.Proofs.YtnloommafgnanaaGreat.lim

/-
  policy.address, policy.NewLimiter: what they answer; what a limiter is in memory.
-/
namespace Go.Proofs.YtnloommafgnanaaGreat
open Go.RowKit

/-- An address has four bytes or sixteen. -/
def addrB (s : ByteArray) : Bool := s.size == 4 || s.size == 16

theorem address_any (s : ByteArray) (w : World) : Calls Tryz.prog 37 #[.string s] w fun e w' => e = .returned (.bool (addrB s)) ∧ w = w' := by
  by_cases h4 : s.size = 4
  · have e1 : addrB s = true := by simp [addrB, h4]
    have E1 := Lib.hid e1; clear e1
    go_enter Tryz.func37, Tryz.ntmps37
    go_wp2
    go_ret
    exact ⟨by rw [E1.out]; rfl, rfl⟩
  · by_cases h16 : s.size = 16
    · have e1 : addrB s = true := by simp [addrB, h16]
      have E1 := Lib.hid e1; clear e1
      go_enter Tryz.func37, Tryz.ntmps37
      go_wp2
      go_ret
      exact ⟨by rw [E1.out]; rfl, rfl⟩
    · have e1 : addrB s = false := by simp [addrB, h4, h16]
      have E1 := Lib.hid e1; clear e1
      have b4 : ((s.size : Int) == 4) = false := by rw [beq_eq_false_iff_ne]; omega
      have b16 : ((s.size : Int) == 16) = false := by rw [beq_eq_false_iff_ne]; omega
      go_enter Tryz.func37, Tryz.ntmps37
      go_wp2
      go_ret
      exact ⟨by rw [E1.out]; rfl, rfl⟩

/-! ### What a limiter is in memory -/

/-- The blocks of the program's limiter: itself, those who were seen, texts, the map. -/
def LimT : Obj → Prop
  | .cells _ t _ => t = 61 ∨ t = 65 ∨ t = 9
  | .map _ _ => True
  | _ => False

/-- One who was seen, and its block. -/
abbrev Zone1 := lim.One × Nat
def limKeyV (z : Zone1) : Value := .string z.1.1
def entV (z : Zone1) : Value × Value := (.string z.1.1, .pointer (some ⟨z.2, 0, none⟩))
def cellsV (x : Int × Int) : Array Value := #[.int .i64 x.1, .int .i64 x.2]

structure Lim (w : World) (B lp : Nat) (rate burst : Int) (Z : List Zone1) (mb : Nat) (ov : Value) : Prop where
  lim : w.heap[lp]? = some (.cells #[.int .i64 rate, .int .i64 burst, .map (some mb), ov] 61 (0, 0))
  hB : B ≤ lp
  hM : B ≤ mb
  map : MapAt w mb (Z.map entV)
  row : RowAt w B 9 1 ov Z.length (Z.map limKeyV)
  seen : ∀ z ∈ Z, B ≤ z.2 ∧ w.heap[z.2]? = some (.cells (cellsV z.1.2) 65 (0, 0))
  nodup : (Z.map (·.2)).Nodup

/-- A limiter that keeps S. -/
def LimInv (w : World) (B lp : Nat) (rate burst : Int) (S : List lim.One) : Prop :=
  ∃ Z mb ov, Z.map (·.1) = S ∧ Lim w B lp rate burst Z mb ov

theorem Lim.fr {w w' : World} {B lp B' : Nat} {rate burst : Int} {Z : List Zone1} {mb : Nat} {ov : Value} {T : Obj → Prop} (h : Lim w B lp rate burst Z mb ov) (hf : Fr B' T w w') (hT : ∀ o, LimT o → ¬ T o) : Lim w' B lp rate burst Z mb ov :=
  ⟨hf.kept _ _ h.lim (hT _ (.inl rfl)), h.hB, h.hM, h.map.keep fun o ho => by
      obtain ⟨es, c, h1, _⟩ := h.map
      rw [h1] at ho; cases ho
      exact hf.kept _ _ h1 (hT _ trivial),
    h.row.fr hf fun _ => hT _ (.inr (.inr rfl)), fun z hz => ⟨(h.seen z hz).1, hf.kept _ _ (h.seen z hz).2 (hT _ (.inr (.inl rfl)))⟩, h.nodup⟩
theorem LimInv.fr {w w' : World} {B lp B' : Nat} {rate burst : Int} {S : List lim.One} {T : Obj → Prop} (h : LimInv w B lp rate burst S) (hf : Fr B' T w w') (hT : ∀ o, LimT o → ¬ T o) : LimInv w' B lp rate burst S := by
  obtain ⟨Z, mb, ov, hS, hL⟩ := h
  exact ⟨Z, mb, ov, hS, hL.fr hf hT⟩

theorem lim_law : WideMaps.KeyLaw Tryz.prog 9 := WideMaps.string_law Tryz.underlying9
theorem lim_zero (w : World) : (zeroValue 63).run Tryz.prog w = .ok (.pointer none) w := by kernel_rfl
theorem lim_key {s : ByteArray} (h : s.size ≤ 7) : keyOf Tryz.prog 9 (.string s) = some (.string s.data.toList) := by
  simp [keyOf, mapKey, Tryz.underlying9]
  unfold maxLen
  omega

section
variable {w : World} {B lp : Nat} {rate burst : Int} {Z : List Zone1} {mb : Nat} {ov : Value}
theorem Lim.keys (hg : lim.Good burst (Z.map (·.1))) : KeysOk Tryz.prog 9 (Z.map entV) := by
  intro x hx
  obtain ⟨z, hz, rfl⟩ := List.mem_map.1 hx
  exact ⟨_, lim_key (hg.size z.1 (List.mem_map_of_mem hz))⟩

/-- Who is there is found. -/
theorem Lim.look_there (h : Lim w B lp rate burst Z mb ov) (hg : lim.Good burst (Z.map (·.1))) {who : ByteArray} (hp : lim.place (Z.map (·.1)) who < (Z.map (·.1)).length) (hs : who.size ≤ 7) :
    ∃ z, Z[lim.place (Z.map (·.1)) who]? = some z ∧ z.1.1 = who ∧ (Instr.lookup 59 (.map (some mb)) (.string who) false).run Tryz.prog w = .ok (.pointer (some ⟨z.2, 0, none⟩)) w := by
  obtain ⟨y, hy⟩ := lim.place_at hp
  have hpl := lim.place_only hg hy
  rw [List.getElem?_map] at hy
  obtain ⟨z, hz, he⟩ := Option.map_eq_some_iff.1 hy
  rcases map_lookup lim_law Tryz.underlying59 lim_zero h.map (Lim.keys hg) (lim_key hs) false with ⟨hn, _⟩ | ⟨j, v, hj, hr⟩
  · exact absurd (by unfold entV; rw [he]) (hn (entV z) (List.mem_map_of_mem (List.mem_of_getElem? hz)))
  · rw [List.getElem?_map] at hj
    obtain ⟨z', hz', he'⟩ := Option.map_eq_some_iff.1 hj
    simp only [entV, Prod.mk.injEq, Value.string.injEq] at he'
    have hj2 : (Z.map (·.1))[j]? = some (who, z'.1.2) := by rw [List.getElem?_map, hz', ← he'.1]; rfl
    have := lim.place_only hg hj2
    rw [this] at hz
    rw [hz] at hz'
    cases hz'
    refine ⟨z, by rw [this]; exact hz, he'.1, ?_⟩
    rw [hr, ← he'.2]; rfl

/-- Who is not there is not found; where he is laid. -/
theorem Lim.look_new (h : Lim w B lp rate burst Z mb ov) (hg : lim.Good burst (Z.map (·.1))) {who : ByteArray} (hp : ¬ lim.place (Z.map (·.1)) who < (Z.map (·.1)).length) (hs : who.size ≤ 7) :
    (Instr.lookup 59 (.map (some mb)) (.string who) false).run Tryz.prog w = .ok (.pointer none) w := by
  rcases map_lookup lim_law Tryz.underlying59 lim_zero h.map (Lim.keys hg) (lim_key hs) false with ⟨_, hr⟩ | ⟨j, v, hj, hr⟩
  · exact hr
  · rw [List.getElem?_map] at hj
    obtain ⟨z', hz', he'⟩ := Option.map_eq_some_iff.1 hj
    simp only [entV, Prod.mk.injEq, Value.string.injEq] at he'
    exact absurd he'.1 (lim.place_not hp z'.1 (List.mem_map_of_mem (List.mem_of_getElem? hz')))

theorem Lim.update_new {w1 : World} (h : MapAt w1 mb (Z.map entV)) (hg : lim.Good burst (Z.map (·.1))) {who : ByteArray} (hp : ¬ lim.place (Z.map (·.1)) who < (Z.map (·.1)).length) (hs : who.size ≤ 7) (v : Value) :
    ∃ es c, (Instr.mapUpdate 59 (.map (some mb)) (.string who) v).run Tryz.prog w1 = .ok () (putMap w1 mb es c) ∧ MapAt (putMap w1 mb es c) mb (Z.map entV ++ [(.string who, v)]) := by
  rcases map_update lim_law Tryz.underlying59 h (Lim.keys hg) (val := v) (lim_key hs) with ⟨_, hr⟩ | ⟨j, v, hj, _⟩
  · exact hr
  · rw [List.getElem?_map] at hj
    obtain ⟨z', hz', he'⟩ := Option.map_eq_some_iff.1 hj
    simp only [entV, Prod.mk.injEq, Value.string.injEq] at he'
    exact absurd he'.1 (lim.place_not hp z'.1 (List.mem_map_of_mem (List.mem_of_getElem? hz')))

/-- The eldest is struck. -/
theorem Lim.delete_first {w1 : World} {z : Zone1} (h : MapAt w1 mb ((z :: Z).map entV)) (hk : ∀ x ∈ z :: Z, x.1.1.size ≤ 7) (hn : ∀ x ∈ Z, x.1.1 ≠ z.1.1) :
    ∃ es c, (∀ ty, (Builtin.delete_ #[59, 9] ty #[.map (some mb), .string z.1.1]).run Tryz.prog w1 = .ok (.tuple #[]) (putMap w1 mb es c)) ∧ MapAt (putMap w1 mb es c) mb (Z.map entV) := by
  have hk1 : KeysOk Tryz.prog 9 ((z :: Z).map entV) := by
    intro x hx
    obtain ⟨z, hz, rfl⟩ := List.mem_map.1 hx
    exact ⟨_, lim_key (hk z hz)⟩
  rcases map_delete lim_law Tryz.underlying59 h hk1 (lim_key (hk z (by simp))) with ⟨hn2, _⟩ | ⟨j, v, hj, hr⟩
  · exact absurd rfl (hn2 (entV z) (by simp))
  · have hj0 : j = 0 := by
      rcases Nat.eq_zero_or_pos j with h0 | h0
      · exact h0
      · obtain ⟨i, rfl⟩ : ∃ i, j = i + 1 := ⟨j - 1, by omega⟩
        rw [List.map_cons, List.getElem?_cons_succ, List.getElem?_map] at hj
        obtain ⟨z', hz', he'⟩ := Option.map_eq_some_iff.1 hj
        simp only [entV, Prod.mk.injEq, Value.string.injEq] at he'
        exact absurd he'.1 (hn z' (List.mem_of_getElem? hz'))
    subst hj0
    exact hr
end

/-- NewLimiter of what it takes. -/
theorem newLimiter_good (rate burst : Int) (w : World) (hr0 : 0 ≤ rate) (hr1 : rate ≤ 1000) (hb0 : 1 ≤ burst) (hb1 : burst ≤ 1000) :
    Calls Tryz.prog 14 #[.int .i64 rate, .int .i64 burst] w fun e w' =>
      ∃ lp, e = .returned (.tuple #[.pointer (some ⟨lp, 0, none⟩), .int .i64 0]) ∧ LimInv w' w.heap.size lp rate burst [] ∧ Fr w.heap.size LimT w w' := by
  have hmm := @run_makeMap Tryz.prog
  go_enter Tryz.func14, Tryz.ntmps14
  go_wp2
  go_ret2
  refine ⟨_, rfl, ⟨[], w.heap.size, .slice none 0 0, rfl, ⟨heap_new_at (by simp), by simp, by simp, ⟨#[], 0, ?_, rfl⟩, RowAt.nil_ _ _ _ _, by simp, List.nodup_nil⟩⟩, ?_⟩
  · exact heap_alloc_keep (heap_alloc_new _ _) _
  · exact ((Fr.refl _ _ _).alloc (Nat.le_refl _) _).alloc (by simp) _

end Go.Proofs.YtnloommafgnanaaGreat

/-
  policy.Choose and the document's Inside and Choose.
-/
import Derived.Test.YtnbdlaedbbcnjaaLimL
namespace Go.Proofs.Ytnbdlaedbbcnjaa
open Go.RowKit

abbrev Net := ByteArray × Int

/-- Nets in memory, below block B. -/
def NetsAt (w : World) (B : Nat) (A : Option Addr) (nets : List Net) : Prop :=
  ∀ (j : Nat) (p : Net), nets[j]? = some p → ∃ b off, A = some ⟨b, off, none⟩ ∧ b < B ∧ w.cell? ⟨b, off + j * 2, none⟩ = some (.string p.1) ∧ w.cell? ⟨b, off + j * 2 + 1, none⟩ = some (.int .i64 p.2)
/-- Views in memory, below block B. -/
def ViewsAt (w : World) (B : Nat) (A : Option Addr) (vs : List (List Net)) : Prop :=
  ∀ (k : Nat) (nets : List Net), vs[k]? = some nets → ∃ b off nm A' c', A = some ⟨b, off, none⟩ ∧ b < B ∧ w.cell? ⟨b, off + k * 2, none⟩ = some (.string nm) ∧
    w.cell? ⟨b, off + k * 2 + 1, none⟩ = some (.slice A' nets.length c') ∧ nets.length ≤ 9223372036854775807 ∧ NetsAt w B A' nets

theorem NetsAt.below {w w' : World} {B B' : Nat} {A : Option Addr} {nets : List Net} (h : NetsAt w B A nets) (hb : Below B' w w') (hB : B ≤ B') : NetsAt w' B A nets := fun j p hp => by
  obtain ⟨b, off, rfl, hlt, c0, c1⟩ := h j p hp
  exact ⟨b, off, rfl, hlt, (hb.cell (p := ⟨b, _, none⟩) (Nat.lt_of_lt_of_le hlt hB)).trans c0, (hb.cell (p := ⟨b, _, none⟩) (Nat.lt_of_lt_of_le hlt hB)).trans c1⟩
theorem NetsAt.more {w : World} {B B' : Nat} {A : Option Addr} {nets : List Net} (h : NetsAt w B A nets) (hB : B ≤ B') : NetsAt w B' A nets := fun j p hp => by
  obtain ⟨b, off, rfl, hlt, c0, c1⟩ := h j p hp
  exact ⟨b, off, rfl, by omega, c0, c1⟩
theorem ViewsAt.below {w w' : World} {B B' : Nat} {A : Option Addr} {vs : List (List Net)} (h : ViewsAt w B A vs) (hb : Below B' w w') (hB : B ≤ B') : ViewsAt w' B A vs := fun k p hp => by
  obtain ⟨b, off, nm, A', c', rfl, hlt, c0, c1, hl, hn⟩ := h k p hp
  exact ⟨b, off, nm, A', c', rfl, hlt, (hb.cell (p := ⟨b, _, none⟩) (Nat.lt_of_lt_of_le hlt hB)).trans c0, (hb.cell (p := ⟨b, _, none⟩) (Nat.lt_of_lt_of_le hlt hB)).trans c1, hl, hn.below hb hB⟩
theorem ViewsAt.more {w : World} {B B' : Nat} {A : Option Addr} {vs : List (List Net)} (h : ViewsAt w B A vs) (hB : B ≤ B') : ViewsAt w B' A vs := fun k p hp => by
  obtain ⟨b, off, nm, A', c', rfl, hlt, c0, c1, hl, hn⟩ := h k p hp
  exact ⟨b, off, nm, A', c', rfl, by omega, c0, c1, hl, hn.more hB⟩

/-- The first place at which p holds, or -1. -/
def findI {α : Type} (p : α → Bool) (l : List α) : Int := if l.findIdx p < l.length then (l.findIdx p : Int) else -1
theorem findI_hit {α : Type} {p : α → Bool} {l : List α} {k : Nat} {x : α} (hk : k ≤ l.findIdx p) (hx : l[k]? = some x) (hp : p x = true) : findI p l = k := by
  have hl := (List.getElem?_eq_some_iff.1 hx).1
  have : l.findIdx p = k := by
    rcases Nat.lt_or_ge k (l.findIdx p) with h | h
    · have := List.not_of_lt_findIdx h
      rw [List.getElem?_eq_getElem hl] at hx
      rw [Option.some.inj hx, hp] at this
      cases this
    · omega
  unfold findI
  rw [this, if_pos hl]
theorem findI_miss {α : Type} {p : α → Bool} {l : List α} {k : Nat} {x : α} (hk : k ≤ l.findIdx p) (hx : l[k]? = some x) (hp : p x = false) : k + 1 ≤ l.findIdx p := by
  rcases Nat.lt_or_ge k (l.findIdx p) with h | h
  · exact h
  · have : l.findIdx p = k := by omega
    have hl := (List.getElem?_eq_some_iff.1 hx).1
    have h2 := List.findIdx_getElem (p := p) (xs := l) (w := by omega)
    rw [List.getElem?_eq_getElem hl] at hx
    simp only [this, Option.some.inj hx, hp] at h2
    cases h2
theorem findI_none {α : Type} {p : α → Bool} {l : List α} (hk : l.length ≤ l.findIdx p) : findI p l = -1 := by
  unfold findI
  rw [if_neg (by omega)]
theorem findI_any {α : Type} {p : α → Bool} {l : List α} : decide (0 ≤ findI p l) = l.any p := by
  unfold findI
  by_cases h : l.findIdx p < l.length
  · rw [if_pos h]
    have h2 := List.findIdx_getElem (p := p) (xs := l) (w := h)
    have : l.any p = true := List.any_eq_true.2 ⟨_, List.getElem_mem h, h2⟩
    rw [this]
    simp
  · rw [if_neg h]
    have : l.any p = false := by
      cases ha : l.any p
      · rfl
      · obtain ⟨x, hx, hp⟩ := List.any_eq_true.1 ha
        exact absurd (List.findIdx_lt_length_of_exists ⟨x, hx, hp⟩) h
    rw [this]
    simp

def netB (a : ByteArray) (p : Net) : Bool := insideB p.1 p.2 a
def viewB (a : ByteArray) (nets : List Net) : Bool := nets.any (netB a)

/-- The innermost closure. -/
theorem choose2 (net a : ByteArray) (nb : Int) (cb : Nat) (w : World) (hc : w.cell? ⟨cb, 0, none⟩ = some (.string a)) :
    Calls Try.prog 20 #[.agg #[.string net, .int .i64 nb], .pointer (some ⟨cb, 0, none⟩)] w fun e w' => e = .returned (.bool (insideB net nb a)) ∧ Below w.heap.size w w' := by
  have hlt : cb < w.heap.size := World.block_lt_of_cell? _ _ hc
  have hc2 : (w.alloc (.cells #[.string net, .int .i64 nb] 39)).cell? ⟨cb, 0, none⟩ = some (.string a) := by
    rw [World.cell?_alloc_lt w _ ⟨cb, 0, none⟩ hlt]; exact hc
  have hbel : Below w.heap.size w (w.alloc (.cells #[.string net, .int .i64 nb] 39)) := (Below.refl _ _).alloc (Nat.le_refl _) _
  have HB := Lib.hid hbel
  clear hbel
  go_enter Try.func20, Try.ntmps20
  go_wp2_with (first | (go_at_call 10; refine (inside_any _ _ _ _).mono ?_; rintro e w2 ⟨rfl, hf2⟩))
  go_ret
  exact ⟨rfl, HB.out.trans (hf2.below.mono (by simp))⟩

set_option maxHeartbeats 400000 in
/-- slices.IndexFunc over nets. -/
theorem index_nets (a : ByteArray) (cb c : Nat) (A : Option Addr) (nets : List Net) (w : World) (hc : w.cell? ⟨cb, 0, none⟩ = some (.string a)) (hn : nets.length ≤ 9223372036854775807) (hat : NetsAt w w.heap.size A nets) :
    Calls Try.prog 21 #[.slice A nets.length c, .func (.func 20) #[] #[.pointer (some ⟨cb, 0, none⟩)]] w fun e w' =>
      e = .returned (.int .i64 (findI (netB a) nets)) ∧ Below w.heap.size w w' := by
  have hlt : cb < w.heap.size := World.block_lt_of_cell? _ _ hc
  have HC := Lib.hid hc; have HAT := Lib.hid hat
  clear hc hat
  go_enter Try.func21, Try.ntmps21
  go_wp2
  go_loopw [8, 5] (fun i _ wr => ∃ k : Nat, k ≤ nets.length ∧ k ≤ nets.findIdx (netB a) ∧ i = .int .i64 k ∧ Below w.heap.size w wr) (fun i _ _ => nets.length - (intOf i).toNat)
  case atStart => exact ⟨0, Nat.zero_le _, Nat.zero_le _, rfl, Below.refl _ _⟩
  case round =>
    obtain ⟨k, hk, hkf, rfl, hB⟩ := hrel
    have HK := Lib.hid hkf
    clear hkf
    by_cases hl : k < nets.length
    · obtain ⟨⟨net, nb⟩, hx⟩ : ∃ x, nets[k]? = some x := ⟨_, List.getElem?_eq_getElem hl⟩
      obtain ⟨b, off, rfl, hb, g1, g2⟩ := HAT.out k _ hx
      have g1 := (hB.cell (p := ⟨b, off + k * 2, none⟩) hb).trans g1
      have g2 := (hB.cell (p := ⟨b, off + k * 2 + 1, none⟩) hb).trans g2
      dsimp only at g1 g2
      have hcr := (hB.cell (p := ⟨cb, 0, none⟩) hlt).trans HC.out
      have HX := Lib.hid hx; have HB := Lib.hid hB; have HCR := Lib.hid hcr
      clear hx hB hcr
      cases hp : insideB net nb a
      · have HP := Lib.hid hp
        clear hp
        go_wp2_with (first | (go_at_call 20; refine (choose2 net a nb cb _ HCR.out).mono ?_; rintro e w2 ⟨rfl, hf2⟩; rw [HP.out]))
        go_roundw
        case rel => exact ⟨k + 1, by omega, findI_miss HK.out HX.out HP.out, by go_num, HB.out.trans (hf2.mono HB.out.size)⟩
        case measure => simp [intOf]; omega
      · have HP := Lib.hid hp
        clear hp
        go_wp2_with (first | (go_at_call 20; refine (choose2 net a nb cb _ HCR.out).mono ?_; rintro e w2 ⟨rfl, hf2⟩; rw [HP.out]))
        go_ret
        exact ⟨by rw [findI_hit HK.out HX.out HP.out]; rfl, HB.out.trans (hf2.mono HB.out.size)⟩
    · have HB := Lib.hid hB
      clear hB
      go_wp2
      go_ret
      exact ⟨by rw [findI_none (by have := HK.out; omega)]; rfl, HB.out⟩

theorem contains_nets (a : ByteArray) (cb c : Nat) (A : Option Addr) (nets : List Net) (w : World) (hc : w.cell? ⟨cb, 0, none⟩ = some (.string a)) (hn : nets.length ≤ 9223372036854775807) (hat : NetsAt w w.heap.size A nets) :
    Calls Try.prog 19 #[.slice A nets.length c, .func (.func 20) #[] #[.pointer (some ⟨cb, 0, none⟩)]] w fun e w' =>
      e = .returned (.bool (viewB a nets)) ∧ Below w.heap.size w w' := by
  have HC := Lib.hid hc; have HAT := Lib.hid hat
  clear hc hat
  go_enter Try.func19, Try.ntmps19
  go_wp2_with (first | (go_at_call 21; refine (index_nets a cb c A nets w HC.out hn HAT.out).mono ?_; rintro e w2 ⟨rfl, hf2⟩))
  go_ret
  exact ⟨by rw [viewB, ← findI_any]; rfl, hf2⟩

/-- The closure over a view. -/
theorem choose1 (nm a : ByteArray) (cb c : Nat) (A : Option Addr) (nets : List Net) (w : World) (hc : w.cell? ⟨cb, 0, none⟩ = some (.string a)) (hn : nets.length ≤ 9223372036854775807) (hat : NetsAt w w.heap.size A nets) :
    Calls Try.prog 18 #[.agg #[.string nm, .slice A nets.length c], .pointer (some ⟨cb, 0, none⟩)] w fun e w' => e = .returned (.bool (viewB a nets)) ∧ Below w.heap.size w w' := by
  have hlt : cb < w.heap.size := World.block_lt_of_cell? _ _ hc
  have hbel : Below w.heap.size w (w.alloc (.cells #[.string nm, .slice A nets.length c] 60)) := (Below.refl _ _).alloc (Nat.le_refl _) _
  have hc2 : (w.alloc (.cells #[.string nm, .slice A nets.length c] 60)).cell? ⟨cb, 0, none⟩ = some (.string a) := by
    rw [World.cell?_alloc_lt w _ ⟨cb, 0, none⟩ hlt]; exact hc
  have hat2 := (hat.below hbel (Nat.le_refl _)).more (B' := (w.alloc (.cells #[.string nm, .slice A nets.length c] 60)).heap.size) (by simp)
  have HB := Lib.hid hbel; have HC := Lib.hid hc2; have HAT := Lib.hid hat2
  clear hbel hc hc2 hat hat2
  go_enter Try.func18, Try.ntmps18
  go_wp2_with (first | (go_at_call 19; refine (contains_nets a cb c A nets _ HC.out hn HAT.out).mono ?_; rintro e w2 ⟨rfl, hf2⟩))
  go_ret
  exact ⟨rfl, HB.out.trans (hf2.mono (by simp))⟩

set_option maxHeartbeats 400000 in
/-- slices.IndexFunc over views. -/
theorem index_views (a : ByteArray) (cb c : Nat) (A : Option Addr) (vs : List (List Net)) (w : World) (hc : w.cell? ⟨cb, 0, none⟩ = some (.string a)) (hn : vs.length ≤ 9223372036854775807) (hat : ViewsAt w w.heap.size A vs) :
    Calls Try.prog 17 #[.slice A vs.length c, .func (.func 18) #[] #[.pointer (some ⟨cb, 0, none⟩)]] w fun e w' =>
      e = .returned (.int .i64 (findI (viewB a) vs)) ∧ Below w.heap.size w w' := by
  have hlt : cb < w.heap.size := World.block_lt_of_cell? _ _ hc
  have HC := Lib.hid hc; have HAT := Lib.hid hat
  clear hc hat
  go_enter Try.func17, Try.ntmps17
  go_wp2
  go_loopw [8, 5] (fun i _ wr => ∃ k : Nat, k ≤ vs.length ∧ k ≤ vs.findIdx (viewB a) ∧ i = .int .i64 k ∧ Below w.heap.size w wr) (fun i _ _ => vs.length - (intOf i).toNat)
  case atStart => exact ⟨0, Nat.zero_le _, Nat.zero_le _, rfl, Below.refl _ _⟩
  case round =>
    obtain ⟨k, hk, hkf, rfl, hB⟩ := hrel
    have HK := Lib.hid hkf
    clear hkf
    by_cases hl : k < vs.length
    · obtain ⟨nets, hx⟩ : ∃ x, vs[k]? = some x := ⟨_, List.getElem?_eq_getElem hl⟩
      obtain ⟨b, off, nm, A', c', rfl, hb, g1, g2, hnl, hnets⟩ := HAT.out k _ hx
      have g1 := (hB.cell (p := ⟨b, off + k * 2, none⟩) hb).trans g1
      have g2 := (hB.cell (p := ⟨b, off + k * 2 + 1, none⟩) hb).trans g2
      have hcr := (hB.cell (p := ⟨cb, 0, none⟩) hlt).trans HC.out
      have hnr := (hnets.below hB (Nat.le_refl _)).more hB.size
      have HX := Lib.hid hx; have HB := Lib.hid hB; have HCR := Lib.hid hcr; have HN := Lib.hid hnr; have HNL := Lib.hid hnl
      clear hx hB hcr hnr hnets hnl
      cases hp : viewB a nets
      · have HP := Lib.hid hp
        clear hp
        go_wp2_with (first | (go_at_call 18; refine (choose1 nm a cb c' A' nets _ HCR.out HNL.out HN.out).mono ?_; rintro e w2 ⟨rfl, hf2⟩; rw [HP.out]))
        go_roundw
        case rel => exact ⟨k + 1, by omega, findI_miss HK.out HX.out HP.out, by go_num, HB.out.trans (hf2.mono HB.out.size)⟩
        case measure => simp [intOf]; omega
      · have HP := Lib.hid hp
        clear hp
        go_wp2_with (first | (go_at_call 18; refine (choose1 nm a cb c' A' nets _ HCR.out HNL.out HN.out).mono ?_; rintro e w2 ⟨rfl, hf2⟩; rw [HP.out]))
        go_ret
        exact ⟨by rw [findI_hit HK.out HX.out HP.out]; rfl, HB.out.trans (hf2.mono HB.out.size)⟩
    · have HB := Lib.hid hB
      clear hB
      go_wp2
      go_ret
      exact ⟨by rw [findI_none (by have := HK.out; omega)]; rfl, HB.out⟩

/-- policy.Choose. -/
theorem choose_any (a : ByteArray) (c : Nat) (A : Option Addr) (vs : List (List Net)) (w : World) (hn : vs.length ≤ 9223372036854775807) (hat : ViewsAt w w.heap.size A vs) :
    Calls Try.prog 12 #[.slice A vs.length c, .string a] w fun e w' => e = .returned (.int .i64 (findI (viewB a) vs)) ∧ Below w.heap.size w w' := by
  have hbel : Below w.heap.size w (w.alloc (.cells #[.string a] 9)) := (Below.refl _ _).alloc (Nat.le_refl _) _
  have hc2 : (w.alloc (.cells #[.string a] 9)).cell? ⟨w.heap.size, 0, none⟩ = some (.string a) := by
    rw [heap_cell (heap_new_at rfl)]; rfl
  have hat2 := (hat.below hbel (Nat.le_refl _)).more (B' := (w.alloc (.cells #[.string a] 9)).heap.size) (by simp)
  have HB := Lib.hid hbel; have HC := Lib.hid hc2; have HAT := Lib.hid hat2
  clear hbel hc2 hat hat2
  go_enter Try.func12, Try.ntmps12
  go_wp2_with (first | (go_at_call 17; refine (index_views a w.heap.size c A vs _ HC.out hn HAT.out).mono ?_; rintro e w2 ⟨rfl, hf2⟩))
  go_ret
  exact ⟨rfl, HB.out.trans (hf2.mono (by simp))⟩

/-- The document's bit. -/
theorem rbit_any (s : ByteArray) (k : Nat) (w : World) (hk : k < 8 * s.size) (hs : s.size ≤ 16) :
    Calls Try.prog 16 #[.string s, .int .i64 k] w fun e w' => e = .returned (.int .i64 (bitOf s k)) ∧ w = w' := by
  have hi : (k : Int) / 8 < s.size := by omega
  have hi0 : (0 : Int) ≤ (k : Int) / 8 := by omega
  have hi2 : k / 8 < s.size := by omega
  obtain ⟨y, hy⟩ : ∃ y : Nat, y = s[k / 8].toNat := ⟨_, rfl⟩
  have hy2 : y < 256 := by rw [hy]; exact UInt8.toNat_lt _
  have hbit : bitOf s k = y / 2 ^ (7 - k % 8) % 2 := by
    unfold bitOf
    rw [hy, byte_at hi2]
  obtain ⟨m, hm⟩ : ∃ m, m = k % 8 := ⟨_, rfl⟩
  have hm7 : m ≤ 7 := by omega
  have hkm : (k : Int) % 8 = m := by omega
  have HB := Lib.hid hbit; have HM := Lib.hid hm; have HY := Lib.hid hy; have HKM := Lib.hid hkm
  clear hbit hm hy hkm
  go_enter Try.func16, Try.ntmps16
  go_wp2
  rw [← HY.out, HKM.out]
  go_loop [6, 5] (fun j v => ∃ i : Nat, m + i ≤ 7 ∧ j = .int .i64 ((m + i : Nat) : Int) ∧ v = .int .i64 ((y / 2 ^ i : Nat) : Int)) (fun j _ => 7 - (intOf j).toNat)
  case atStart => exact ⟨0, by omega, rfl, by rw [IntWalk.wrap64_in _ ⟨by omega, by omega⟩]; simp⟩
  case round =>
    obtain ⟨i, hi, rfl, rfl⟩ := hrel
    have hd : y / 2 ^ i / 2 = y / 2 ^ (i + 1) := by rw [Nat.div_div_eq_div_mul, Nat.pow_succ]
    have hle : y / 2 ^ i ≤ y := Nat.div_le_self _ _
    have HD := Lib.hid hd
    clear hd
    generalize hv : y / 2 ^ i = v at *
    have HV := Lib.hid hv
    clear hv
    by_cases hlt : m + i < 7
    · go_wp2
      go_round
      case rel => exact ⟨i + 1, by omega, by go_num, by rw [← HD.out]; simp⟩
      case measure => simp [intOf]; omega
    · go_wp2
      go_ret
      refine ⟨?_, rfl⟩
      have e1 : 7 - k % 8 = i := by have := HM.out; omega
      rw [HB.out, e1, HV.out]
      simp

set_option maxHeartbeats 1000000 in
theorem rinside_loop (net a : ByteArray) (nb : Int) (w : World) (h1 : addrB net = true) (h2 : a.size = net.size) (h3 : 0 ≤ nb) (h4 : nb ≤ 8 * a.size) :
    Calls Try.prog 11 #[.agg #[.string net, .int .i64 nb], .string a] w fun e w' => e = .returned (.bool (insideB net nb a)) ∧ Fr w.heap.size (fun _ => False) w w' := by
  have hsz : net.size = 4 ∨ net.size = 16 := by simpa [addrB] using h1
  have h1a : addrB a = true := by simp [addrB]; omega
  have h5 : nb ≤ 128 := by omega
  have b1 : ((a.size : Int) != net.size) = false := by rw [bne_eq_false_iff_eq]; omega
  have h6 : (a.size : Int) ≤ 16 := by omega
  have h7 : (net.size : Int) ≤ 16 := by omega
  have h8 : nb ≤ 8 * net.size := by omega
  have H2 := Lib.hid h2
  have HSZ := Lib.hid hsz
  clear h2 hsz
  go_enter Try.func11, Try.ntmps11
  go_wp2_with (first | (go_at_call 15; refine (raddress_any _ _).mono ?_; rintro e w' ⟨rfl, rfl⟩))
  go_loopw [5] (fun i wr => ∃ k : Nat, (k : Int) ≤ nb ∧ i = .int .i64 k ∧ agree net a k = true ∧ wr.heap[w.heap.size]? = some (.cells #[.string net, .int .i64 nb] 39 (0, 0)) ∧ Fr w.heap.size (fun _ => False) w wr) (fun i _ => (nb - intOf i).toNat)
  case atStart => exact ⟨0, by omega, rfl, rfl, heap_new_at rfl, (Fr.refl _ _ _).alloc (Nat.le_refl _) _⟩
  case round =>
    obtain ⟨k, hk, rfl, hag, hbx, hfr⟩ := hrel
    have HAG := Lib.hid hag
    clear hag
    have c0 : wr.cell? ⟨w.heap.size, 0, none⟩ = some (.string net) := by rw [heap_cell hbx]; rfl
    have c1 : wr.cell? ⟨w.heap.size, 1, none⟩ = some (.int .i64 nb) := by rw [heap_cell hbx]; rfl
    have HBX := Lib.hid hbx; have HFR := Lib.hid hfr
    clear hbx hfr
    by_cases hlt : (k : Int) < nb
    · have hag1 : agree net a (k + 1) = (bitOf a k == bitOf net k) := by rw [agree, HAG.out, Bool.true_and]
      have HA1 := Lib.hid hag1
      clear hag1
      have hb1 := rbit_any net k wr (by omega) (by omega)
      have hb2 := rbit_any a k wr (by omega) (by omega)
      have HB1 := Lib.hid hb1; have HB2 := Lib.hid hb2
      clear hb1 hb2
      by_cases hbit : bitOf a k = bitOf net k
      · have e1 : ((bitOf net k : Int) != (bitOf a k : Int)) = false := by rw [bne_eq_false_iff_eq, hbit]
        have HBIT := Lib.hid hbit
        clear hbit
        go_wp2_with fail
        refine HB1.out.mono ?_
        rintro e w' ⟨rfl, rfl⟩
        go_wp2_with fail
        refine HB2.out.mono ?_
        rintro e w' ⟨rfl, rfl⟩
        go_wp2
        go_roundw
        case rel => exact ⟨k + 1, by omega, by go_num, by rw [HA1.out, HBIT.out]; simp, HBX.out, HFR.out⟩
        case measure => simp [intOf]; omega
      · have e1 : ((bitOf net k : Int) != (bitOf a k : Int)) = true := by rw [bne_iff_ne]; omega
        have hbf : (bitOf a k == bitOf net k) = false := by rw [beq_eq_false_iff_ne]; exact hbit
        have HBF := Lib.hid hbf
        clear hbit hbf
        go_wp2_with fail
        refine HB1.out.mono ?_
        rintro e w' ⟨rfl, rfl⟩
        go_wp2_with fail
        refine HB2.out.mono ?_
        rintro e w' ⟨rfl, rfl⟩
        go_wp2
        go_ret
        have hf : agree net a nb.toNat = false := agree_false (k := k) (by omega) (by rw [HA1.out, HBF.out])
        refine ⟨?_, HFR.out⟩
        have e2 : insideB net nb a = false := by simp [insideB, hf]
        rw [e2]
        rfl
    · have hke : (k : Int) = nb := by omega
      have HKE := Lib.hid hke
      clear hke
      go_wp2
      go_ret
      refine ⟨?_, HFR.out⟩
      have e1 : insideB net nb a = true := by
        unfold insideB
        rw [h1, H2.out]
        have : nb.toNat = k := by have := HKE.out; omega
        rw [this, HAG.out]
        simp
        exact ⟨h3, h8⟩
      rw [e1]
      rfl

theorem rinside_no (net a : ByteArray) (nb : Int) (w : World) (h : ¬ (addrB net = true ∧ a.size = net.size ∧ 0 ≤ nb ∧ nb ≤ 8 * a.size)) :
    Calls Try.prog 11 #[.agg #[.string net, .int .i64 nb], .string a] w fun e w' => e = .returned (.bool false) ∧ Fr w.heap.size (fun _ => False) w w' := by
  have hfr : Fr w.heap.size (fun _ => False) w (w.alloc (.cells #[.string net, .int .i64 nb] 39)) := (Fr.refl _ _ _).alloc (Nat.le_refl _) _
  by_cases h1 : addrB net = true
  · by_cases h1a : addrB a = true
    · by_cases h2 : a.size = net.size
      · have hs : net.size = 4 ∨ net.size = 16 := by simpa [addrB] using h1
        have b1 : ((a.size : Int) != net.size) = false := by rw [bne_eq_false_iff_eq]; omega
        have h6 : (a.size : Int) ≤ 16 := by omega
        have h7 : (net.size : Int) ≤ 16 := by omega
        by_cases h3 : nb < 0
        · clear h h2 hs
          go_enter Try.func11, Try.ntmps11
          go_wp2_with (first | (go_at_call 15; refine (raddress_any _ _).mono ?_; rintro e w' ⟨rfl, rfl⟩))
          go_ret
          exact ⟨rfl, hfr⟩
        · have h4 : 8 * (net.size : Int) < nb := by
            rcases Int.lt_or_le (8 * (net.size : Int)) nb with h4 | h4
            · exact h4
            · exact absurd ⟨h1, h2, by omega, by omega⟩ h
          clear h h2 hs
          go_enter Try.func11, Try.ntmps11
          go_wp2_with (first | (go_at_call 15; refine (raddress_any _ _).mono ?_; rintro e w' ⟨rfl, rfl⟩))
          go_ret
          exact ⟨rfl, hfr⟩
      · have b1 : ((a.size : Int) != net.size) = true := by rw [bne_iff_ne]; omega
        clear h h2
        go_enter Try.func11, Try.ntmps11
        go_wp2_with (first | (go_at_call 15; refine (raddress_any _ _).mono ?_; rintro e w' ⟨rfl, rfl⟩))
        go_ret
        exact ⟨rfl, hfr⟩
    · have h1' : addrB a = false := by simpa using h1a
      clear h h1a
      go_enter Try.func11, Try.ntmps11
      go_wp2_with (first | (go_at_call 15; refine (raddress_any _ _).mono ?_; rintro e w' ⟨rfl, rfl⟩))
      go_ret
      exact ⟨rfl, hfr⟩
  · have h1' : addrB net = false := by simpa using h1
    clear h h1
    go_enter Try.func11, Try.ntmps11
    go_wp2_with (first | (go_at_call 15; refine (raddress_any _ _).mono ?_; rintro e w' ⟨rfl, rfl⟩))
    go_ret
    exact ⟨rfl, hfr⟩

/-- The document's Inside. -/
theorem rinside_any (net a : ByteArray) (nb : Int) (w : World) :
    Calls Try.prog 11 #[.agg #[.string net, .int .i64 nb], .string a] w fun e w' => e = .returned (.bool (insideB net nb a)) ∧ Fr w.heap.size (fun _ => False) w w' := by
  by_cases h : addrB net = true ∧ a.size = net.size ∧ 0 ≤ nb ∧ nb ≤ 8 * a.size
  · exact rinside_loop net a nb w h.1 h.2.1 h.2.2.1 h.2.2.2
  · have e1 : insideB net nb a = false := by
      cases hb : insideB net nb a
      · rfl
      · exfalso
        unfold insideB at hb
        simp only [Bool.and_eq_true, beq_iff_eq, decide_eq_true_eq] at hb
        exact h ⟨hb.1.1.1.1, hb.1.1.1.2, hb.1.1.2, hb.1.2⟩
    rw [e1]
    exact rinside_no net a nb w h
end Go.Proofs.Ytnbdlaedbbcnjaa

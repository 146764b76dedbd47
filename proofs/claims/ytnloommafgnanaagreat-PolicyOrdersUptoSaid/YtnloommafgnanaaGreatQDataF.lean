/-
  How many bytes a field takes: the methods.
-/
import Derived.Test.YtnloommafgnanaaGreatQMarks
import Derived.Test.YtnloommafgnanaaGreatQNameA
namespace Go.Proofs.YtnloommafgnanaaGreat
open Go.RowKit Go.Shelf Go.Proofs.YtnloommafgnanaaGreat.nm

theorem ret_i {a b : Int} (h : a = b) : Ending.returned (.int .i64 a) = .returned (.int .i64 b) := by rw [h]

theorem number_take (n : Int) (d : ByteArray) (w : World) : Calls Tryz.prog 95 #[.int .i64 n, .string d] w fun e W' => e = .returned (.int .i64 (dt.numI n d)) ∧ w = W' := by
  by_cases h : (d.size : Int) < n
  · go_enter Tryz.func95, Tryz.ntmps95
    go_wp2
    go_ret
    exact ⟨ret_i (by rw [dt.numI, if_pos h]), rfl⟩
  · go_enter Tryz.func95, Tryz.ntmps95
    go_wp2
    go_ret
    exact ⟨ret_i (by rw [dt.numI, if_neg (by omega)]), rfl⟩

theorem ip4_take (d : ByteArray) (w : World) : Calls Tryz.prog 98 #[.agg #[], .string d] w fun e W' => e = .returned (.int .i64 (dt.numI 4 d)) ∧ Below w.heap.size w W' := by
  have hB := (Below.refl _ w).alloc (Nat.le_refl _) (.cells #[] 100)
  go_enter Tryz.func98, Tryz.ntmps98
  go_wp2_with (go_at_call 95; refine (number_take _ _ _).mono ?_; rintro e w1 ⟨rfl, rfl⟩)
  go_ret
  exact ⟨rfl, hB⟩
theorem ip6_take (d : ByteArray) (w : World) : Calls Tryz.prog 107 #[.agg #[], .string d] w fun e W' => e = .returned (.int .i64 (dt.numI 16 d)) ∧ Below w.heap.size w W' := by
  have hB := (Below.refl _ w).alloc (Nat.le_refl _) (.cells #[] 103)
  go_enter Tryz.func107, Tryz.ntmps107
  go_wp2_with (go_at_call 95; refine (number_take _ _ _).mono ?_; rintro e w1 ⟨rfl, rfl⟩)
  go_ret
  exact ⟨rfl, hB⟩

theorem some_any (d : ByteArray) (w : World) : Calls Tryz.prog 111 #[.string d] w fun e W' => e = .returned (.int .i64 (dt.someI d)) ∧ w = W' := by
  by_cases h : d.size = 0
  · have b0 := str_empty h
    have H := Lib.hid h
    clear h
    go_enter Tryz.func111, Tryz.ntmps111
    go_wp2
    go_ret
    exact ⟨ret_i (by rw [dt.someI, if_pos H.out]), rfl⟩
  · have b0 := str_some h
    go_enter Tryz.func111, Tryz.ntmps111
    go_wp2
    go_ret
    exact ⟨ret_i (by rw [dt.someI, if_neg h]), rfl⟩
theorem hexes_take (d : ByteArray) (w : World) : Calls Tryz.prog 110 #[.agg #[], .string d] w fun e W' => e = .returned (.int .i64 (dt.someI d)) ∧ Below w.heap.size w W' := by
  have hB := (Below.refl _ w).alloc (Nat.le_refl _) (.cells #[] 104)
  go_enter Tryz.func110, Tryz.ntmps110
  go_wp2_with (go_at_call 111; refine (some_any _ _).mono ?_; rintro e w1 ⟨rfl, rfl⟩)
  go_ret
  exact ⟨rfl, hB⟩
theorem b64_take (d : ByteArray) (w : World) : Calls Tryz.prog 118 #[.agg #[], .string d] w fun e W' => e = .returned (.int .i64 (dt.someI d)) ∧ Below w.heap.size w W' := by
  have hB := (Below.refl _ w).alloc (Nat.le_refl _) (.cells #[] 106)
  go_enter Tryz.func118, Tryz.ntmps118
  go_wp2_with (go_at_call 111; refine (some_any _ _).mono ?_; rintro e w1 ⟨rfl, rfl⟩)
  go_ret
  exact ⟨rfl, hB⟩
theorem tail_take (d : ByteArray) (w : World) : Calls Tryz.prog 131 #[.agg #[], .string d] w fun e W' => e = .returned (.int .i64 d.size) ∧ Below w.heap.size w W' := by
  have hB := (Below.refl _ w).alloc (Nat.le_refl _) (.cells #[] 110)
  go_enter Tryz.func131, Tryz.ntmps131
  go_wp2
  go_ret
  exact ⟨rfl, hB⟩

theorem text_take (d : ByteArray) (w : World) : Calls Tryz.prog 101 #[.agg #[], .string d] w fun e W' => e = .returned (.int .i64 (dt.textI d)) ∧ Below w.heap.size w W' := by
  have hB := (Below.refl _ w).alloc (Nat.le_refl _) (.cells #[] 101)
  by_cases h : d.size = 0
  · have b0 := str_empty h
    have H := Lib.hid h
    clear h
    go_enter Tryz.func101, Tryz.ntmps101
    go_wp2
    go_ret
    exact ⟨ret_i (by rw [dt.textI, if_pos H.out]), hB⟩
  · have b0 := str_some h
    have hp : 0 < d.size := by omega
    have hs := sizeAt_eq hp
    have h256 : (d[0].toNat : Int) < 256 := by have := UInt8.toNat_lt d[0]; omega
    have HS := Lib.hid hs
    clear hs
    by_cases hl : (d.size : Int) ≤ d[0].toNat
    · go_enter Tryz.func101, Tryz.ntmps101
      go_wp2
      go_ret
      exact ⟨ret_i (by rw [dt.textI, if_neg h, HS.out, if_pos (by omega)]), hB⟩
    · go_enter Tryz.func101, Tryz.ntmps101
      go_wp2
      go_ret
      exact ⟨ret_i (by rw [dt.textI, if_neg h, HS.out, if_neg (by omega)]), hB⟩
theorem salt_take (d : ByteArray) (w : World) : Calls Tryz.prog 125 #[.agg #[], .string d] w fun e W' => e = .returned (.int .i64 (dt.textI d)) ∧ Below w.heap.size w W' := by
  have hB := (Below.refl _ w).alloc (Nat.le_refl _) (.cells #[] 108)
  go_enter Tryz.func125, Tryz.ntmps125
  go_wp2_with (go_at_call 101; refine (text_take _ _).mono ?_; rintro e w1 ⟨rfl, hB1⟩)
  go_ret
  exact ⟨rfl, hB.trans (hB1.mono (by simp))⟩
theorem hash_take (d : ByteArray) (w : World) : Calls Tryz.prog 128 #[.agg #[], .string d] w fun e W' => e = .returned (.int .i64 (dt.hashI d)) ∧ Below w.heap.size w W' := by
  have hB := (Below.refl _ w).alloc (Nat.le_refl _) (.cells #[] 109)
  by_cases h : d.size = 0
  · have b0 := str_empty h
    have H := Lib.hid h
    clear h
    go_enter Tryz.func128, Tryz.ntmps128
    go_wp2
    go_ret
    exact ⟨ret_i (by rw [dt.hashI, if_pos H.out]), hB⟩
  · have b0 := str_some h
    have hp : 0 < d.size := by omega
    have hs := sizeAt_eq hp
    have HS := Lib.hid hs
    clear hs
    by_cases hl : d[0].toNat = 0
    · have b1 : ((d[0].toNat : Int) == 0) = true := by rw [beq_iff_eq]; omega
      have HL := Lib.hid hl
      clear hl
      go_enter Tryz.func128, Tryz.ntmps128
      go_wp2
      go_ret
      exact ⟨ret_i (by rw [dt.hashI, if_neg h, HS.out, if_pos HL.out]), hB⟩
    · have b1 : ((d[0].toNat : Int) == 0) = false := by rw [beq_eq_false_iff_ne]; omega
      go_enter Tryz.func128, Tryz.ntmps128
      go_wp2_with (go_at_call 101; refine (text_take _ _).mono ?_; rintro e w1 ⟨rfl, hB1⟩)
      go_ret
      exact ⟨ret_i (by rw [dt.hashI, if_neg h, HS.out, if_neg hl]), hB.trans (hB1.mono (by simp))⟩

set_option maxHeartbeats 1000000 in
theorem texts_take (d : ByteArray) (hd : d.size ≤ 65535) (w : World) : Calls Tryz.prog 104 #[.agg #[], .string d] w fun e W' => e = .returned (.int .i64 (dt.textsI d)) ∧ Below w.heap.size w W' := by
  have hB := Lib.hid ((Below.refl _ w).alloc (Nat.le_refl _) (.cells #[] 102))
  go_enter Tryz.func104, Tryz.ntmps104
  go_wp2
  go_loopw [5, 6] (fun i _ wr => ∃ k f : Nat, k ≤ d.size ∧ d.size < k + f ∧ i = .int .i64 k ∧ dt.textsI d = dt.textsGo d f k ∧ Below w.heap.size w wr) (fun i _ _ => d.size - (intOf i).toNat)
  case atStart => exact ⟨0, d.size + 1, by omega, by omega, rfl, rfl, hB.out⟩
  case round =>
    obtain ⟨k, f, hk, hf, rfl, he, hb⟩ := hrel
    obtain ⟨f, rfl⟩ : ∃ g, f = g + 1 := ⟨f - 1, by omega⟩
    have HE := Lib.hid he; have HB := Lib.hid hb
    clear he hb
    by_cases hlt : k < d.size
    · rcases dt.textI_range (d.extract k d.size) with hn | ⟨hn1, hn2, hn3⟩
      · have hn' : dt.textI (d.extract k d.size) < 0 := by omega
        have hfin : dt.textsI d = -1 := by rw [HE.out, dt.textsGo_bad hlt hn']
        have HN := Lib.hid hn; have HF := Lib.hid hfin
        clear hn hfin
        go_wp2_with (go_at_call 101; refine (text_take _ _).mono ?_; rintro e w1 ⟨rfl, hB1⟩)
        go_ret
        exact ⟨ret_i HF.out.symm, HB.out.trans (hB1.mono HB.out.size)⟩
      · rw [dt.size_extract d hk] at hn2
        have hfin : dt.textsI d = dt.textsGo d f (k + (dt.textI (d.extract k d.size)).toNat) := by rw [HE.out, dt.textsGo_next hlt (by omega)]
        have HF := Lib.hid hfin
        clear hfin
        go_wp2_with (go_at_call 101; refine (text_take _ _).mono ?_; rintro e w1 ⟨rfl, hB1⟩)
        go_roundw
        case rel => exact ⟨k + (dt.textI (d.extract k d.size)).toNat, f, by omega, by omega, by rw [Int.natCast_add, Int.toNat_of_nonneg (by omega)], HF.out, HB.out.trans (hB1.mono HB.out.size)⟩
        case measure => simp [intOf]; omega
    · have hke : k = d.size := by omega
      have hfin : dt.textsI d = if k = 0 then -1 else (k : Int) := by rw [HE.out, dt.textsGo_stop (by omega)]
      have HF := Lib.hid hfin
      clear hfin
      by_cases h0 : k = 0
      · have b0 : ((k : Int) == 0) = true := by rw [beq_iff_eq]; omega
        have H0 := Lib.hid h0
        clear hke h0
        go_wp2
        go_ret
        exact ⟨ret_i (by rw [HF.out, if_pos H0.out]), HB.out⟩
      · have b0 : ((k : Int) == 0) = false := by rw [beq_eq_false_iff_ne]; omega
        clear hke
        go_wp2
        go_ret
        exact ⟨ret_i (by rw [HF.out, if_neg h0]), HB.out⟩

set_option maxRecDepth 100000 in
set_option maxHeartbeats 1000000 in
theorem host_take (d : ByteArray) (hd : d.size ≤ 65535) (w : World) : Calls Tryz.prog 91 #[.agg #[], .string d] w fun e W' => e = .returned (.int .i64 (dt.hostI d)) ∧ Below w.heap.size w W' := by
  have hB := Lib.hid ((Below.refl _ w).alloc (Nat.le_refl _) (.cells #[] 79))
  go_enter Tryz.func91, Tryz.ntmps91
  go_wp2
  go_loopw [5] (fun i wr => ∃ k f : Nat, k ≤ d.size + 256 ∧ d.size < k + f ∧ i = .int .i64 k ∧ dt.hostEnd d = dt.hostGo d f k ∧ Below w.heap.size w wr) (fun i _ => d.size + 256 - (intOf i).toNat)
  case atStart => exact ⟨0, d.size + 1, by omega, by omega, rfl, rfl, hB.out⟩
  case round =>
    obtain ⟨k, f, hk, hf, rfl, he, hb⟩ := hrel
    have HE := Lib.hid he; have HB := Lib.hid hb
    clear he hb
    by_cases hlt : k < d.size
    · obtain ⟨f, rfl⟩ : ∃ g, f = g + 1 := ⟨f - 1, by omega⟩
      have hsz := sizeAt_eq hlt
      have h256 : (d[k].toNat : Int) < 256 := by have := UInt8.toNat_lt d[k]; omega
      have hge : (0 : Int) ≤ d[k].toNat := by omega
      by_cases hz : 0 < d[k].toNat
      · have hz' : (0 : Int) < d[k].toNat := by omega
        have hfin : dt.hostEnd d = dt.hostGo d f (k + 1 + d[k].toNat) := by rw [HE.out, dt.hostGo_next hlt (by omega), hsz]
        have HF := Lib.hid hfin
        clear hfin hsz
        go_wp2
        go_roundw
        case rel => exact ⟨k + 1 + d[k].toNat, f, by omega, by omega, by go_num, HF.out, HB.out⟩
        case measure => simp [intOf]; omega
      · have hz' : ¬ (0 : Int) < d[k].toNat := by omega
        have hfin : dt.hostEnd d = k := by rw [HE.out, dt.hostGo_stop (by omega)]
        have hres : dt.hostI d = if checkB (d.extract 0 (k + 1)) = true then (k : Int) + 1 else -1 := by rw [dt.hostI, hfin, if_neg (by omega)]
        have HR := Lib.hid hres
        clear hfin hsz hres
        cases hc : checkB (d.extract 0 (k + 1))
        · have HC := Lib.hid hc
          clear hc
          go_wp2_with (go_at_call 38; refine (check_any _ _).mono ?_; rintro e w1 ⟨rfl, hB1⟩; rw [HC.out, okV_f])
          go_ret
          exact ⟨ret_i (by rw [HR.out, HC.out]; rfl), HB.out.trans (hB1.mono HB.out.size)⟩
        · have HC := Lib.hid hc
          clear hc
          go_wp2_with (go_at_call 38; refine (check_any _ _).mono ?_; rintro e w1 ⟨rfl, hB1⟩; rw [HC.out, okV_t])
          go_ret
          exact ⟨ret_i (by rw [HR.out, HC.out]; rfl), HB.out.trans (hB1.mono HB.out.size)⟩
    · have hfin : dt.hostEnd d = k := by rw [HE.out, dt.hostGo_stop (by omega)]
      have hres : dt.hostI d = -1 := by rw [dt.hostI, hfin, if_pos (by omega)]
      have HR := Lib.hid hres
      clear hfin hres
      go_wp2
      go_ret
      exact ⟨ret_i HR.out.symm, HB.out⟩
end Go.Proofs.YtnloommafgnanaaGreat
/-
  data.form: the fields of a type. (Printed by wip/genform.py.)
-/
namespace Go.Proofs.YtnloommafgnanaaGreat
open Go.RowKit Go.Shelf

namespace dt
/-- The kinds of fields. -/
inductive Fld where
  | num (n : Int) | ip4 | ip6 | host | text | texts | tail | hexes | b64 | kind | kinds | salt | hash
  deriving DecidableEq
/-- The fields of a type; none: any bytes. -/
def formF (t : Int) : Option (List Fld) :=
  if t = 1 then some [.ip4] else
  if t = 2 then some [.host] else
  if t = 5 then some [.host] else
  if t = 6 then some [.host, .host, .num 4, .num 4, .num 4, .num 4, .num 4] else
  if t = 12 then some [.host] else
  if t = 13 then some [.text, .text] else
  if t = 15 then some [.num 2, .host] else
  if t = 16 then some [.texts] else
  if t = 28 then some [.ip6] else
  if t = 33 then some [.num 2, .num 2, .num 2, .host] else
  if t = 35 then some [.num 2, .num 2, .text, .text, .text, .host] else
  if t = 39 then some [.host] else
  if t = 43 then some [.num 2, .num 1, .num 1, .hexes] else
  if t = 46 then some [.kind, .num 1, .num 1, .num 4, .num 4, .num 4, .num 2, .host, .b64] else
  if t = 47 then some [.host, .kinds] else
  if t = 48 then some [.num 2, .num 1, .num 1, .b64] else
  if t = 50 then some [.num 1, .num 1, .num 2, .salt, .hash, .kinds] else
  if t = 51 then some [.num 1, .num 1, .num 2, .salt] else
  if t = 257 then some [.num 1, .text, .tail] else
  none
theorem formF_none {t : Int} (h1 : t ≠ 1) (h2 : t ≠ 2) (h5 : t ≠ 5) (h6 : t ≠ 6) (h12 : t ≠ 12) (h13 : t ≠ 13) (h15 : t ≠ 15) (h16 : t ≠ 16) (h28 : t ≠ 28) (h33 : t ≠ 33) (h35 : t ≠ 35) (h39 : t ≠ 39) (h43 : t ≠ 43) (h46 : t ≠ 46) (h47 : t ≠ 47) (h48 : t ≠ 48) (h50 : t ≠ 50) (h51 : t ≠ 51) (h257 : t ≠ 257) : formF t = none := by
  unfold formF
  rw [if_neg h1, if_neg h2, if_neg h5, if_neg h6, if_neg h12, if_neg h13, if_neg h15, if_neg h16, if_neg h28, if_neg h33, if_neg h35, if_neg h39, if_neg h43, if_neg h46, if_neg h47, if_neg h48, if_neg h50, if_neg h51, if_neg h257]
end dt
open dt (Fld)
def tyF : Fld → TypeId
  | .num _ => 99
  | .ip4 => 100
  | .ip6 => 103
  | .host => 79
  | .text => 101
  | .texts => 102
  | .tail => 110
  | .hexes => 104
  | .b64 => 106
  | .kind => 105
  | .kinds => 107
  | .salt => 108
  | .hash => 109
def recvF : Fld → Value
  | .num n => .int .i64 n
  | _ => .agg #[]
/-- A field as an interface value. -/
@[reducible] def encF (f : Fld) : Value := .iface (tyF f) (recvF f)

def FormOk (fs : List Fld) (w : World) (e : Ending) (w' : World) : Prop :=
  e = .returned (.tuple #[.slice (some ⟨w.heap.size, 0, none⟩) fs.length fs.length, .bool true]) ∧ w' = w.alloc (.cells (fs.map encF).toArray 77)
def FormPost (t : Int) (w : World) (e : Ending) (w' : World) : Prop :=
  match dt.formF t with
  | some fs => FormOk fs w e w'
  | none => e = .returned (.tuple #[.slice none 0 0, .bool false]) ∧ w' = w

set_option maxRecDepth 100000 in
theorem form_1 (w : World) : Calls Tryz.prog 42 #[.int .i64 1] w fun e w' => FormOk [.ip4] w e w' := by
  go_enter Tryz.func42, Tryz.ntmps42
  go_wp2
  go_ret2
  exact ⟨rfl, rfl⟩
set_option maxRecDepth 100000 in
theorem form_2 (w : World) : Calls Tryz.prog 42 #[.int .i64 2] w fun e w' => FormOk [.host] w e w' := by
  go_enter Tryz.func42, Tryz.ntmps42
  go_wp2
  go_ret2
  exact ⟨rfl, rfl⟩
set_option maxRecDepth 100000 in
theorem form_5 (w : World) : Calls Tryz.prog 42 #[.int .i64 5] w fun e w' => FormOk [.host] w e w' := by
  go_enter Tryz.func42, Tryz.ntmps42
  go_wp2
  go_ret2
  exact ⟨rfl, rfl⟩
set_option maxRecDepth 100000 in
theorem form_6 (w : World) : Calls Tryz.prog 42 #[.int .i64 6] w fun e w' => FormOk [.host, .host, .num 4, .num 4, .num 4, .num 4, .num 4] w e w' := by
  go_enter Tryz.func42, Tryz.ntmps42
  go_wp2
  go_ret2
  exact ⟨rfl, rfl⟩
set_option maxRecDepth 100000 in
theorem form_12 (w : World) : Calls Tryz.prog 42 #[.int .i64 12] w fun e w' => FormOk [.host] w e w' := by
  go_enter Tryz.func42, Tryz.ntmps42
  go_wp2
  go_ret2
  exact ⟨rfl, rfl⟩
set_option maxRecDepth 100000 in
theorem form_13 (w : World) : Calls Tryz.prog 42 #[.int .i64 13] w fun e w' => FormOk [.text, .text] w e w' := by
  go_enter Tryz.func42, Tryz.ntmps42
  go_wp2
  go_ret2
  exact ⟨rfl, rfl⟩
set_option maxRecDepth 100000 in
theorem form_15 (w : World) : Calls Tryz.prog 42 #[.int .i64 15] w fun e w' => FormOk [.num 2, .host] w e w' := by
  go_enter Tryz.func42, Tryz.ntmps42
  go_wp2
  go_ret2
  exact ⟨rfl, rfl⟩
set_option maxRecDepth 100000 in
theorem form_16 (w : World) : Calls Tryz.prog 42 #[.int .i64 16] w fun e w' => FormOk [.texts] w e w' := by
  go_enter Tryz.func42, Tryz.ntmps42
  go_wp2
  go_ret2
  exact ⟨rfl, rfl⟩
set_option maxRecDepth 100000 in
theorem form_28 (w : World) : Calls Tryz.prog 42 #[.int .i64 28] w fun e w' => FormOk [.ip6] w e w' := by
  go_enter Tryz.func42, Tryz.ntmps42
  go_wp2
  go_ret2
  exact ⟨rfl, rfl⟩
set_option maxRecDepth 100000 in
theorem form_33 (w : World) : Calls Tryz.prog 42 #[.int .i64 33] w fun e w' => FormOk [.num 2, .num 2, .num 2, .host] w e w' := by
  go_enter Tryz.func42, Tryz.ntmps42
  go_wp2
  go_ret2
  exact ⟨rfl, rfl⟩
set_option maxRecDepth 100000 in
theorem form_35 (w : World) : Calls Tryz.prog 42 #[.int .i64 35] w fun e w' => FormOk [.num 2, .num 2, .text, .text, .text, .host] w e w' := by
  go_enter Tryz.func42, Tryz.ntmps42
  go_wp2
  go_ret2
  exact ⟨rfl, rfl⟩
set_option maxRecDepth 100000 in
theorem form_39 (w : World) : Calls Tryz.prog 42 #[.int .i64 39] w fun e w' => FormOk [.host] w e w' := by
  go_enter Tryz.func42, Tryz.ntmps42
  go_wp2
  go_ret2
  exact ⟨rfl, rfl⟩
set_option maxRecDepth 100000 in
theorem form_43 (w : World) : Calls Tryz.prog 42 #[.int .i64 43] w fun e w' => FormOk [.num 2, .num 1, .num 1, .hexes] w e w' := by
  go_enter Tryz.func42, Tryz.ntmps42
  go_wp2
  go_ret2
  exact ⟨rfl, rfl⟩
set_option maxRecDepth 100000 in
theorem form_46 (w : World) : Calls Tryz.prog 42 #[.int .i64 46] w fun e w' => FormOk [.kind, .num 1, .num 1, .num 4, .num 4, .num 4, .num 2, .host, .b64] w e w' := by
  go_enter Tryz.func42, Tryz.ntmps42
  go_wp2
  go_ret2
  exact ⟨rfl, rfl⟩
set_option maxRecDepth 100000 in
theorem form_47 (w : World) : Calls Tryz.prog 42 #[.int .i64 47] w fun e w' => FormOk [.host, .kinds] w e w' := by
  go_enter Tryz.func42, Tryz.ntmps42
  go_wp2
  go_ret2
  exact ⟨rfl, rfl⟩
set_option maxRecDepth 100000 in
theorem form_48 (w : World) : Calls Tryz.prog 42 #[.int .i64 48] w fun e w' => FormOk [.num 2, .num 1, .num 1, .b64] w e w' := by
  go_enter Tryz.func42, Tryz.ntmps42
  go_wp2
  go_ret2
  exact ⟨rfl, rfl⟩
set_option maxRecDepth 100000 in
theorem form_50 (w : World) : Calls Tryz.prog 42 #[.int .i64 50] w fun e w' => FormOk [.num 1, .num 1, .num 2, .salt, .hash, .kinds] w e w' := by
  go_enter Tryz.func42, Tryz.ntmps42
  go_wp2
  go_ret2
  exact ⟨rfl, rfl⟩
set_option maxRecDepth 100000 in
theorem form_51 (w : World) : Calls Tryz.prog 42 #[.int .i64 51] w fun e w' => FormOk [.num 1, .num 1, .num 2, .salt] w e w' := by
  go_enter Tryz.func42, Tryz.ntmps42
  go_wp2
  go_ret2
  exact ⟨rfl, rfl⟩
set_option maxRecDepth 100000 in
theorem form_257 (w : World) : Calls Tryz.prog 42 #[.int .i64 257] w fun e w' => FormOk [.num 1, .text, .tail] w e w' := by
  go_enter Tryz.func42, Tryz.ntmps42
  go_wp2
  go_ret2
  exact ⟨rfl, rfl⟩
set_option maxRecDepth 100000 in
theorem form_no (t : Int) (h1 : t ≠ 1) (h2 : t ≠ 2) (h5 : t ≠ 5) (h6 : t ≠ 6) (h12 : t ≠ 12) (h13 : t ≠ 13) (h15 : t ≠ 15) (h16 : t ≠ 16) (h28 : t ≠ 28) (h33 : t ≠ 33) (h35 : t ≠ 35) (h39 : t ≠ 39) (h43 : t ≠ 43) (h46 : t ≠ 46) (h47 : t ≠ 47) (h48 : t ≠ 48) (h50 : t ≠ 50) (h51 : t ≠ 51) (h257 : t ≠ 257) (w : World) : Calls Tryz.prog 42 #[.int .i64 t] w fun e w' => e = .returned (.tuple #[.slice none 0 0, .bool false]) ∧ w' = w := by
  have b1 : (t == 1) = false := by rw [beq_eq_false_iff_ne]; exact h1
  have b2 : (t == 2) = false := by rw [beq_eq_false_iff_ne]; exact h2
  have b5 : (t == 5) = false := by rw [beq_eq_false_iff_ne]; exact h5
  have b6 : (t == 6) = false := by rw [beq_eq_false_iff_ne]; exact h6
  have b12 : (t == 12) = false := by rw [beq_eq_false_iff_ne]; exact h12
  have b13 : (t == 13) = false := by rw [beq_eq_false_iff_ne]; exact h13
  have b15 : (t == 15) = false := by rw [beq_eq_false_iff_ne]; exact h15
  have b16 : (t == 16) = false := by rw [beq_eq_false_iff_ne]; exact h16
  have b28 : (t == 28) = false := by rw [beq_eq_false_iff_ne]; exact h28
  have b33 : (t == 33) = false := by rw [beq_eq_false_iff_ne]; exact h33
  have b35 : (t == 35) = false := by rw [beq_eq_false_iff_ne]; exact h35
  have b39 : (t == 39) = false := by rw [beq_eq_false_iff_ne]; exact h39
  have b43 : (t == 43) = false := by rw [beq_eq_false_iff_ne]; exact h43
  have b46 : (t == 46) = false := by rw [beq_eq_false_iff_ne]; exact h46
  have b47 : (t == 47) = false := by rw [beq_eq_false_iff_ne]; exact h47
  have b48 : (t == 48) = false := by rw [beq_eq_false_iff_ne]; exact h48
  have b50 : (t == 50) = false := by rw [beq_eq_false_iff_ne]; exact h50
  have b51 : (t == 51) = false := by rw [beq_eq_false_iff_ne]; exact h51
  have b257 : (t == 257) = false := by rw [beq_eq_false_iff_ne]; exact h257
  clear h1 h2 h5 h6 h12 h13 h15 h16 h28 h33 h35 h39 h43 h46 h47 h48 h50 h51 h257
  go_enter Tryz.func42, Tryz.ntmps42
  go_wp2
  go_ret2
  exact ⟨rfl, rfl⟩
/-- data.form. -/
theorem form_any (t : Int) (w : World) : Calls Tryz.prog 42 #[.int .i64 t] w fun e w' => FormPost t w e w' := by
  by_cases h1 : t = 1
  · subst h1; exact form_1 w
  by_cases h2 : t = 2
  · subst h2; exact form_2 w
  by_cases h5 : t = 5
  · subst h5; exact form_5 w
  by_cases h6 : t = 6
  · subst h6; exact form_6 w
  by_cases h12 : t = 12
  · subst h12; exact form_12 w
  by_cases h13 : t = 13
  · subst h13; exact form_13 w
  by_cases h15 : t = 15
  · subst h15; exact form_15 w
  by_cases h16 : t = 16
  · subst h16; exact form_16 w
  by_cases h28 : t = 28
  · subst h28; exact form_28 w
  by_cases h33 : t = 33
  · subst h33; exact form_33 w
  by_cases h35 : t = 35
  · subst h35; exact form_35 w
  by_cases h39 : t = 39
  · subst h39; exact form_39 w
  by_cases h43 : t = 43
  · subst h43; exact form_43 w
  by_cases h46 : t = 46
  · subst h46; exact form_46 w
  by_cases h47 : t = 47
  · subst h47; exact form_47 w
  by_cases h48 : t = 48
  · subst h48; exact form_48 w
  by_cases h50 : t = 50
  · subst h50; exact form_50 w
  by_cases h51 : t = 51
  · subst h51; exact form_51 w
  by_cases h257 : t = 257
  · subst h257; exact form_257 w
  have hn := dt.formF_none h1 h2 h5 h6 h12 h13 h15 h16 h28 h33 h35 h39 h43 h46 h47 h48 h50 h51 h257
  refine (form_no t h1 h2 h5 h6 h12 h13 h15 h16 h28 h33 h35 h39 h43 h46 h47 h48 h50 h51 h257 w).mono fun e w' h => ?_
  unfold FormPost
  rw [hn]
  exact h
end Go.Proofs.YtnloommafgnanaaGreat

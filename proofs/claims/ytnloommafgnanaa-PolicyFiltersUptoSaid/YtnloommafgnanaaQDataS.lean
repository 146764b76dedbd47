/-
  data.split: the parts of data.
-/
import Derived.Test.YtnloommafgnanaaProg
import Derived.Test.YtnloommafgnanaaQDataK
import Derived.Test.YtnloommafgnanaaQNameE
import Derived.Deep.RegionWith
import Derived.Shelf.Strings.Builder1
import Derived.Shelf.Strings.BuilderF
import Derived.Shelf.LaysM
import Derived.Shelf.Strconv.Clone
namespace Go.Proofs.Ytnloommafgnanaa
open Go.RowKit Go.Shelf Go.Proofs.Ytnloommafgnanaa.nm

namespace dt
/-- How many bytes a field takes; below 0: they are not right. -/
def takeI (f : Fld) (d : ByteArray) : Int := match f with
  | .num n => numI n d
  | .ip4 => numI 4 d
  | .ip6 => numI 16 d
  | .host => hostI d
  | .text => textI d
  | .texts => textsI d
  | .tail => (d.size : Int)
  | .hexes => someI d
  | .b64 => someI d
  | .kind => kindI d
  | .kinds => kindsI d
  | .salt => textI d
  | .hash => hashI d
/-- What split says: the parts, and whether they are all. -/
def splitF : List Fld → ByteArray → List ByteArray → Option (List ByteArray × ByteArray)
  | [], d, acc => some (acc, d)
  | f :: fs, d, acc => if takeI f d < 0 then none else splitF fs (d.extract (takeI f d).toNat d.size) (acc ++ [d.extract 0 (takeI f d).toNat])
theorem textsGo_le (d : ByteArray) : ∀ (f k : Nat), k ≤ d.size → textsGo d f k ≤ d.size := by
  intro f
  induction f with
  | zero => intro k _; simp [textsGo]
  | succ f ih =>
    intro k hk
    rw [textsGo]
    split
    · split
      · omega
      · rcases textI_range (d.extract k d.size) with h | ⟨h1, h2, h3⟩
        · omega
        · rw [size_extract d hk] at h2
          exact ih _ (by omega)
    · split <;> omega
theorem takeI_le (f : Fld) (d : ByteArray) : takeI f d ≤ d.size := by
  have ht := textI_range d
  have hn : ∀ n, numI n d ≤ d.size := fun n => by unfold numI; split <;> omega
  cases f with
  | num n => exact hn n
  | ip4 => exact hn 4
  | ip6 => exact hn 16
  | host => show hostI d ≤ _; unfold hostI; split <;> (try split) <;> omega
  | text => show textI d ≤ _; omega
  | texts => exact textsGo_le d _ 0 (Nat.zero_le _)
  | tail => exact Int.le_refl _
  | hexes => show someI d ≤ _; unfold someI; split <;> omega
  | b64 => show someI d ≤ _; unfold someI; split <;> omega
  | kind => show kindI d ≤ _; unfold kindI; split <;> (try split) <;> omega
  | kinds => show kindsI d ≤ _; unfold kindsI; split <;> omega
  | salt => show textI d ≤ _; omega
  | hash => show hashI d ≤ _; unfold hashI; split <;> (try split) <;> omega
end dt
open dt (Fld)

def takeFn : Fld → FuncId
  | .num _ => 101
  | .ip4 => 104
  | .ip6 => 113
  | .host => 97
  | .text => 107
  | .texts => 110
  | .tail => 137
  | .hexes => 116
  | .b64 => 124
  | .kind => 120
  | .kinds => 127
  | .salt => 131
  | .hash => 134

theorem take_any (f : Fld) (d : ByteArray) (hd : d.size ≤ 65535) (w : World) : Calls Try.prog (takeFn f) #[recvF f, .string d] w fun e W' => e = .returned (.int .i64 (dt.takeI f d)) ∧ Below w.heap.size w W' := by
  cases f with
  | num n => exact (number_take n d w).mono fun e w' ⟨h, hw⟩ => ⟨h, hw ▸ Below.refl _ _⟩
  | ip4 => exact ip4_take d w
  | ip6 => exact ip6_take d w
  | host => exact host_take d hd w
  | text => exact text_take d w
  | texts => exact texts_take d hd w
  | tail => exact tail_take d w
  | hexes => exact hexes_take d w
  | b64 => exact b64_take d w
  | kind => exact kind_take d w
  | kinds => exact kinds_take d hd w
  | salt => exact salt_take d w
  | hash => exact hash_take d w

theorem method_take (f : Fld) (w : World) : (method 260 (tyF f) (recvF f) "gazetteer/data.take").run Try.prog w = .ok (takeFn f, recvF f) w := by
  cases f <;> kernel_rfl
theorem call_take (f : Fld) (args : Array Value) (w : World) : (callFunc (takeFn f) args).run Try.prog w = .ok (.enter (takeFn f) args) w := by
  cases f <;> kernel_rfl

/-- What a slice owns lies as it lay behind a call that leaves what was there. -/
theorem ownsRow_below {w w' : World} {base : Nat} {e : TypeId} {size : Nat} {v : Value} {n : Nat} {xs : List Value} (h : w.ownsRow base e size v n xs) (hb : Below w.heap.size w w') : w'.ownsRow base e size v n xs := by
  refine ⟨h.1, ?_⟩
  rcases h.2 with hn | ⟨g, cap, cur, hv, hg, hk, rest⟩
  · exact .inl hn
  · exact .inr ⟨g, cap, cur, hv, hg, (hb.block g (heap_lt hk)).trans hk, rest⟩
/-- A row of fields. -/
def FldRow (w : World) (b : Nat) (fs : List Fld) : Prop := ∀ j (h : j < fs.length), w.cell? ⟨b, j, none⟩ = some (encF fs[j])
def SplitPost (fs : List Fld) (d : ByteArray) (w : World) (e : Ending) (w' : World) : Prop :=
  (match dt.splitF fs d [] with
  | some (ps, r) => ∃ v, e = .returned (.tuple #[v, .bool (decide (r.size = 0))]) ∧ w'.ownsRow w.heap.size 9 1 v ps.length (ps.map .string)
  | none => e = .returned (.tuple #[.slice none 0 0, .bool false])) ∧ Below w.heap.size w w'
theorem splitPost_no {fs : List Fld} {d : ByteArray} {w w' : World} (h : dt.splitF fs d [] = none) (hb : Below w.heap.size w w') : SplitPost fs d w (.returned (.tuple #[.slice none 0 0, .bool false])) w' := ⟨by rw [h], hb⟩
theorem splitPost_yes {fs : List Fld} {d : ByteArray} {w w' : World} {ps : List ByteArray} {r : ByteArray} {v : Value} {c : Bool} (h : dt.splitF fs d [] = some (ps, r)) (hc : c = decide (r.size = 0)) (hv : w'.ownsRow w.heap.size 9 1 v ps.length (ps.map .string)) (hb : Below w.heap.size w w') : SplitPost fs d w (.returned (.tuple #[v, .bool c])) w' := ⟨by rw [h]; exact ⟨v, by rw [hc], hv⟩, hb⟩

set_option maxRecDepth 100000 in
set_option maxHeartbeats 2000000 in
theorem split_any (fs : List Fld) (hfs : fs.length ≤ 100) (d : ByteArray) (hd : d.size ≤ 65535) (b : Nat) (w : World) (hc : FldRow w b fs) (hbw : b < w.heap.size) : Calls Try.prog 58 #[.slice (some ⟨b, 0, none⟩) fs.length fs.length, .string d] w fun e W' => SplitPost fs d w e W' := by
  obtain ⟨i0, hi, hz0, hz1, hz2⟩ := info_parts info_str
  have HI := Lib.hid hi; have HZ := Lib.hid hz0; have HZ1 := Lib.hid hz1; have HZ2 := Lib.hid hz2
  have HC := Lib.hid hc
  clear hi hz0 hz1 hz2 hc
  go_enter Try.func58, Try.ntmps58
  go_wp2
  go_loopw [12, 1, 6, 8, 9] (fun kv s v _ _ wr => ∃ (k : Nat) (r : ByteArray) (acc : List ByteArray), k ≤ fs.length ∧ kv = .int .i64 k ∧ s = .string r ∧ r.size ≤ 65535 ∧ acc.length = k ∧ dt.splitF fs d [] = dt.splitF (fs.drop k) r acc ∧ wr.ownsRow w.heap.size 9 1 v acc.length (acc.map .string) ∧ Below w.heap.size w wr) (fun kv _ _ _ _ _ => fs.length - (intOf kv).toNat)
  case atStart => exact ⟨0, d, [], by omega, rfl, rfl, hd, rfl, rfl, World.ownsRow_nil _ _ _ _, Below.refl _ _⟩
  case round =>
    obtain ⟨k, r, acc, hk, rfl, rfl, hr, hacc, he, hrow, hb⟩ := hrel
    have HA := Lib.hid hacc; have HE := Lib.hid he; have HR := Lib.hid hrow; have HB := Lib.hid hb
    clear hacc he hrow hb
    by_cases hlt : k < fs.length
    · have hcell : wr.cell? ⟨b, k, none⟩ = some (encF fs[k]) := (HB.out.cell (p := ⟨b, k, none⟩) hbw).trans (HC.out k hlt)
      have hst : dt.splitF fs d [] = dt.splitF (fs[k] :: fs.drop (k + 1)) r acc := by rw [HE.out, List.drop_eq_getElem_cons hlt]
      have hm := method_take fs[k]
      have hcf := call_take fs[k]
      have hle := dt.takeI_le fs[k] r
      by_cases hneg : dt.takeI fs[k] r < 0
      · rw [dt.splitF, if_pos hneg] at hst
        have HS := Lib.hid hst
        clear hst
        go_wp2_with fail
        refine (take_any _ _ hr _).mono ?_; rintro e w1 ⟨rfl, hB1⟩
        go_wp2_with fail
        go_ret2
        exact splitPost_no HS.out (HB.out.trans (hB1.mono HB.out.size))
      · rw [dt.splitF, if_neg hneg] at hst
        have hpos : 0 ≤ dt.takeI fs[k] r := by omega
        have HS := Lib.hid hst
        clear hst hneg
        have q1 : acc.length + 1 ≤ maxLen := by have := HA.out; simp only [maxLen]; omega
        have q2 : (acc.length + 1) * 16 ≤ 140737488355328 := by have := HA.out; omega
        have Q1 := Lib.hid q1; have Q2 := Lib.hid q2
        clear q1 q2
        go_wp2_with fail
        refine (take_any _ _ hr _).mono ?_; rintro e w1 ⟨rfl, hB1⟩
        have hR1 := ownsRow_below HR.out hB1
        have HR1 := Lib.hid hR1
        have HB1 := Lib.hid (HB.out.trans (hB1.mono HB.out.size))
        clear hR1
        go_wp2_with (at_builtin; refine wpList_append_own _ rfl _ _ 23 rfl w.heap.size 9 i0 (.string ByteArray.empty) 1 16 Try.underlying23 HI.out HZ.out HZ1.out HZ2.out rfl (by decide) _ _ _ rfl (HR1.out.alloc _) ⟨w1.heap.size, 0, none⟩ 1 1 [.string (r.extract 0 (dt.takeI fs[k] r).toNat)] rfl rfl (cell_one_new _ _ _) (by simp [Value.oneCell']) Q1.out Q2.out (by have := HB1.out.size; simp; omega) ?_; intro v' w2 hown' hgrow _; have HO := Lib.hid hown'; have HG := Lib.hid hgrow; clear hown' hgrow)
        go_roundw
        case rel =>
          refine ⟨k + 1, _, acc ++ [r.extract 0 (dt.takeI fs[k] r).toNat], by omega, by go_num, rfl, ?_, by rw [List.length_append, HA.out]; rfl, HS.out, ?_, ?_⟩
          · rw [ByteArray.size_extract]; omega
          · have h := HO.out
            simpa using h
          · exact (HB1.out.alloc HB1.out.size _).grown HG.out (by have := HB1.out.size; simp; omega) (fun j ej => ownsRow_block HR1.out ej)
        case measure => simp [intOf]; omega
    · have hke : k = fs.length := by omega
      have hst : dt.splitF fs d [] = some (acc, r) := by rw [HE.out, hke, List.drop_length, dt.splitF]
      have HS := Lib.hid hst
      clear hst hke
      by_cases h0 : r.size = 0
      · have b0 := str_empty h0
        have hc : true = decide (r.size = 0) := by rw [decide_eq_true h0]
        have HC2 := Lib.hid hc
        clear h0 hc
        go_wp2_with fail
        go_ret2
        exact splitPost_yes HS.out HC2.out HR.out HB.out
      · have b0 := str_some h0
        have hc : false = decide (r.size = 0) := by rw [decide_eq_false h0]
        have HC2 := Lib.hid hc
        clear h0 hc
        go_wp2_with fail
        go_ret2
        exact splitPost_yes HS.out HC2.out HR.out HB.out
end Go.Proofs.Ytnloommafgnanaa
/-
  data.holds, data.Check.
-/
namespace Go.Proofs.Ytnloommafgnanaa
open Go.RowKit Go.Shelf Go.Proofs.Ytnloommafgnanaa.nm
open dt (Fld)

namespace dt
def holdsB (t : Int) : Bool := decide (1 ≤ t) && decide (t ≤ 65535) && decide (t ≠ 41) && (decide (t < 128) || decide (255 < t))
/-- Are the data those of a form? -/
def fits (t : Int) (d : ByteArray) : Bool := match formF t with
  | none => true
  | some fs => match splitF fs d [] with
    | some (_, r) => decide (r.size = 0)
    | none => false
/-- data.Check. -/
def chkI (t : Int) (d : ByteArray) : Int := if holdsB t = true then (if 65535 < d.size then 7 else if fits t d = true then 0 else 7) else 6
theorem form_len (t : Int) (fs : List Fld) (h : formF t = some fs) : fs.length ≤ 100 := by
  unfold formF at h
  by_cases h1 : t = 1
  · rw [if_pos h1] at h; cases h; decide
  rw [if_neg h1] at h
  by_cases h2 : t = 2
  · rw [if_pos h2] at h; cases h; decide
  rw [if_neg h2] at h
  by_cases h5 : t = 5
  · rw [if_pos h5] at h; cases h; decide
  rw [if_neg h5] at h
  by_cases h6 : t = 6
  · rw [if_pos h6] at h; cases h; decide
  rw [if_neg h6] at h
  by_cases h12 : t = 12
  · rw [if_pos h12] at h; cases h; decide
  rw [if_neg h12] at h
  by_cases h13 : t = 13
  · rw [if_pos h13] at h; cases h; decide
  rw [if_neg h13] at h
  by_cases h15 : t = 15
  · rw [if_pos h15] at h; cases h; decide
  rw [if_neg h15] at h
  by_cases h16 : t = 16
  · rw [if_pos h16] at h; cases h; decide
  rw [if_neg h16] at h
  by_cases h28 : t = 28
  · rw [if_pos h28] at h; cases h; decide
  rw [if_neg h28] at h
  by_cases h33 : t = 33
  · rw [if_pos h33] at h; cases h; decide
  rw [if_neg h33] at h
  by_cases h35 : t = 35
  · rw [if_pos h35] at h; cases h; decide
  rw [if_neg h35] at h
  by_cases h39 : t = 39
  · rw [if_pos h39] at h; cases h; decide
  rw [if_neg h39] at h
  by_cases h43 : t = 43
  · rw [if_pos h43] at h; cases h; decide
  rw [if_neg h43] at h
  by_cases h46 : t = 46
  · rw [if_pos h46] at h; cases h; decide
  rw [if_neg h46] at h
  by_cases h47 : t = 47
  · rw [if_pos h47] at h; cases h; decide
  rw [if_neg h47] at h
  by_cases h48 : t = 48
  · rw [if_pos h48] at h; cases h; decide
  rw [if_neg h48] at h
  by_cases h50 : t = 50
  · rw [if_pos h50] at h; cases h; decide
  rw [if_neg h50] at h
  by_cases h51 : t = 51
  · rw [if_pos h51] at h; cases h; decide
  rw [if_neg h51] at h
  by_cases h257 : t = 257
  · rw [if_pos h257] at h; cases h; decide
  rw [if_neg h257] at h
  cases h
end dt

theorem ret_b {a b : Bool} (h : a = b) : Ending.returned (.bool a) = .returned (.bool b) := by rw [h]
theorem holds_any (t : Int) (w : World) : Calls Try.prog 61 #[.int .i64 t] w fun e W' => e = .returned (.bool (dt.holdsB t)) ∧ w = W' := by
  by_cases h1 : 1 ≤ t
  · by_cases h2 : t ≤ 65535
    · by_cases h3 : t = 41
      · subst h3
        go_enter Try.func61, Try.ntmps61
        go_wp2
        go_ret
        exact ⟨rfl, rfl⟩
      · have b3 : (t == 41) = false := by rw [beq_eq_false_iff_ne]; exact h3
        have b4 : (t != 41) = true := by rw [bne_iff_ne]; exact h3
        have hr : dt.holdsB t = (decide (t < 128) || decide (255 < t)) := by simp [dt.holdsB, h1, h2, h3]
        have HR := Lib.hid hr
        clear hr h3
        by_cases h4 : t < 128
        · go_enter Try.func61, Try.ntmps61
          go_wp2
          go_ret
          exact ⟨ret_b (by rw [HR.out]; simp [h4]), rfl⟩
        · by_cases h5 : 255 < t
          · go_enter Try.func61, Try.ntmps61
            go_wp2
            go_ret
            exact ⟨ret_b (by rw [HR.out]; simp; omega), rfl⟩
          · go_enter Try.func61, Try.ntmps61
            go_wp2
            go_ret
            exact ⟨ret_b (by rw [HR.out]; simp; omega), rfl⟩
    · have hr : dt.holdsB t = false := by simp [dt.holdsB, h2]
      have HR := Lib.hid hr
      clear hr
      go_enter Try.func61, Try.ntmps61
      go_wp2
      go_ret
      exact ⟨ret_b HR.out.symm, rfl⟩
  · have hr : dt.holdsB t = false := by simp [dt.holdsB, h1]
    have HR := Lib.hid hr
    clear hr
    go_enter Try.func61, Try.ntmps61
    go_wp2
    go_ret
    exact ⟨ret_b HR.out.symm, rfl⟩

theorem fldRow_new (w : World) (fs : List Fld) : FldRow (w.alloc (.cells (fs.map encF).toArray 98)) w.heap.size fs := by
  intro j hj
  rw [heap_cell (heap_new_at rfl)]
  simp [hj]

set_option maxHeartbeats 1000000 in
/-- data.Check. -/
theorem dcheck_any (t : Int) (d : ByteArray) (w : World) : Calls Try.prog 46 #[.int .i64 t, .string d] w fun e W' => e = .returned (.int .i64 (dt.chkI t d)) ∧ Below w.heap.size w W' := by
  cases hh : dt.holdsB t
  · have hr : dt.chkI t d = 6 := by unfold dt.chkI; rw [hh]; rfl
    have HR := Lib.hid hr; have HH := Lib.hid hh
    clear hr hh
    go_enter Try.func46, Try.ntmps46
    go_wp2_with (go_at_call 61; refine (holds_any _ _).mono ?_; rintro e w1 ⟨rfl, rfl⟩; rw [HH.out])
    go_ret
    exact ⟨ret_i HR.out.symm, Below.refl _ _⟩
  · by_cases hl : 65535 < d.size
    · have hr : dt.chkI t d = 7 := by unfold dt.chkI; rw [hh, if_pos rfl, if_pos hl]
      have hl' : (65535 : Int) < d.size := by omega
      have HR := Lib.hid hr; have HH := Lib.hid hh
      clear hr hh
      go_enter Try.func46, Try.ntmps46
      go_wp2_with (go_at_call 61; refine (holds_any _ _).mono ?_; rintro e w1 ⟨rfl, rfl⟩; rw [HH.out])
      go_ret
      exact ⟨ret_i HR.out.symm, Below.refl _ _⟩
    · have hr : dt.chkI t d = if dt.fits t d = true then 0 else 7 := by unfold dt.chkI; rw [hh, if_pos rfl, if_neg hl]
      have hl' : (d.size : Int) ≤ 65535 := by omega
      have hl2 : d.size ≤ 65535 := by omega
      cases hf : dt.formF t with
      | none =>
        have hft : dt.fits t d = true := by unfold dt.fits; rw [hf]
        rw [hft, if_pos rfl] at hr
        have HR := Lib.hid hr; have HH := Lib.hid hh; have HF := Lib.hid hf
        clear hr hh hf hft
        go_enter Try.func46, Try.ntmps46
        go_wp2_with (first | (go_at_call 61; refine (holds_any _ _).mono ?_; rintro e w1 ⟨rfl, rfl⟩; rw [HH.out]) | (go_at_call 57; refine (form_any _ _).mono ?_; rintro e w2 hp; unfold FormPost at hp; rw [HF.out] at hp; obtain ⟨rfl, rfl⟩ := hp))
        go_ret
        exact ⟨ret_i HR.out.symm, Below.refl _ _⟩
      | some fs =>
        have hlen := dt.form_len t fs hf
        have hft : dt.fits t d = match dt.splitF fs d [] with
          | some (_, r) => decide (r.size = 0)
          | none => false := by unfold dt.fits; rw [hf]
        have HR := Lib.hid hr; have HH := Lib.hid hh; have HF := Lib.hid hf
        clear hr hh hf
        cases hs : dt.splitF fs d [] with
        | none =>
          rw [hs] at hft
          have hft' : dt.fits t d = false := hft
          have HS := Lib.hid hs; have HT := Lib.hid hft'
          clear hs hft hft'
          go_enter Try.func46, Try.ntmps46
          go_wp2_with (first | (go_at_call 61; refine (holds_any _ _).mono ?_; rintro e w1 ⟨rfl, rfl⟩; rw [HH.out]) | (go_at_call 57; refine (form_any _ _).mono ?_; rintro e w2 hp; unfold FormPost at hp; rw [HF.out] at hp; obtain ⟨rfl, rfl⟩ := hp))
          refine (split_any fs hlen d hl2 w.heap.size _ (fldRow_new w fs) (by simp)).mono ?_
          rintro e w3 ⟨hp, hB3⟩
          rw [HS.out] at hp
          obtain rfl := hp
          go_wp2_with fail
          go_ret
          exact ⟨ret_i (by rw [HR.out, HT.out]; rfl), ((Below.refl _ w).alloc (Nat.le_refl _) _).trans (hB3.mono (by simp))⟩
        | some pr =>
          obtain ⟨ps, r⟩ := pr
          rw [hs] at hft
          have hft' : dt.fits t d = decide (r.size = 0) := hft
          have HS := Lib.hid hs; have HT := Lib.hid hft'
          clear hs hft hft'
          by_cases h0 : r.size = 0
          · have hd0 : decide (r.size = 0) = true := by rw [decide_eq_true h0]
            have HD := Lib.hid hd0
            clear h0 hd0
            go_enter Try.func46, Try.ntmps46
            go_wp2_with (first | (go_at_call 61; refine (holds_any _ _).mono ?_; rintro e w1 ⟨rfl, rfl⟩; rw [HH.out]) | (go_at_call 57; refine (form_any _ _).mono ?_; rintro e w2 hp; unfold FormPost at hp; rw [HF.out] at hp; obtain ⟨rfl, rfl⟩ := hp))
            refine (split_any fs hlen d hl2 w.heap.size _ (fldRow_new w fs) (by simp)).mono ?_
            rintro e w3 ⟨hp, hB3⟩
            rw [HS.out] at hp
            obtain ⟨v, rfl, hv⟩ := hp
            rw [HD.out]
            clear hv
            go_wp2_with fail
            go_ret
            exact ⟨ret_i (by rw [HR.out, HT.out, HD.out]; rfl), ((Below.refl _ w).alloc (Nat.le_refl _) _).trans (hB3.mono (by simp))⟩
          · have hd0 : decide (r.size = 0) = false := by rw [decide_eq_false h0]
            have HD := Lib.hid hd0
            clear h0 hd0
            go_enter Try.func46, Try.ntmps46
            go_wp2_with (first | (go_at_call 61; refine (holds_any _ _).mono ?_; rintro e w1 ⟨rfl, rfl⟩; rw [HH.out]) | (go_at_call 57; refine (form_any _ _).mono ?_; rintro e w2 hp; unfold FormPost at hp; rw [HF.out] at hp; obtain ⟨rfl, rfl⟩ := hp))
            refine (split_any fs hlen d hl2 w.heap.size _ (fldRow_new w fs) (by simp)).mono ?_
            rintro e w3 ⟨hp, hB3⟩
            rw [HS.out] at hp
            obtain ⟨v, rfl, hv⟩ := hp
            rw [HD.out]
            clear hv
            go_wp2_with fail
            go_ret
            exact ⟨ret_i (by rw [HR.out, HT.out, HD.out]; rfl), ((Below.refl _ w).alloc (Nat.le_refl _) _).trans (hB3.mono (by simp))⟩
end Go.Proofs.Ytnloommafgnanaa
/-
  strings.Builder: WriteString, String, and strings.Clone, over the library's words for a builder.
-/
namespace Go.Proofs.Ytnloommafgnanaa
open Go.RowKit Go.Shelf

end Go.Proofs.Ytnloommafgnanaa
/-
  data.Fold.
-/
namespace Go.Proofs.Ytnloommafgnanaa
open Go.RowKit Go.Shelf Go.Proofs.Ytnloommafgnanaa.nm
open dt (Fld)

namespace dt
/-- A part with its name folded, if it is one. -/
def foldPart : Fld → ByteArray → ByteArray
  | .host, p => foldS p
  | _, p => p
def foldParts : List Fld → List ByteArray → List UInt8
  | f :: fs, p :: ps => (foldPart f p).data.toList ++ foldParts fs ps
  | _, _ => []
/-- data.Fold. -/
def foldD (t : Int) (d : ByteArray) : ByteArray := if chkI t d = 0 then (match formF t with
  | none => d
  | some fs => match splitF fs d [] with
    | some (ps, _) => ⟨(foldParts fs ps).toArray⟩
    | none => ByteArray.empty) else ByteArray.empty
end dt

theorem ret_s {a b : ByteArray} (h : a = b) : Ending.returned (.string a) = .returned (.string b) := by rw [h]
end Go.Proofs.Ytnloommafgnanaa

import Derived.Test.YtdjjemajfphjaaaGreatQRCon
import Derived.Test.YtdjjemajfphjaaaGreatQWirB
import Derived.Test.YtdjjemajfphjaaaGreatQUpdE
import Derived.Test.YtdjjemajfphjaaaGreatQUpdU
import Derived.Test.YtdjjemajfphjaaaGreatQUpdG
import Derived.Test.YtdjjemajfphjaaaGreatQSerial
import Derived.Deep.CutBlock
import Derived.Deep.RegionHeld3
namespace Go.Proofs.YtdjjemajfphjaaaGreat
open Go.RowKit Go.Shelf Go.Proofs.YtdjjemajfphjaaaGreat.nm Go.Proofs.YtdjjemajfphjaaaGreat.od
namespace up
def askedB (qs : List Qn) : Bool := match qs with
  | [q] => decide (q.typ = 6) && decide (q.cls = 1)
  | _ => false
def authB (apex : ByteArray) (qs : List Qn) : Bool := match qs with
  | [q] => equalB q.name apex
  | _ => false
def headB (h : Hd) (qs : List Qn) (an au ad : List Rec) : Bool := !h.resp && wi.msgB h qs an au ad && decide (h.op = 5)
def checkI (apex : ByteArray) (L : List Rec) (h : Hd) (qs : List Qn) (an au ad : List Rec) : Int :=
  if headB h qs an au ad = false then 1
  else if askedB qs = false then 1
  else if authB apex qs = false then 9
  else if condsI apex L an ≠ 0 then condsI apex L an
  else firstI (chgI apex) au
section
variable {apex : ByteArray} {L : List Rec} {h : Hd} {qs : List Qn} {an au ad : List Rec}
theorem chk_a (h1 : headB h qs an au ad = false) : checkI apex L h qs an au ad = 1 := by unfold checkI; rw [if_pos h1]
theorem chk_b (h2 : askedB qs = false) : checkI apex L h qs an au ad = 1 := by
  unfold checkI
  split
  · rfl
  · first | rw [if_pos h2] | rfl
theorem chk_c (h1 : headB h qs an au ad = true) (h2 : askedB qs = true) (h3 : authB apex qs = false) : checkI apex L h qs an au ad = 9 := by
  unfold checkI; rw [if_neg (by rw [h1]; simp), if_neg (by rw [h2]; simp), if_pos h3]
theorem chk_d (h1 : headB h qs an au ad = true) (h2 : askedB qs = true) (h3 : authB apex qs = true) : checkI apex L h qs an au ad = if condsI apex L an ≠ 0 then condsI apex L an else firstI (chgI apex) au := by
  unfold checkI; rw [if_neg (by rw [h1]; simp), if_neg (by rw [h2]; simp), if_neg (by rw [h3]; simp)]
theorem head_parts (h1 : headB h qs an au ad = true) : h.resp = false ∧ wi.msgB h qs an au ad = true ∧ h.op = 5 := by
  unfold headB at h1
  simp only [Bool.and_eq_true, Bool.not_eq_true', decide_eq_true_eq] at h1
  exact ⟨h1.1.1, h1.1.2, h1.2⟩
theorem msg_names (h1 : wi.msgB h qs an au ad = true) : (∀ x ∈ an, checkB x.owner = true) ∧ ∀ x ∈ au, checkB x.owner = true := by
  unfold wi.msgB at h1
  simp only [Bool.and_eq_true] at h1
  have hr : ∀ x : Rec, wi.rightB x = true → checkB x.owner = true := fun x hx => by
    unfold wi.rightB at hx
    simp only [Bool.and_eq_true] at hx
    exact hx.1.1.1.1
  exact ⟨fun x hx => hr x (List.all_eq_true.1 h1.1.1.2 x hx), fun x hx => hr x (List.all_eq_true.1 h1.1.2 x hx)⟩
end
theorem pair_same {L l : List Rec} {κ : Key} : sameM (wset l κ) (hset L κ) (fun _ => 1) (fun _ => 1) = pairB L l κ := by
  unfold sameM pairB
  rw [decide_eq_decide]
  exact ⟨fun h => ⟨h.1, fun a ha => (h.2 a ha).1⟩, fun h => ⟨h.1, fun a ha => ⟨h.2 a ha, rfl⟩⟩⟩
theorem fold_fold (s : ByteArray) : foldS (foldS s) = foldS s := by
  cases hc : checkB s
  · have h : foldS s = ByteArray.empty := by unfold foldS; rw [if_neg (by rw [hc]; simp)]
    rw [h]; decide
  · obtain ⟨ls, hl⟩ := rows_check hc
    rw [foldS_row (rows_fold hl), foldS_row hl, lowR_lowR]
theorem chk_size {t : Int} {d : ByteArray} (h : dt.chkI t d = 0) : d.size ≤ 65535 := by
  unfold dt.chkI at h
  split at h
  · split at h
    · cases h
    · omega
  · cases h
theorem wf_small {v : Int} (h1 : 0 ≤ v) (h2 : v ≤ 4294967295) : (Lit.int .i64 v).wf = true := by
  simp [Lit.wf, IntKind.min, IntKind.max, IntKind.signed, IntKind.bits]
  omega
theorem right_ok {x : Rec} (h : wi.rightB x = true) : RecOk x := by
  unfold wi.rightB at h
  simp only [Bool.and_eq_true] at h
  obtain ⟨⟨⟨⟨h1, h2⟩, h3⟩, h4⟩, h5⟩ := h
  have i2 := wi.in_t h2
  have i3 := wi.in_t h3
  have i4 := wi.in_t h4
  have hs := checkB_size h1
  refine ⟨by unfold maxLen; omega, wf_small i2.1 (by omega), wf_small i3.1 (by omega), wf_small i4.1 (by omega), ?_⟩
  have hd : x.data.size ≤ 65535 := by
    split at h5
    · exact of_decide_eq_true h5
    · rw [Bool.or_eq_true] at h5
      rcases h5 with h | h
      · unfold wi.emptyB at h
        simp only [Bool.and_eq_true, decide_eq_true_eq] at h
        omega
      · exact chk_size (of_decide_eq_true h)
  unfold maxLen; omega
theorem msg_ok {h : Hd} {qs : List Qn} {an au ad : List Rec} (h1 : wi.msgB h qs an au ad = true) : (∀ r ∈ an, RecOk r) ∧ ∀ r ∈ au, RecOk r := by
  unfold wi.msgB at h1
  simp only [Bool.and_eq_true] at h1
  exact ⟨fun x hx => right_ok (List.all_eq_true.1 h1.1.1.2 x hx), fun x hx => right_ok (List.all_eq_true.1 h1.1.2 x hx)⟩
theorem valid_ok {apex : ByteArray} {L : List Rec} (hv : zn.Valid apex L) : ∀ r ∈ L, RecOk r := fun r hr => by
  have h := hv.each r hr
  have ht := zn.type_of h.2.1
  have h2 := h.2.1
  unfold zn.bad1 at h2
  simp only [Bool.not_eq_false', Bool.and_eq_true, decide_eq_true_eq] at h2
  have hs := checkB_size h.1
  have hd := chk_size h2.2
  exact ⟨by unfold maxLen; omega, wf_small (by omega) (by omega), wf_small (by omega) (by omega), wf_small (by omega) (by omega), by unfold maxLen; omega⟩
end up
end Go.Proofs.YtdjjemajfphjaaaGreat
namespace Go.Proofs.YtdjjemajfphjaaaGreat
open Go.RowKit Go.Shelf Go.Proofs.YtdjjemajfphjaaaGreat.nm Go.Proofs.YtdjjemajfphjaaaGreat.od
theorem ofInt_u32 (a : Nat) (ha : a < 4294967296) : (BitVec.ofInt 32 (a : Int)).toNat = a := by
  rw [BitVec.ofInt_natCast, BitVec.toNat_ofNat]; exact Nat.mod_eq_of_lt (by omega)
theorem or_byte32 (v b : Nat) (hv : v < 16777216) (hb : b < 256) : bits BinOp.or IntKind.u32 ((v : Int) * 256) (b : Int) = ((v * 256 + b : Nat) : Int) := by
  have h1 : ((v : Int) * 256) = ((v * 256 : Nat) : Int) := by omega
  rw [h1]
  show IntKind.u32.wrap ((BitVec.ofInt 32 ((v * 256 : Nat) : Int) ||| BitVec.ofInt 32 (b : Int)).toNat : Int) = _
  have h2 : v * 256 ||| b = v * 256 + b := by
    have := Nat.two_pow_add_eq_or_of_lt (i := 8) (b := b) (by omega) v
    rw [show (2 : Nat) ^ 8 = 256 from rfl, Nat.mul_comm] at this
    exact this.symm
  rw [BitVec.toNat_or, ofInt_u32 _ (by omega), ofInt_u32 _ (by omega), h2]
  rw [IntKind.wrap_u32]
  omega
set_option maxRecDepth 100000 in
set_option maxHeartbeats 2000000 in
theorem userial_any (d : ByteArray) (hd1 : 20 ≤ d.size) (hd2 : d.size ≤ 1099511627776) (w : World) :
    Calls Tryz.prog 85 #[.string d] w fun e w' => e = .returned (.int .u32 (up.numS d)) ∧ Below w.heap.size w w' := by
  obtain ⟨x, hx⟩ : ∃ x : ByteArray, x = d.extract (d.size - 20) (d.size - 16) := ⟨_, rfl⟩
  have hxs : x.size = 4 := by rw [hx, ByteArray.size_extract]; omega
  obtain ⟨w1, cap2, hcv, hsz, hB, hc⟩ := bytes_new (P := Tryz.prog) w 9 108 5 x Tryz.underlying9 Tryz.underlying108 Tryz.underlying5
  rw [hx] at hcv
  have hr : up.numS d = (dt.valN x 4 : Nat) := by unfold up.numS; rw [← hx, hxs]
  rw [hxs] at hc
  have hxe : (d.extract (d.size - 20) (d.size - 16)).size = 4 := by rw [← hx]; exact hxs
  rw [hxe] at hcv
  have HR := Lib.hid hr; have HB := Lib.hid hB; have HC := Lib.hid hc; have HXS := Lib.hid hxs
  clear hr hB hc hx hxs hxe hsz
  go_enter Tryz.func85, Tryz.ntmps85
  go_wp2_with fail
  clear hcv hd1 hd2
  go_loopw [16, 3, 5] (fun kv vv _ wr => ∃ k : Nat, k ≤ 4 ∧ kv = .int .i64 (k : Int) ∧ vv = .int .u32 (dt.valN x k : Nat) ∧ wr = w1) (fun kv _ _ _ => 4 - (intOf kv).toNat)
  case atStart => exact ⟨0, by omega, rfl, rfl, rfl⟩
  case round =>
    obtain ⟨k, hk, rfl, rfl, rfl⟩ := hrel
    by_cases hlt : k < 4
    · have c0 := (HC.out k hlt).1
      obtain ⟨b, hb⟩ : ∃ b, b = byteAt x k := ⟨_, rfl⟩
      have hv : dt.valN x k < 256 ^ 3 := Nat.lt_of_lt_of_le (dt.valN_lt x k) (Nat.pow_le_pow_right (by omega) (by omega))
      have hv2 : dt.valN x k < 16777216 := Nat.lt_of_lt_of_le hv (by decide)
      have hv3 : (dt.valN x k : Int) < 16777216 := by omega
      rw [← hb] at c0
      have h256 : (b.toNat : Int) < 256 := by have := UInt8.toNat_lt b; omega
      have hor := or_byte32 (dt.valN x k) b.toNat hv2 (UInt8.toNat_lt _)
      have hnx : (((dt.valN x k * 256 + b.toNat : Nat)) : Int) = (dt.valN x (k + 1) : Nat) := by rw [hb]; rfl
      rw [hnx] at hor
      have HOR := Lib.hid hor
      have HV2 := Lib.hid hv2
      have hlt' : (k : Int) < 4 := by omega
      have HLT := Lib.hid hlt
      clear hor hnx hv hb hv2 hk hlt
      go_wp2_with fail
      go_roundw
      case rel => exact ⟨k + 1, by omega, by go_num, by rw [HOR.out], trivial⟩
      case measure => simp [intOf]; omega
    · obtain rfl : k = 4 := by omega
      go_wp2_with fail
      go_ret
      exact ⟨by rw [HR.out]; rfl, HB.out⟩
end Go.Proofs.YtdjjemajfphjaaaGreat
namespace Go.Proofs.YtdjjemajfphjaaaGreat
open Go.RowKit Go.Shelf Go.Proofs.YtdjjemajfphjaaaGreat.nm Go.Proofs.YtdjjemajfphjaaaGreat.od
namespace up
def ser2 (x : Rec) : Int := if x.typ = 6 then numS x.data else 0
end up
set_option maxRecDepth 100000 in
set_option maxHeartbeats 2000000 in
theorem serial2_any (x : Rec) (hx : x.typ = 6 → 20 ≤ x.data.size ∧ x.data.size ≤ 1099511627776) (w : World) :
    Calls Tryz.prog 46 #[recV x] w fun e w' => e = .returned (.int .u32 (up.ser2 x)) ∧ Below w.heap.size w w' := by
  obtain ⟨wa, hwa⟩ : ∃ W, W = w.alloc (.cells (recC x).toArray 51) := ⟨_, rfl⟩
  obtain ⟨hBa, hsa, hxa⟩ := rec_new w wa x hwa
  obtain ⟨bx, hbx⟩ : ∃ b, b = w.heap.size := ⟨_, rfl⟩
  rw [← hbx] at hxa
  obtain ⟨x0, x1, x2, x3, x4⟩ := id hxa
  have HWA := Lib.hid hwa; have HBX := Lib.hid hbx; have HBA := Lib.hid hBa; have HX := Lib.hid hx
  clear hwa hbx hxa hBa hsa hx
  go_enter Tryz.func46, Tryz.ntmps46
  go_upto_region 1 with fail
  rw [← HWA.out, ← HBX.out]
  by_cases k6 : x.typ = 6
  · have d6 : (x.typ != 6) = false := by rw [bne_eq_false_iff_eq]; exact k6
    have HS := Lib.hid (show up.ser2 x = up.numS x.data by unfold up.ser2; rw [if_pos k6])
    obtain ⟨h1, h2⟩ := HX.out k6
    clear k6
    go_wp2_with fail
    refine (userial_any x.data h1 h2 wa).mono ?_
    rintro e w1 ⟨rfl, hB1⟩
    have HB1 := Lib.hid (HBA.out.trans (hB1.mono HBA.out.size))
    clear hB1 h1 h2
    go_wp2_with fail
    go_ret
    exact ⟨by rw [HS.out]; rfl, HB1.out⟩
  · have d6 : (x.typ != 6) = true := by rw [bne_iff_ne]; exact k6
    have HS := Lib.hid (show up.ser2 x = 0 by unfold up.ser2; rw [if_neg k6])
    clear k6
    go_wp2_with fail
    go_ret
    exact ⟨by rw [HS.out]; rfl, HBA.out⟩
set_option maxRecDepth 100000 in
set_option maxHeartbeats 4000000 in
theorem withSerial_any (d : ByteArray) (hd1 : 20 ≤ d.size) (hd2 : d.size ≤ 1099511627776) (v : Nat) (hv : v < 4294967296) (w : World) :
    Calls Tryz.prog 47 #[.string d, .int .u32 (v : Int)] w fun e w' => e = .returned (.string (up.withS d v)) ∧ Below w.heap.size w w' := by
  have hv1 : (v : Int) < 4294967296 := by omega
  have hcv : (convert 108 9 (.slice (some ⟨w.heap.size, 0, none⟩) 4 4)).run Tryz.prog (w.alloc (.cells #[.int .u8 ((v : Int) / 16777216), .int .u8 ((v : Int) / 65536 % 256), .int .u8 ((v : Int) / 256 % 256), .int .u8 ((v : Int) % 256)] 5)).drew = .ok (.string ⟨[UInt8.ofNat (v / 16777216), UInt8.ofNat (v / 65536), UInt8.ofNat (v / 256), UInt8.ofNat v].toArray⟩) (w.alloc (.cells #[.int .u8 ((v : Int) / 16777216), .int .u8 ((v : Int) / 65536 % 256), .int .u8 ((v : Int) / 256 % 256), .int .u8 ((v : Int) % 256)] 5)).drew := by
    refine run_convert_bytes_back (P := Tryz.prog) _ 108 9 5 ⟨w.heap.size, 0, none⟩ 4 [UInt8.ofNat (v / 16777216), UInt8.ofNat (v / 65536), UInt8.ofNat (v / 256), UInt8.ofNat v] Tryz.underlying108 Tryz.underlying5 Tryz.underlying9 (fun j hj => ?_)
    have h0 : (w.alloc (.cells #[.int .u8 ((v : Int) / 16777216), .int .u8 ((v : Int) / 65536 % 256), .int .u8 ((v : Int) / 256 % 256), .int .u8 ((v : Int) % 256)] 5)).drew.heap[w.heap.size]? = some (.cells #[.int .u8 ((v : Int) / 16777216), .int .u8 ((v : Int) / 65536 % 256), .int .u8 ((v : Int) / 256 % 256), .int .u8 ((v : Int) % 256)] 5 (0, 0)) := heap_new_at (w := w) rfl
    have hj4 : j < 4 := hj
    have hc : ∀ n : Nat, ((UInt8.ofNat n).toNat : Int) = ((n % 256 : Nat) : Int) := fun n => by rw [UInt8.toNat_ofNat']
    have hjj : j = 0 ∨ j = 1 ∨ j = 2 ∨ j = 3 := by omega
    rcases hjj with rfl | rfl | rfl | rfl
    · rw [show (⟨w.heap.size, 0, none⟩ : Addr).add 0 = ⟨w.heap.size, 0, none⟩ from rfl, heap_cell h0]
      simp only [List.getElem_cons_zero, hc]
      have : ((v / 16777216 % 256 : Nat) : Int) = (v : Int) / 16777216 := by omega
      rw [this]; rfl
    · rw [show (⟨w.heap.size, 0, none⟩ : Addr).add 1 = ⟨w.heap.size, 1, none⟩ from rfl, heap_cell h0]
      simp only [List.getElem_cons_succ, List.getElem_cons_zero, hc]
      have : ((v / 65536 % 256 : Nat) : Int) = (v : Int) / 65536 % 256 := by omega
      rw [this]; rfl
    · rw [show (⟨w.heap.size, 0, none⟩ : Addr).add 2 = ⟨w.heap.size, 2, none⟩ from rfl, heap_cell h0]
      simp only [List.getElem_cons_succ, List.getElem_cons_zero, hc]
      have : ((v / 256 % 256 : Nat) : Int) = (v : Int) / 256 % 256 := by omega
      rw [this]; rfl
    · rw [show (⟨w.heap.size, 0, none⟩ : Addr).add 3 = ⟨w.heap.size, 3, none⟩ from rfl, heap_cell h0]
      simp only [List.getElem_cons_succ, List.getElem_cons_zero, hc]
      have : ((v % 256 : Nat) : Int) = (v : Int) % 256 := by omega
      rw [this]; rfl
  go_enter Tryz.func47, Tryz.ntmps47
  go_upto_region 2 with fail
  have hB := (((Below.refl w.heap.size w).alloc (Nat.le_refl _) (.cells #[.int .u8 ((v : Int) / 16777216), .int .u8 ((v : Int) / 65536 % 256), .int .u8 ((v : Int) / 256 % 256), .int .u8 ((v : Int) % 256)] 5)).trans (Below.refl _ _).drew)
  have hres : up.withS d v = d.extract 0 (d.size - 20) ++ ⟨#[UInt8.ofNat (v / 16777216), UInt8.ofNat (v / 65536), UInt8.ofNat (v / 256), UInt8.ofNat v]⟩ ++ d.extract (d.size - 20 + 4) d.size := by
    unfold up.withS
    rw [show d.size - 20 + 4 = d.size - 16 by omega]
  have HB := Lib.hid hB; have HRES := Lib.hid hres
  clear hB hres
  go_region
  clear hcv
  go_wp2_with fail
  go_ret
  exact ⟨by rw [HRES.out]; rfl, HB.out⟩
end Go.Proofs.YtdjjemajfphjaaaGreat
namespace Go.Proofs.YtdjjemajfphjaaaGreat
open Go.RowKit Go.Shelf Go.WideMaps Go.Proofs.YtdjjemajfphjaaaGreat.nm Go.Proofs.YtdjjemajfphjaaaGreat.od
namespace up
open zn (rowsS keyR fullR alikeB rthereB)
def RecIn (y : Rec) : Prop := checkB y.owner = true ∧ RecOk y ∧ (y.typ = 6 → 20 ≤ y.data.size ∧ y.data.size ≤ 65535)
theorem add_in {apex : ByteArray} {l : List Rec} {x : Rec} (hx : RecIn x) (hl : ∀ y ∈ l, RecIn y) : ∀ y ∈ addL apex l x, RecIn y := by
  intro y hy
  unfold addL at hy
  split at hy
  · obtain ⟨r, hr, rfl⟩ := List.mem_map.1 hy
    split
    · exact hx
    · exact hl r hr
  · split at hy
    · exact hl y hy
    · rcases List.mem_append.1 hy with h | h
      · obtain ⟨r, hr, rfl⟩ := List.mem_map.1 h
        obtain ⟨h1, ⟨k1, k2, k3, k4, k5⟩, h3⟩ := hl r (List.mem_filter.1 hr).1
        split
        · exact ⟨h1, ⟨k1, k2, k3, hx.2.1.2.2.2.1, k5⟩, h3⟩
        · exact ⟨h1, ⟨k1, k2, k3, k4, k5⟩, h3⟩
      · rw [List.mem_singleton.1 h]; exact hx
theorem change_in {apex : ByteArray} {l : List Rec} {x : Rec} (hx : x.cls = 1 → RecIn x) (hl : ∀ y ∈ l, RecIn y) : ∀ y ∈ changeL apex l x, RecIn y := by
  unfold changeL
  split
  · rename_i h
    exact add_in (hx h) hl
  · split
    · intro y hy; exact hl y (List.mem_filter.1 hy).1
    · unfold takeL
      split
      · exact hl
      · intro y hy; exact hl y (List.mem_filter.1 hy).1
theorem changes_in {apex : ByteArray} {l : List Rec} (hl : ∀ y ∈ l, RecIn y) {c : List Rec} (hc : ∀ x ∈ c, x.cls = 1 → RecIn x) : ∀ y ∈ changesL apex l c, RecIn y := by
  induction c generalizing l with
  | nil => exact hl
  | cons x t ih => exact ih (change_in (hc x (List.mem_cons_self ..)) hl) fun y hy => hc y (List.mem_cons_of_mem _ hy)
theorem valid_in {apex : ByteArray} {L : List Rec} (hv : zn.Valid apex L) (hok : ∀ r ∈ L, RecOk r) : ∀ y ∈ L, RecIn y := fun y hy => by
  have h := hv.each y hy
  refine ⟨h.1, hok y hy, fun h6 => ?_⟩
  have h2 := h.2.1
  unfold zn.bad1 at h2
  simp only [Bool.not_eq_false', Bool.and_eq_true, decide_eq_true_eq] at h2
  have h3 := h2.2
  rw [h6] at h3
  exact dt.soa_size h3
theorem right_in {x : Rec} (h : wi.rightB x = true) (hok : RecOk x) (hc : x.cls = 1) : RecIn x := by
  unfold wi.rightB at h
  simp only [Bool.and_eq_true] at h
  refine ⟨h.1.1.1.1, hok, fun h6 => ?_⟩
  have h2 := h.2
  rw [if_neg (by omega)] at h2
  have he : wi.emptyB x = false := by unfold wi.emptyB; simp [hc]
  rw [he, Bool.false_or, decide_eq_true_eq, h6] at h2
  exact dt.soa_size h2
theorem msg_in {h : Hd} {qs : List Qn} {an au ad : List Rec} (h1 : wi.msgB h qs an au ad = true) (hok : ∀ r ∈ au, RecOk r) : ∀ x ∈ au, x.cls = 1 → RecIn x := by
  unfold wi.msgB at h1
  simp only [Bool.and_eq_true] at h1
  exact fun x hx hc => right_in (List.all_eq_true.1 h1.1.2 x hx) (hok x hx) hc
theorem bag_perm (L l : List Rec) : sameM (bagD L) (bagD l) (fun a => ((L.count a : Nat) : Int)) (fun a => ((l.count a : Nat) : Int)) = decide (L.Perm l) := by
  unfold sameM
  rw [decide_eq_decide]
  constructor
  · rintro ⟨h1, h2⟩
    have hs := (same_sets (coll_nodup _ _ L) (coll_nodup _ _ l)).1 ⟨h1, fun a ha => (h2 a ha).1⟩
    rw [List.perm_iff_count]
    intro a
    by_cases ha : a ∈ bagD L
    · have h5 : ((L.count a : Nat) : Int) = ((l.count a : Nat) : Int) := (h2 a ha).2
      omega
    · have h3 : a ∉ L := fun h => ha (mem_bagD.2 h)
      have h4 : a ∉ l := fun h => ha ((hs a).2 (mem_bagD.2 h))
      rw [List.count_eq_zero_of_not_mem h3, List.count_eq_zero_of_not_mem h4]
  · intro h
    have hs := (same_sets (coll_nodup (fun _ => true) id L) (coll_nodup (fun _ => true) id l)).2 fun a => (mem_bagD.trans h.mem_iff).trans mem_bagD.symm
    exact ⟨hs.1, fun a ha => ⟨hs.2 a ha, by show ((L.count a : Nat) : Int) = ((l.count a : Nat) : Int); rw [h.count_eq]⟩⟩
def bumpX (ser : Int) (x : Rec) : Rec := if x.typ = 6 ∧ numS x.data = ser then { x with data := withS x.data (nextS (numS x.data)).toNat } else x
theorem num_nat {d : ByteArray} (h : 20 ≤ d.size) : ∃ n : Nat, numS d = (n : Int) ∧ n < 4294967296 := by
  refine ⟨_, rfl, ?_⟩
  have hs : (d.extract (d.size - 20) (d.size - 16)).size = 4 := by rw [ByteArray.size_extract]; omega
  rw [hs]
  exact Nat.lt_of_lt_of_le (dt.valN_lt _ 4) (by decide)
def serL (apex : ByteArray) (L : List Rec) : Int := match rowsS L (foldS apex, 6) with
  | r :: _ => zn.serialD r.data
  | [] => 0
def outL (apex : ByteArray) (L au : List Rec) : List Rec := bumpL L (changesL apex L au) (serL apex L)
theorem out_same {apex : ByteArray} {L au : List Rec} (h : (changesL apex L au).Perm L) : outL apex L au = changesL apex L au := by unfold outL bumpL; rw [if_pos h]
theorem out_other {apex : ByteArray} {L au : List Rec} (h : ¬ (changesL apex L au).Perm L) : outL apex L au = (changesL apex L au).map (bumpX (serL apex L)) := by unfold outL bumpL; rw [if_neg h]; rfl
theorem part_len {F : Rec → Rec} {N : List Rec} (j : Nat) : ((N.take j).map F ++ N.drop j).length = N.length := by
  rw [List.length_append, List.length_map, List.length_take, List.length_drop]; omega
theorem part_at {F : Rec → Rec} {N : List Rec} {j : Nat} (hj : j < N.length) (h : j < ((N.take j).map F ++ N.drop j).length) : ((N.take j).map F ++ N.drop j)[j] = N[j] := by
  have hl : ((N.take j).map F).length = j := by rw [List.length_map, List.length_take]; omega
  rw [List.getElem_append_right (by omega), List.getElem_drop]
  simp only [hl, Nat.sub_self, Nat.add_zero]
theorem part_set {F : Rec → Rec} {N : List Rec} {j : Nat} (hj : j < N.length) : ((N.take j).map F ++ N.drop j).set j (F N[j]) = (N.take (j + 1)).map F ++ N.drop (j + 1) := by
  have hl : ((N.take j).map F).length = j := by rw [List.length_map, List.length_take]; omega
  rw [List.set_append_right _ _ (by omega), hl, Nat.sub_self, List.drop_eq_getElem_cons hj, List.set_cons_zero, List.take_succ_eq_append_getElem hj, List.map_append, List.append_assoc]
  rfl
theorem part_same {F : Rec → Rec} {y : Rec} {N : List Rec} {j : Nat} (hj : j < N.length) (hy : y = N[j]) (hf : F y = y) : (N.take j).map F ++ N.drop j = (N.take (j + 1)).map F ++ N.drop (j + 1) := by
  subst hy
  have hlen : j < ((N.take j).map F ++ N.drop j).length := by rw [part_len]; exact hj
  have hat := part_at (F := F) hj hlen
  rw [← part_set hj, hf]
  conv => lhs; rw [← List.set_getElem_self hlen, hat]
end up
theorem recsC_data (t : ByteArray) : ∀ (l : List Rec) (k : Nat) (h : k < l.length), (recsC l).set (k * 5 + 4) (.string t) = recsC (l.set k { l[k] with data := t })
  | [], k, h => by simp at h
  | a :: r, 0, _ => by
    show (recC a ++ recsC r).set (0 * 5 + 4) _ = recC _ ++ recsC r
    simp
  | a :: r, k + 1, h => by
    have ih := recsC_data t r k (by simpa using h)
    have e : recsC (a :: r) = .string a.owner :: .int .i64 a.typ :: .int .i64 a.cls :: .int .i64 a.ttl :: .string a.data :: recsC r := rfl
    rw [List.set_cons_succ, e, show (k + 1) * 5 + 4 = k * 5 + 4 + 1 + 1 + 1 + 1 + 1 by omega]
    simp only [List.set_cons_succ, List.getElem_cons_succ]
    rw [ih]
    rfl
theorem zn.newE_code {apex : ByteArray} {l : List Rec} {k c : Int} (h : zn.newE apex l = some (k, c)) : c ≠ 0 := by
  have hp : ∀ e, zn.plainR apex l = some e → e.2 ≠ 0 := fun e he => by
    unfold zn.plainR at he
    split at he
    · obtain rfl := Option.some.inj he; simp
    · split at he
      · obtain rfl := Option.some.inj he; simp
      · cases he
  have hr : ∀ e, zn.rulesR apex l = some e → e.2 ≠ 0 := fun e he => by
    unfold zn.rulesR at he
    split at he
    · obtain rfl := Option.some.inj he; simp
    · split at he
      · obtain rfl := Option.some.inj he; simp
      · split at he
        · obtain rfl := Option.some.inj he; simp
        · split at he
          · obtain rfl := Option.some.inj he; simp
          · split at he
            · obtain rfl := Option.some.inj he; simp
            · split at he
              · obtain rfl := Option.some.inj he; simp
              · split at he
                · obtain rfl := Option.some.inj he; simp
                · split at he
                  · obtain rfl := Option.some.inj he; simp
                  · cases he
  unfold zn.newE at h
  split at h
  · have e := Option.some.inj h
    simp only [Prod.mk.injEq] at e
    omega
  · split at h
    · have e := Option.some.inj h
      simp only [Prod.mk.injEq] at e
      omega
    · split at h
      · rename_i e he
        obtain rfl := Option.some.inj h
        exact hp _ he
      · exact hr _ h
end Go.Proofs.YtdjjemajfphjaaaGreat

/-
  Questions in memory.
-/
import Derived.Test.YtnloommafgnanaaQZoneC
import Derived.Test.YtnloommafgnanaaQRzE
namespace Go.Proofs.Ytnloommafgnanaa
open Go.RowKit Go.Shelf Go.WideMaps Go.Proofs.Ytnloommafgnanaa.nm Go.Proofs.Ytnloommafgnanaa.od

/-- A question. -/
structure Qn where
  name : ByteArray
  typ : Int
  cls : Int
@[reducible] def qnC (q : Qn) : List Value := [.string q.name, .int .i64 q.typ, .int .i64 q.cls]
def QnAt (w : World) (b off : Nat) (q : Qn) : Prop := w.cell? ⟨b, off, none⟩ = some (.string q.name) ∧ w.cell? ⟨b, off + 1, none⟩ = some (.int .i64 q.typ) ∧ w.cell? ⟨b, off + 2, none⟩ = some (.int .i64 q.cls)
def QnsAt (w : World) (v : Value) (l : List Qn) : Prop :=
  ∃ a cap, v = .slice a l.length cap ∧ l.length ≤ cap ∧ ∀ k (hk : k < l.length), ∃ b off, a = some ⟨b, off, none⟩ ∧ b < w.heap.size ∧ QnAt w b (off + k * 3) l[k]
theorem QnAt.keep {w w' : World} {b off : Nat} {q : Qn} (h : QnAt w b off q) (hk : w'.heap[b]? = w.heap[b]?) : QnAt w' b off q := by
  have e : ∀ i, w'.cell? ⟨b, i, none⟩ = w.cell? ⟨b, i, none⟩ := fun i => World.cell?_of_block (w := w) (a := ⟨b, i, none⟩) hk
  exact ⟨(e _).trans h.1, (e _).trans h.2.1, (e _).trans h.2.2⟩
theorem QnsAt.below {w w' : World} {v : Value} {l : List Qn} (h : QnsAt w v l) (hb : Below w.heap.size w w') : QnsAt w' v l := by
  obtain ⟨a, cap, hv, hc, hr⟩ := h
  refine ⟨a, cap, hv, hc, fun k hk => ?_⟩
  obtain ⟨b, off, ha, hbl, hra⟩ := hr k hk
  exact ⟨b, off, ha, Nat.lt_of_lt_of_le hbl hb.size, hra.keep (hb.block b hbl)⟩
theorem qn_new (w w1 : World) (q : Qn) (h : w1 = w.alloc (.cells (qnC q).toArray 57)) : Below w.heap.size w w1 ∧ w1.heap.size = w.heap.size + 1 ∧ QnAt w1 w.heap.size 0 q := by
  subst h
  refine ⟨(Below.refl _ w).alloc (Nat.le_refl _) _, by simp, ?_, ?_, ?_⟩ <;> (rw [heap_cell (heap_new_at rfl)]; rfl)
end Go.Proofs.Ytnloommafgnanaa

/-
  Messages in memory; gazetteersame: Head, Questions, Messages.
-/
namespace Go.Proofs.Ytnloommafgnanaa
open Go.RowKit Go.Shelf Go.Proofs.Ytnloommafgnanaa.nm Go.Proofs.Ytnloommafgnanaa.od

deriving instance DecidableEq for Qn
deriving instance Inhabited for Qn
/-- A message without its lists. -/
structure Hd where
  id : Int
  resp : Bool
  op : Int
  aa : Bool
  tc : Bool
  rd : Bool
  ra : Bool
  ad : Bool
  cd : Bool
  rcode : Int
  deriving DecidableEq, Inhabited
@[reducible] def msgC (h : Hd) (q a u d : Value) : List Value := [.int .i64 h.id, .bool h.resp, .int .i64 h.op, .bool h.aa, .bool h.tc, .bool h.rd, .bool h.ra, .bool h.ad, .bool h.cd, .int .i64 h.rcode, q, a, u, d]
@[reducible] def msgV (h : Hd) (q a u d : Value) : Value := .agg #[.int .i64 h.id, .bool h.resp, .int .i64 h.op, .bool h.aa, .bool h.tc, .bool h.rd, .bool h.ra, .bool h.ad, .bool h.cd, .int .i64 h.rcode, q, a, u, d]
/-- A message in a block of its own. -/
def MsgB (w : World) (b : Nat) (h : Hd) (q a u d : Value) : Prop := w.heap[b]? = some (.cells (msgC h q a u d).toArray 27 (0, 0))
theorem MsgB.lt {w : World} {b : Nat} {h : Hd} {q a u d : Value} (hb : MsgB w b h q a u d) : b < w.heap.size := heap_lt hb
theorem MsgB.below {w w' : World} {b : Nat} {h : Hd} {q a u d : Value} (hb : MsgB w b h q a u d) (hB : Below w.heap.size w w') : MsgB w' b h q a u d := (hB.block b hb.lt).trans hb
theorem msg_new {w w1 : World} {h : Hd} {q a u d : Value} (e : w1 = w.alloc (.cells (msgC h q a u d).toArray 27)) : Below w.heap.size w w1 ∧ w1.heap.size = w.heap.size + 1 ∧ MsgB w1 w.heap.size h q a u d := by
  subst e
  exact ⟨(Below.refl _ w).alloc (Nat.le_refl _) _, by simp, heap_new_at rfl⟩
theorem MsgB.facts {w : World} {b : Nat} {h : Hd} {q a u d : Value} (hb : MsgB w b h q a u d) :
    w.cell? ⟨b, 0, none⟩ = some (.int .i64 h.id) ∧ w.cell? ⟨b, 1, none⟩ = some (.bool h.resp) ∧ w.cell? ⟨b, 2, none⟩ = some (.int .i64 h.op) ∧ w.cell? ⟨b, 3, none⟩ = some (.bool h.aa) ∧ w.cell? ⟨b, 4, none⟩ = some (.bool h.tc) ∧
    w.cell? ⟨b, 5, none⟩ = some (.bool h.rd) ∧ w.cell? ⟨b, 6, none⟩ = some (.bool h.ra) ∧ w.cell? ⟨b, 7, none⟩ = some (.bool h.ad) ∧ w.cell? ⟨b, 8, none⟩ = some (.bool h.cd) ∧ w.cell? ⟨b, 9, none⟩ = some (.int .i64 h.rcode) ∧
    w.cell? ⟨b, 10, none⟩ = some q ∧ w.cell? ⟨b, 11, none⟩ = some a ∧ w.cell? ⟨b, 12, none⟩ = some u ∧ w.cell? ⟨b, 13, none⟩ = some d := by
  unfold MsgB at hb
  refine ⟨?_, ?_, ?_, ?_, ?_, ?_, ?_, ?_, ?_, ?_, ?_, ?_, ?_, ?_⟩ <;> (rw [heap_cell hb]; rfl)
theorem MsgB.free {w : World} {b : Nat} {h : Hd} {q a u d : Value} (hb : MsgB w b h q a u d) (i : Nat) : w.frozen? ⟨b, i, none⟩ = false := heap_frozen hb i

set_option maxRecDepth 100000 in
set_option maxHeartbeats 4000000 in
/-- The same head, twice. -/
theorem head_same (h : Hd) (q a u d q' a' u' d' : Value) (w : World) :
    Calls Try.prog 31 #[msgV h q a u d, msgV h q' a' u' d'] w fun e w' => e = .returned (.bool true) ∧ Below w.heap.size w w' := by
  obtain ⟨i, b1, o, b3, b4, b5, b6, b7, b8, c⟩ := h
  have e0 : (i == i) = true := by rw [beq_iff_eq]
  have e1 : (b1 == b1) = true := by rw [beq_iff_eq]
  have e2 : (o == o) = true := by rw [beq_iff_eq]
  have e3 : (b3 == b3) = true := by rw [beq_iff_eq]
  have e4 : (b4 == b4) = true := by rw [beq_iff_eq]
  have e5 : (b5 == b5) = true := by rw [beq_iff_eq]
  have e6 : (b6 == b6) = true := by rw [beq_iff_eq]
  have e7 : (b7 == b7) = true := by rw [beq_iff_eq]
  have e8 : (b8 == b8) = true := by rw [beq_iff_eq]
  have e9 : (c == c) = true := by rw [beq_iff_eq]
  have HB := Lib.hid (((Below.refl _ w).alloc (Nat.le_refl _) (.cells (msgC ⟨i, b1, o, b3, b4, b5, b6, b7, b8, c⟩ q a u d).toArray 27)).alloc (by simp) (.cells (msgC ⟨i, b1, o, b3, b4, b5, b6, b7, b8, c⟩ q' a' u' d').toArray 27))
  go_enter Try.func31, Try.ntmps31
  go_wp2_with fail
  go_ret
  exact ⟨rfl, HB.out⟩

set_option maxRecDepth 100000 in
set_option maxHeartbeats 2000000 in
theorem questions_same (x : List Qn) (hx : x.length ≤ 1000000000000) (v u : Value) (w : World) (hv : QnsAt w v x) (hu : QnsAt w u x) :
    Calls Try.prog 32 #[v, u] w fun e w' => e = .returned (.bool true) ∧ Below w.heap.size w w' := by
  obtain ⟨a, cap, rfl, -⟩ := id hv
  obtain ⟨a2, cap2, rfl, -⟩ := id hu
  have HV := Lib.hid hv; have HU := Lib.hid hu
  clear hv hu
  go_enter Try.func32, Try.ntmps32
  go_wp2_with fail
  go_loopw [13, 5] (fun kv _ wr => ∃ k : Nat, k ≤ x.length ∧ kv = .int .i64 (k : Int) ∧ Below w.heap.size w wr) (fun kv _ _ => x.length - (intOf kv).toNat)
  case atStart => exact ⟨0, Nat.zero_le _, rfl, Below.refl _ _⟩
  case round =>
    obtain ⟨k, hk, rfl, hB⟩ := hrel
    have HB := Lib.hid hB
    by_cases hkm : k < x.length
    · obtain ⟨a', cap', hv, _, hr⟩ := QnsAt.below HV.out hB
      simp only [Value.slice.injEq] at hv
      obtain ⟨rfl, _, rfl⟩ := hv
      obtain ⟨b, off, rfl, hbl, c0, c1, c2⟩ := hr k hkm
      obtain ⟨a', cap', hv, _, hr2⟩ := QnsAt.below HU.out hB
      simp only [Value.slice.injEq] at hv
      obtain ⟨rfl, _, rfl⟩ := hv
      obtain ⟨b2, off2, rfl, hbl2, d0, d1, d2⟩ := hr2 k hkm
      clear hr hr2 hB
      go_upto_region 6 with fail
      refine wp_region_gw (by kernel_rfl) (by kernel_rfl) ?_
      have e0 := gw_cell c0; have e1 := gw_cell c1; have e2 := gw_cell c2
      have f0 := gw_cell d0; have f1 := gw_cell d1; have f2 := gw_cell d2
      repeat (with_reducible refine wpQuiet_step (fun K hK => ?_); go_simp; first | (with_reducible refine hK _ ?_; clear hK K))
      refine wpQuiet_nil ?_
      intro W hW
      have hBW : Below wr.heap.size wr W := by obtain ⟨p, rfl⟩ := hW; exact gw_below _ p
      have HBW := Lib.hid (HB.out.trans (hBW.mono HB.out.size))
      clear hW hBW e0 e1 e2 f0 f1 f2 c0 c1 c2 d0 d1 d2
      go_wp2_with fail
      go_roundw
      case rel => exact ⟨k + 1, by omega, by go_num, HBW.out⟩
      case measure => simp [intOf]; omega
    · obtain rfl : k = x.length := by omega
      clear hkm hB
      go_wp2_with fail
      go_ret
      exact ⟨rfl, HB.out⟩

theorem recs_same (x : List Rec) (hx : x.length ≤ 1000000000000) (v u : Value) (w : World) (hv : RecsAt w v x) (hu : RecsAt w u x) :
    Calls Try.prog 33 #[v, u] w fun e w' => e = .returned (.bool true) ∧ Below w.heap.size w w' := by
  have h := same_any x x hx v u w hv hu
  rw [decide_eq_true rfl] at h
  exact h

set_option maxRecDepth 100000 in
set_option maxHeartbeats 4000000 in
/-- The same message, twice. -/
theorem messages_same (h : Hd) (qs : List Qn) (an au ad : List Rec) (hq : qs.length ≤ 1000000000000) (ha : an.length ≤ 1000000000000) (hu : au.length ≤ 1000000000000) (hd : ad.length ≤ 1000000000000) (q a u d q' a' u' d' : Value) (w : World)
    (q1 : QnsAt w q qs) (q2 : QnsAt w q' qs) (a1 : RecsAt w a an) (a2 : RecsAt w a' an) (u1 : RecsAt w u au) (u2 : RecsAt w u' au) (d1 : RecsAt w d ad) (d2 : RecsAt w d' ad) :
    Calls Try.prog 11 #[msgV h q a u d, msgV h q' a' u' d'] w fun e w' => e = .returned (.bool true) ∧ Below w.heap.size w w' := by
  obtain ⟨w1, hw1⟩ : ∃ X, X = w.alloc (.cells (msgC h q a u d).toArray 27) := ⟨_, rfl⟩
  obtain ⟨w2, hw2⟩ : ∃ X, X = w1.alloc (.cells (msgC h q' a' u' d').toArray 27) := ⟨_, rfl⟩
  obtain ⟨hB1, hs1, hm1⟩ := msg_new hw1
  obtain ⟨hB2, hs2, hm2⟩ := msg_new hw2
  have HM1 := Lib.hid (hm1.below hB2)
  have hB := hB1.trans (hB2.mono hB1.size)
  rw [hs1] at hm2
  obtain ⟨x0, x1, x2, x3, x4, x5, x6, x7, x8, x9, x10, x11, x12, x13⟩ := HM1.out.facts
  obtain ⟨y0, y1, y2, y3, y4, y5, y6, y7, y8, y9, y10, y11, y12, y13⟩ := hm2.facts
  clear hm1 hs1 hs2 hB1 hB2
  have HW1 := Lib.hid hw1; have HW2 := Lib.hid hw2; have HM2 := Lib.hid hm2; have HB := Lib.hid hB
  clear hw1 hw2 hm2 hB
  have HQ1 := Lib.hid q1; have HQ2 := Lib.hid q2; have HA1 := Lib.hid a1; have HA2 := Lib.hid a2; have HU1 := Lib.hid u1; have HU2 := Lib.hid u2; have HD1 := Lib.hid d1; have HD2 := Lib.hid d2
  clear q1 q2 a1 a2 u1 u2 d1 d2
  go_enter Try.func11, Try.ntmps11
  go_upto_region 1 with fail
  rw [← HW1.out, ← HW2.out]
  go_wp2_with fail
  refine (head_same h _ _ _ _ _ _ _ _ _).mono ?_
  rintro e w3 ⟨rfl, hB3⟩
  have HB3 := Lib.hid (HB.out.trans (hB3.mono HB.out.size))
  have HX3 := Lib.hid (HM1.out.below hB3); have HY3 := Lib.hid (HM2.out.below hB3)
  clear hB3 x0 x1 x2 x3 x4 x5 x6 x7 x8 x9 x10 x11 x12 x13 y0 y1 y2 y3 y4 y5 y6 y7 y8 y9 y10 y11 y12 y13
  obtain ⟨_, _, _, _, _, _, _, _, _, _, x10, x11, x12, x13⟩ := HX3.out.facts
  obtain ⟨_, _, _, _, _, _, _, _, _, _, y10, y11, y12, y13⟩ := HY3.out.facts
  go_wp2_with fail
  refine (questions_same qs hq _ _ w3 (HQ1.out.below HB3.out) (HQ2.out.below HB3.out)).mono ?_
  rintro e w4 ⟨rfl, hB4⟩
  have HB4 := Lib.hid (HB3.out.trans (hB4.mono HB3.out.size))
  have HX4 := Lib.hid (HX3.out.below hB4); have HY4 := Lib.hid (HY3.out.below hB4)
  clear hB4 x10 x11 x12 x13 y10 y11 y12 y13
  obtain ⟨_, _, _, _, _, _, _, _, _, _, x10, x11, x12, x13⟩ := HX4.out.facts
  obtain ⟨_, _, _, _, _, _, _, _, _, _, y10, y11, y12, y13⟩ := HY4.out.facts
  go_wp2_with fail
  refine (recs_same an ha _ _ w4 (HA1.out.below HB4.out) (HA2.out.below HB4.out)).mono ?_
  rintro e w5 ⟨rfl, hB5⟩
  have HB5 := Lib.hid (HB4.out.trans (hB5.mono HB4.out.size))
  have HX5 := Lib.hid (HX4.out.below hB5); have HY5 := Lib.hid (HY4.out.below hB5)
  clear hB5 x10 x11 x12 x13 y10 y11 y12 y13
  obtain ⟨_, _, _, _, _, _, _, _, _, _, x10, x11, x12, x13⟩ := HX5.out.facts
  obtain ⟨_, _, _, _, _, _, _, _, _, _, y10, y11, y12, y13⟩ := HY5.out.facts
  go_wp2_with fail
  refine (recs_same au hu _ _ w5 (HU1.out.below HB5.out) (HU2.out.below HB5.out)).mono ?_
  rintro e w6 ⟨rfl, hB6⟩
  have HB6 := Lib.hid (HB5.out.trans (hB6.mono HB5.out.size))
  have HX6 := Lib.hid (HX5.out.below hB6); have HY6 := Lib.hid (HY5.out.below hB6)
  clear hB6 x10 x11 x12 x13 y10 y11 y12 y13
  obtain ⟨_, _, _, _, _, _, _, _, _, _, x10, x11, x12, x13⟩ := HX6.out.facts
  obtain ⟨_, _, _, _, _, _, _, _, _, _, y10, y11, y12, y13⟩ := HY6.out.facts
  go_wp2_with fail
  refine (recs_same ad hd _ _ w6 (HD1.out.below HB6.out) (HD2.out.below HB6.out)).mono ?_
  rintro e w7 ⟨rfl, hB7⟩
  have HB7 := Lib.hid (HB6.out.trans (hB7.mono HB6.out.size))
  clear hB7
  go_wp2_with fail
  go_ret
  exact ⟨rfl, HB7.out⟩
end Go.Proofs.Ytnloommafgnanaa

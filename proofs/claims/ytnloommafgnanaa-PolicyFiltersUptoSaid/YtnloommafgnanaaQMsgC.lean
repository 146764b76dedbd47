/-
  gazetteersame.MarkMessage: all lists of a message are written and grown.
-/
import Derived.Test.YtnloommafgnanaaQMsgP
import Derived.Test.YtnloommafgnanaaQMsgA
import Derived.Test.YtnloommafgnanaaQRefU
namespace Go.Proofs.Ytnloommafgnanaa
open Go.RowKit Go.Shelf Go.Proofs.Ytnloommafgnanaa.nm Go.Proofs.Ytnloommafgnanaa.od

/-- A row of questions into which may be written. -/
def WritQ (w : World) (base : Nat) (v : Value) (n : Nat) : Prop := ∃ xs, w.ownsRow base 57 3 v n xs
theorem WritQ.three {w : World} {base g n cap : Nat} (h : WritQ w base (.slice (some ⟨g, 0, none⟩) n cap) n) (j0 j1 j2 : Nat) (u0 u1 u2 : Value) :
    WritQ (((w.setCell ⟨g, j0, none⟩ u0).setCell ⟨g, j1, none⟩ u1).setCell ⟨g, j2, none⟩ u2) base (.slice (some ⟨g, 0, none⟩) n cap) n ∧
    w.grownBy (((w.setCell ⟨g, j0, none⟩ u0).setCell ⟨g, j1, none⟩ u1).setCell ⟨g, j2, none⟩ u2) (some g) := by
  obtain ⟨xs, hx⟩ := h
  obtain ⟨h0, k0⟩ := hx.stored j0 u0
  obtain ⟨h1, k1⟩ := h0.stored j1 u1
  obtain ⟨h2, k2⟩ := h1.stored j2 u2
  exact ⟨⟨_, h2⟩, (k0.trans k1).trans k2⟩
theorem WritQ.cells {w : World} {base g n cap : Nat} (h : WritQ w base (.slice (some ⟨g, 0, none⟩) n cap) n) {j : Nat} (hj : j < n * 3) : ∃ u, w.cell? ⟨g, j, none⟩ = some u ∧ w.frozen? ⟨g, j, none⟩ = false := by
  obtain ⟨xs, hx⟩ := h
  have h1 := hx.cellAt j hj
  rw [List.getElem?_eq_getElem (by rw [hx.1]; exact hj)] at h1
  exact ⟨_, h1, hx.frozenAt j⟩
/-- What MarkMessage asks of a message's lists. -/
structure Loose (base : Nat) (w : World) (q a u d : Value) (nq : Nat) (an au ad : List Rec) : Prop where
  qs : WritQ w base q nq
  ra : w.ownsRow base 41 5 a an.length (recsC an)
  ru : w.ownsRow base 41 5 u au.length (recsC au)
  rd : w.ownsRow base 41 5 d ad.length (recsC ad)
  qa : ∀ g, q.ownBlock = some g → a.ownBlock ≠ some g
  qu : ∀ g, q.ownBlock = some g → u.ownBlock ≠ some g
  qd : ∀ g, q.ownBlock = some g → d.ownBlock ≠ some g
  au_ : ∀ g, a.ownBlock = some g → u.ownBlock ≠ some g
  ad_ : ∀ g, a.ownBlock = some g → d.ownBlock ≠ some g
  ud : ∀ g, u.ownBlock = some g → d.ownBlock ≠ some g
  base_ : base ≤ w.heap.size
namespace mk
def vs (a u d : Value) (j : Nat) : Value := match j with | 0 => a | 1 => u | _ => d
def ls (an au ad : List Rec) (j : Nat) : List Rec := match j with | 0 => an | 1 => au | _ => ad
end mk
theorem WritQ.keep {w w' : World} {base n : Nat} {v : Value} (h : WritQ w base v n) (hk : ∀ b, v.ownBlock = some b → w'.heap[b]? = w.heap[b]?) : WritQ w' base v n := by
  obtain ⟨xs, hx⟩ := h
  exact ⟨xs, ownsRow_keepOne hx hk⟩
/-- The three rows, laid into a list of their own. -/
theorem tri_new {base nq : Nat} {w w0 w1 : World} {q a u d : Value} {an au ad : List Rec} (h : Loose base w0 q a u d nq an au ad) (hs0 : w0.heap.size ≤ w.heap.size) (hk : ∀ b, b < w0.heap.size → q.ownBlock ≠ some b → w.heap[b]? = w0.heap[b]?)
    (e : w1 = w.alloc (.cells #[a, u, d] 25)) {mo : Obj} (hm : w.heap[w0.heap.size]? = some mo) : Tri base w1 w.heap.size w0.heap.size mo (mk.vs a u d) (mk.ls an au ad) := by
  have hb := h.base_
  have hkeep : ∀ b, b < w0.heap.size → q.ownBlock ≠ some b → w1.heap[b]? = w0.heap[b]? := fun b h1 h2 => by rw [e, Below.heap_alloc _ _ _ (by omega)]; exact hk b h1 h2
  have hml := heap_lt hm
  have row : ∀ {v : Value} {l : List Rec}, w0.ownsRow base 41 5 v l.length (recsC l) → (∀ g, q.ownBlock = some g → v.ownBlock ≠ some g) → w1.ownsRow base 41 5 v l.length (recsC l) ∧ v.ownBlock ≠ some w.heap.size ∧ v.ownBlock ≠ some w0.heap.size := fun hr hq =>
    ⟨ownsRow_keepOne hr fun b hb => hkeep b (hr.lt b hb).2 (fun e2 => hq b e2 hb), fun e2 => by have := (hr.lt _ e2).2; omega, fun e2 => by have := (hr.lt _ e2).2; omega⟩
  obtain ⟨r0, o0, z0⟩ := row h.ra h.qa
  obtain ⟨r1, o1, z1⟩ := row h.ru h.qu
  obtain ⟨r2, o2, z2⟩ := row h.rd h.qd
  refine ⟨by rw [e]; exact heap_alloc_keep hm _, by omega, h.base_, three (P := fun j => (mk.vs a u d j).ownBlock ≠ some w0.heap.size) z0 z1 z2, by rw [e]; exact heap_new_at rfl, by omega, ?_, ?_, ?_⟩
  · exact three (P := fun j => w1.ownsRow base 41 5 (mk.vs a u d j) (mk.ls an au ad j).length (recsC (mk.ls an au ad j))) r0 r1 r2
  · intro i j g hi hj hne
    match i, j, hi, hj with
    | 0, 0, _, _ => exact absurd rfl hne
    | 1, 1, _, _ => exact absurd rfl hne
    | 2, 2, _, _ => exact absurd rfl hne
    | 0, 1, _, _ => exact h.au_ g
    | 0, 2, _, _ => exact h.ad_ g
    | 1, 2, _, _ => exact h.ud g
    | 1, 0, _, _ => exact fun h1 h2 => h.au_ g h2 h1
    | 2, 0, _, _ => exact fun h1 h2 => h.ad_ g h2 h1
    | 2, 1, _, _ => exact fun h1 h2 => h.ud g h2 h1
  · exact three (P := fun j => (mk.vs a u d j).ownBlock ≠ some w.heap.size) o0 o1 o2
/-- The places of a list of three lists. -/
theorem mk.len3 (an au ad : List Rec) {m : Nat} (h0 : an.length ≤ m) (h1 : au.length ≤ m) (h2 : ad.length ≤ m) : ∀ j, j < 3 → (mk.ls an au ad j).length ≤ m := three (P := fun j => (mk.ls an au ad j).length ≤ m) h0 h1 h2

theorem below_row {base : Nat} {w wr w' : World} {g : Nat} (h : Below base w wr) (hg : wr.grownBy w' (some g)) (hb : base ≤ w.heap.size) (hgb : base ≤ g) : Below base w w' :=
  h.grown hg (Nat.le_trans hb h.size) (fun j hj => by simp only [Option.some.injEq] at hj; omega)

set_option maxRecDepth 100000 in
set_option maxHeartbeats 16000000 in
theorem markMessage_any (base : Nat) (h : Hd) (q a u d : Value) (nq : Nat) (an au ad : List Rec) (hq : nq ≤ 1000000000000) (h0 : an.length ≤ 1000000000000) (h1 : au.length ≤ 1000000000000) (h2 : ad.length ≤ 1000000000000) (w : World) (hl : Loose base w q a u d nq an au ad) :
    Calls Try.prog 13 #[msgV h q a u d] w fun e w' => e = .returned (.bool true) ∧ Below base w w' := by
  have hlen := mk.len3 an au ad h0 h1 h2
  obtain ⟨xq, hxq⟩ := id hl.qs
  obtain ⟨aq, cq, rfl, hcq⟩ := ownsRow_len hxq
  obtain ⟨aa, ca, rfl, -⟩ := ownsRow_len hl.ra
  obtain ⟨bu, cu, rfl, -⟩ := ownsRow_len hl.ru
  obtain ⟨bd, cd, rfl, -⟩ := ownsRow_len hl.rd
  obtain ⟨w1, hw1⟩ : ∃ X, X = w.alloc (.cells (msgC h (.slice aq nq cq) (.slice aa an.length ca) (.slice bu au.length cu) (.slice bd ad.length cd)).toArray 27) := ⟨_, rfl⟩
  obtain ⟨hB1, hs1, hm1⟩ := msg_new hw1
  have hbase := hl.base_
  have hmq : WritQ w1 base (.slice aq nq cq) nq := hl.qs.keep fun b hb => hB1.block b (hxq.lt b hb).2
  have hqlt : ∀ b, (Value.slice aq nq cq).ownBlock = some b → base ≤ b ∧ b < w.heap.size := hxq.lt
  obtain ⟨x0, x1, x2, x3, x4, x5, x6, x7, x8, x9, x10, x11, x12, x13⟩ := hm1.facts
  have HB1 := Lib.hid (hB1.mono hbase)
  have HB1F := Lib.hid hB1
  clear hxq hB1
  have HW1 := Lib.hid hw1; have HM1 := Lib.hid hm1; have HL := Lib.hid hl; have HMQ := Lib.hid hmq; have HQLT := Lib.hid hqlt; have HLEN := Lib.hid hlen; have HS1 := Lib.hid hs1
  clear hw1 hm1 hl hmq hqlt hlen hs1
  obtain ⟨i0_r, hi_r, hz_r, hz1_r, hz2_r⟩ := info_parts info_rec
  have HI_R := Lib.hid hi_r; have HZ_R := Lib.hid hz_r; have HZ1_R := Lib.hid hz1_r; have HZ2_R := Lib.hid hz2_r
  clear hi_r hz_r hz1_r hz2_r
  go_enter Try.func13, Try.ntmps13
  go_upto_region 1 with fail
  rw [← HW1.out]
  go_wp2_with fail
  clear x0 x1 x2 x3 x4 x5 x6 x7 x8 x9 x10 x11 x12 x13
  go_loopw [16, 3] (fun kv _ wr => ∃ k : Nat, k ≤ nq ∧ kv = .int .i64 (k : Int) ∧ WritQ wr base (.slice aq nq cq) nq ∧ w1.grownBy wr (Value.slice aq nq cq).ownBlock) (fun kv _ _ => nq - (intOf kv).toNat)
  case atStart => exact ⟨0, Nat.zero_le _, rfl, HMQ.out, ⟨rfl, rfl, rfl, Nat.le_refl _, fun _ _ _ => rfl⟩⟩
  case round =>
    obtain ⟨k, hk, rfl, hwr, hg⟩ := hrel
    have hmb : MsgB wr w.heap.size h (.slice aq nq cq) (.slice aa an.length ca) (.slice bu au.length cu) (.slice bd ad.length cd) := (hg.block _ HM1.out.lt (fun e => by have := (HQLT.out _ e.symm).2; omega)).trans HM1.out
    obtain ⟨_, _, _, _, _, _, _, _, _, _, y10, y11, y12, y13⟩ := hmb.facts
    by_cases hlt : k < nq
    · obtain ⟨xs, hx⟩ := id hwr
      obtain ⟨g, cap', hv, _, _⟩ := hx.form (by omega)
      simp only [Value.slice.injEq, true_and] at hv
      obtain ⟨rfl, rfl⟩ := hv
      obtain ⟨u0, c0, f0⟩ := hwr.cells (j := k * 3) (by omega)
      obtain ⟨u1, c1, f1⟩ := hwr.cells (j := k * 3 + 1) (by omega)
      obtain ⟨u2, c2, f2⟩ := hwr.cells (j := k * 3 + 2) (by omega)
      have h3 := hwr.three (k * 3) (k * 3 + 1) (k * 3 + 2) (.string ⟨#[109, 97, 114, 107]⟩) (.int .i64 (-(k : Int) - 1)) (.int .i64 0)
      clear hx hmb y11 y12 y13
      have HWR := Lib.hid hwr; have HG := Lib.hid hg; have H3 := Lib.hid h3
      clear hwr hg h3
      go_wp2_with fail
      go_roundw
      case rel => exact ⟨k + 1, by omega, by go_num, H3.out.1, HG.out.trans H3.out.2⟩
      case measure => simp [intOf]; omega
    · obtain rfl : nq = k := by omega
      obtain ⟨wo, hwo⟩ : ∃ wo : World, wo = wr := ⟨_, rfl⟩
      subst hwo
      obtain ⟨w2, hw2⟩ : ∃ X, X = wo.alloc (.cells #[.slice aa an.length ca, .slice bu au.length cu, .slice bd ad.length cd] 25) := ⟨_, rfl⟩
      have htri := tri_new HL.out (w := wo) (w1 := w2) (by have := hg.size; have := HS1.out; omega) (fun b hb hne => (hg.block b (by have := HS1.out; omega) (fun e => hne e.symm)).trans (HB1F.out.block b hb)) hw2 hmb
      have hB2 : Below base w w2 := by
        rw [hw2]
        exact (HB1.out.grown hg (by have := HS1.out; omega) (fun j hj => (HQLT.out j hj).1)).alloc (by have := hg.size; have := HS1.out; omega) _
      obtain ⟨lb, hlb⟩ : ∃ n, n = wo.heap.size := ⟨_, rfl⟩
      obtain ⟨mb, hmbn⟩ : ∃ n, n = w.heap.size := ⟨_, rfl⟩
      rw [← hlb, ← hmbn] at htri
      have HHB := Lib.hid hbase
      clear hlt hwr hg hmb hbase
      have HTRI := Lib.hid htri; have HB2 := Lib.hid hB2; have HW2 := Lib.hid hw2; have HLB := Lib.hid hlb; have HMBN := Lib.hid hmbn
      clear htri hB2 hw2 hlb hmbn
      go_upto_region 7 with fail
      rw [← HW2.out, ← HLB.out]
      clear y10 y11 y12 y13
      obtain ⟨L, hL⟩ : ∃ L, L = mk.ls an au ad := ⟨_, rfl⟩
      obtain ⟨V0, hV0⟩ : ∃ V, V = mk.vs (.slice aa an.length ca) (.slice bu au.length cu) (.slice bd ad.length cd) := ⟨_, rfl⟩
      have ht0 := HTRI.out
      rw [← hL, ← hV0] at ht0
      rw [← mk.stB_zero L] at ht0
      have hlen3 := HLEN.out
      rw [← hL] at hlen3
      have hln0 : an.length = (L 0).length := by rw [hL]; rfl
      have hln1 : au.length = (L 1).length := by rw [hL]; rfl
      have hln2 : ad.length = (L 2).length := by rw [hL]; rfl
      obtain ⟨mo, hmo⟩ : ∃ o, o = Obj.cells (msgC h (.slice aq nq cq) (.slice aa an.length ca) (.slice bu au.length cu) (.slice bd ad.length cd)).toArray 27 (0, 0) := ⟨_, rfl⟩
      rw [← hmo] at ht0
      clear HTRI
      have HT0 := Lib.hid ht0; have HLEN3 := Lib.hid hlen3; have HL := Lib.hid hL; have HV0 := Lib.hid hV0; have HLN0 := Lib.hid hln0; have HLN1 := Lib.hid hln1; have HLN2 := Lib.hid hln2; have HMO := Lib.hid hmo
      clear ht0 hlen3 hL hV0 hln0 hln1 hln2 hmo
      obtain ⟨wo2, hwo2⟩ : ∃ X : World, X = w2 := ⟨_, rfl⟩
      go_wp2_with fail
      go_loopw [37, 5, 6] (fun kv _ _ wr => ∃ j : Nat, (j : Int) ≤ 3 ∧ kv = .int .i64 (j : Int) ∧ Tri base wr lb mb mo V0 (mk.stB L j 0) ∧ Below base w wr) (fun kv _ _ _ => 3 - (intOf kv).toNat)
      case atStart => exact ⟨0, by simp, rfl, HT0.out, HB2.out⟩
      case round =>
        obtain ⟨j, hj, rfl, ht, hB⟩ := hrel
        by_cases hlt : (j : Int) < 3
        · have hj3 : j < 3 := by omega
          have hj0 : (0 : Int) ≤ (j : Int) := by omega
          obtain ⟨l0, f0⟩ := ht.cell hj3
          obtain ⟨aj, cj, hvj, -⟩ := ownsRow_len (ht.row j hj3)
          rw [mk.stB_len L j 0 j (Nat.zero_le _)] at hvj
          obtain ⟨n, hn⟩ : ∃ n, n = (L j).length := ⟨_, rfl⟩
          rw [← hn] at hvj
          have hnb : n ≤ 1000000000000 := by rw [hn]; exact HLEN3.out j hj3
          rw [hvj] at l0
          obtain ⟨wi, hwi⟩ : ∃ X : World, X = wr := ⟨_, rfl⟩
          subst hwi
          have HVJ := Lib.hid hvj; have HN := Lib.hid hn; have HJ3 := Lib.hid hj3; have HT := Lib.hid ht; have HB := Lib.hid hB
          clear hvj hn hj3 ht hB
          go_wp2_with fail
          clear l0 f0
          go_loopw [45, 6] (fun kv _ wr => ∃ k : Nat, k ≤ n ∧ kv = .int .i64 (k : Int) ∧ Tri base wr lb mb mo V0 (mk.stB L j k) ∧ Below base w wr) (fun kv _ _ => n - (intOf kv).toNat)
          case atStart => exact ⟨0, Nat.zero_le _, rfl, HT.out, HB.out⟩
          case round =>
            obtain ⟨k, hk, rfl, ht2, hB2'⟩ := hrel
            by_cases hlt2 : k < n
            · have hlk : (mk.stB L j k j).length = n := (mk.stB_len L j k j (by rw [← HN.out]; exact hk)).trans HN.out.symm
              obtain ⟨l0, f0⟩ := ht2.cell HJ3.out
              rw [HVJ.out] at l0
              have hrow := ht2.row j HJ3.out
              rw [HVJ.out, hlk] at hrow
              obtain ⟨g, cap', hv, _, hgb⟩ := hrow.form (by omega)
              simp only [Value.slice.injEq, true_and] at hv
              obtain ⟨rfl, rfl⟩ := hv
              obtain ⟨u0, c0, g0⟩ := ht2.five HJ3.out HVJ.out (i := k * 5) (by omega)
              obtain ⟨u1, c1, g1⟩ := ht2.five HJ3.out HVJ.out (i := k * 5 + 1) (by omega)
              obtain ⟨u2, c2, g2⟩ := ht2.five HJ3.out HVJ.out (i := k * 5 + 2) (by omega)
              obtain ⟨u3, c3, g3⟩ := ht2.five HJ3.out HVJ.out (i := k * 5 + 3) (by omega)
              obtain ⟨u4, c4, g4⟩ := ht2.five HJ3.out HVJ.out (i := k * 5 + 4) (by omega)
              have hput := ht2.put HJ3.out (k := k) (by rw [hlk]; exact hlt2) HVJ.out (mk.markR j k)
              rw [mk.stB_set L j k (by rw [← HN.out]; exact hlt2)] at hput
              have hgb2 : base ≤ g := (hrow.lt g rfl).1
              have hB3 := below_row hB2' hput.2 HHB.out hgb2
              clear hlk hrow
              have HT2 := Lib.hid ht2; have HB2' := Lib.hid hB2'; have HPUT := Lib.hid hput; have HB3 := Lib.hid hB3; have HGB2 := Lib.hid hgb2
              clear ht2 hB2' hput hB3 hgb2
              go_wp2_with fail
              go_roundw
              case rel => exact ⟨k + 1, by omega, by go_num, HPUT.out.1, HB3.out⟩
              case measure => simp [intOf]; omega
            · obtain rfl : n = k := by omega
              have ht3 : Tri base wr lb mb mo V0 (mk.stB L (j + 1) 0) := by rw [← mk.stB_next, ← HN.out]; exact ht2
              have HT2 := Lib.hid ht2; have HT3 := Lib.hid ht3; have HB2' := Lib.hid hB2'
              clear ht2 ht3 hB2'
              go_wp2_with fail
              go_roundw
              case rel => exact ⟨j + 1, by omega, by go_num, HT3.out, HB2'.out⟩
              case measure => simp [intOf]; omega
        · obtain rfl : 3 = j := by omega
          have ht3 : Tri base wr lb mb mo V0 (mk.stC L 0 0) := ht.congr (mk.stC_zero L)
          obtain ⟨wo3, hwo3⟩ : ∃ wo : World, wo = wr := ⟨_, rfl⟩
          subst hwo3
          clear hlt hj
          have HT := Lib.hid ht; have HT3 := Lib.hid ht3; have HB := Lib.hid hB
          clear ht ht3 hB
          go_wp2_with fail
          go_loopw [64, 7, 8] (fun kv _ _ wr => ∃ j : Nat, (j : Int) ≤ 3 ∧ kv = .int .i64 (j : Int) ∧ (∃ V, Tri base wr lb mb mo V (mk.stC L j 0)) ∧ Below base w wr) (fun kv _ _ _ => 3 - (intOf kv).toNat)
          case atStart => exact ⟨0, by simp, rfl, ⟨V0, HT3.out⟩, HB.out⟩
          case round =>
            obtain ⟨j, hj, rfl, ⟨V, ht⟩, hB⟩ := hrel
            by_cases hlt : (j : Int) < 3
            · have hj3 : j < 3 := by omega
              have hj0 : (0 : Int) ≤ (j : Int) := by omega
              obtain ⟨wi, hwi⟩ : ∃ X : World, X = wr := ⟨_, rfl⟩
              subst hwi
              obtain ⟨n, hn⟩ : ∃ n, n = (L j).length := ⟨_, rfl⟩
              have hnb : n ≤ 1000000000000 := by rw [hn]; exact HLEN3.out j hj3
              have HT := Lib.hid ht; have HB := Lib.hid hB; have HJ3 := Lib.hid hj3; have HN := Lib.hid hn
              clear ht hB hj3 hn
              go_wp2_with fail
              go_loopw [8] (fun kv wr => ∃ k : Nat, (k : Int) ≤ 9 ∧ kv = .int .i64 (k : Int) ∧ (∃ V, Tri base wr lb mb mo V (mk.stC L j k)) ∧ Below base w wr) (fun kv _ => 9 - (intOf kv).toNat)
              case atStart => exact ⟨0, by simp, rfl, ⟨V, HT.out⟩, HB.out⟩
              case round =>
                obtain ⟨k, hk, rfl, ⟨V', ht2⟩, hB2'⟩ := hrel
                clear HB
                by_cases hlt2 : (k : Int) < 9
                · have hk0 : (0 : Int) ≤ (k : Int) := by omega
                  obtain ⟨l0, f0⟩ := ht2.cell HJ3.out
                  have hlk : (mk.stC L j k j).length = n + k := by rw [mk.stC_len, HN.out]
                  obtain ⟨m, hm⟩ : ∃ m, m = n + k := ⟨_, rfl⟩
                  rw [← hm] at hlk
                  have hmb : m ≤ 1000000000009 := by omega
                  have hrow := ht2.row j HJ3.out
                  rw [hlk] at hrow
                  obtain ⟨aj, cj, hvj, -⟩ := ownsRow_len hrow
                  have hoj := ht2.off_ j HJ3.out
                  have hlb := ht2.lt
                  have hbr : base ≤ wr.heap.size := Nat.le_trans HHB.out hB2'.size
                  obtain ⟨wa, hwa⟩ : ∃ X, X = wr.alloc (.cells (recC (mk.grownR j k)).toArray 41) := ⟨_, rfl⟩
                  have hsa : wa.heap.size = wr.heap.size + 1 := by rw [hwa]; simp
                  have HLT := Lib.hid (fun b hb => (hrow.lt b hb).1)
                  have HO_a := Lib.hid (ownsRow_keepOne hrow fun b hb => Below.heap_alloc wr (.cells (recC (mk.grownR j k)).toArray 41) b (hrow.lt b hb).2)
                  have P1_a := Lib.hid (show m + 1 ≤ maxLen from by unfold maxLen; omega)
                  have P2_a := Lib.hid (show (m + 1) * 56 ≤ 140737488355328 from by omega)
                  have P3_a := Lib.hid (show base ≤ (wr.alloc (.cells (recC (mk.grownR j k)).toArray 41)).heap.size from by simp; omega)
                  have HNEWS_ := Lib.hid (news_at wr (recC (mk.grownR j k)) 41)
                  have HLW := Lib.hid (show lb < (wr.alloc (.cells (recC (mk.grownR j k)).toArray 41)).heap.size from by simp; omega)
                  have HBA := Lib.hid (hB2'.alloc hbr (.cells (recC (mk.grownR j k)).toArray 41))
                  have hblk := ht2.blk
                  rw [hvj] at l0
                  rw [hvj] at HO_a
                  clear hrow
                  have HT2 := Lib.hid ht2; have HB2' := Lib.hid hB2'; have HM := Lib.hid hm; have HLK := Lib.hid hlk; have HVJ := Lib.hid hvj; have HWA := Lib.hid hwa; have HSA := Lib.hid hsa; have HBLK := Lib.hid hblk; have HOJ := Lib.hid hoj; have HLB := Lib.hid hlb; have HBR := Lib.hid hbr
                  clear ht2 hB2' hm hlk hvj hwa hsa hblk hoj hlb hbr
                  go_wp2_with (at_builtin; refine wpList_append_new _ rfl _ _ 25 rfl base 41 i0_r (.agg #[.string ⟨#[]⟩, .int .i64 0, .int .i64 0, .int .i64 0, .string ⟨#[]⟩]) 5 56 Try.underlying25 HI_R.out HZ_R.out HZ1_R.out HZ2_R.out rfl (by decide) _ _ _ rfl HO_a.out ⟨wr.heap.size, 0, none⟩ 1 1 (recC (mk.grownR j k)) rfl rfl HNEWS_.out (by simp [Value.oneCell']) P1_a.out P2_a.out P3_a.out ?_)
                  intro v' w10 hown10 hg10 hnn10
                  obtain ⟨g', cap', rfl, _, _⟩ := hown10.form (by omega)
                  clear l0 f0
                  have hblk10 : w10.heap[lb]? = some (.cells #[V' 0, V' 1, V' 2] 25 (0, 0)) := (hg10.block lb HLW.out (fun e => HOJ.out (by rw [HVJ.out]; exact e.symm))).trans (heap_alloc_keep HBLK.out _)
                  have l1 : w10.cell? ⟨lb, j, none⟩ = some (V' j) := by rw [heap_cell hblk10]; exact three (P := fun j => (#[V' 0, V' 1, V' 2] : Array Value)[j]? = some (V' j)) rfl rfl rfl j HJ3.out
                  rw [HVJ.out] at l1
                  have f1 : w10.frozen? ⟨lb, j, none⟩ = false := heap_frozen hblk10 j
                  have hB10 : Below base w w10 := HBA.out.grown hg10 P3_a.out (fun i hi => HLT.out i (by rw [HVJ.out]; exact hi))
                  have hgr := HT2.out.grow (w1 := wa) HWA.out HJ3.out HLK.out.symm (mk.grownR j k) _ hown10 (by rw [HVJ.out, HWA.out]; exact hg10) (fun b hb => by rw [HVJ.out]; exact (hnn10 b hb).imp id (fun h => by rw [HSA.out]; exact h))
                  rw [mk.stC_app] at hgr
                  have hB11 := hB10.setCell (p := ⟨lb, j, none⟩) HT2.out.from_ (.slice (some ⟨g', 0, none⟩) (m + 1) cap')
                  clear hblk10 hB10 HBA HO_a P1_a P2_a P3_a HNEWS_ HLT
                  have HOWN10 := Lib.hid hown10; have HG10 := Lib.hid hg10; have HNN10 := Lib.hid hnn10; have HGR := Lib.hid hgr; have HB11 := Lib.hid hB11
                  clear hown10 hg10 hnn10 hgr hB11
                  go_wp2_with fail
                  go_roundw
                  case rel => (repeat apply Exists.intro); exact ⟨⟨k + 1, by omega, by go_num, ⟨_, HGR.out⟩, HB11.out⟩, rfl⟩
                  case measure => simp [intOf]; omega
                · obtain rfl : 9 = k := by omega
                  have ht3 : Tri base wr lb mb mo V' (mk.stC L (j + 1) 0) := by rw [← mk.stC_next]; exact ht2
                  clear hlt2 hk
                  have HT2 := Lib.hid ht2; have HT3 := Lib.hid ht3; have HB2' := Lib.hid hB2'
                  clear ht2 ht3 hB2'
                  go_wp2_with fail
                  go_roundw
                  case rel => exact ⟨j + 1, by omega, by go_num, ⟨V', HT3.out⟩, HB2'.out⟩
                  case measure => simp [intOf]; omega
            · obtain rfl : 3 = j := by omega
              clear hlt hj
              have ht3 := ht.congr (mk.stC_end L)
              obtain ⟨wo4, hwo4⟩ : ∃ wo : World, wo = wr := ⟨_, rfl⟩
              subst hwo4
              obtain ⟨_, _, _, _, _, _, _, _, _, _, y10, y11, y12, y13⟩ := MsgB.facts (w := wo4) (b := mb) (by have := ht.mem; rw [HMO.out] at this; exact this)
              have hbr : base ≤ wo4.heap.size := Nat.le_trans HHB.out hB.size
              obtain ⟨w3, hw3⟩ : ∃ X, X = wo4.alloc (.cells #[.int .i64 (an.length : Int), .int .i64 (au.length : Int), .int .i64 (ad.length : Int)] 3) := ⟨_, rfl⟩
              have hB3 : Below base w w3 := by rw [hw3]; exact hB.alloc hbr _
              have ht4 : Tri base w3 lb mb mo V (fun i => mk.marks i (L i).length ++ mk.growns i 9) := by rw [hw3]; exact ht3.below ((Below.refl _ _).alloc (Nat.le_refl _) _)
              have hnbk : w3.heap[wo4.heap.size]? = some (.cells #[.int .i64 (an.length : Int), .int .i64 (au.length : Int), .int .i64 (ad.length : Int)] 3 (0, 0)) := by rw [hw3]; exact heap_new_at rfl
              obtain ⟨nb, hnb⟩ : ∃ n, n = wo4.heap.size := ⟨_, rfl⟩
              rw [← hnb] at hnbk
              have hnl := heap_lt hnbk
              have hnc : ∀ j, j < 3 → w3.cell? ⟨nb, j, none⟩ = some (.int .i64 ((L j).length : Int)) := fun j hj => by
                rw [heap_cell hnbk]
                refine three (P := fun j => (#[.int .i64 (an.length : Int), .int .i64 (au.length : Int), .int .i64 (ad.length : Int)] : Array Value)[j]? = some (.int .i64 ((L j).length : Int))) ?_ ?_ ?_ j hj
                · rw [← HLN0.out]; rfl
                · rw [← HLN1.out]; rfl
                · rw [← HLN2.out]; rfl
              have hmn : mb = w.heap.size := HMBN.out
              rw [hmn] at y10 y11 y12 y13
              clear ht ht3 hbr hnbk hmn
              have HW3 := Lib.hid hw3; have HB3 := Lib.hid hB3; have HT4 := Lib.hid ht4; have HB := Lib.hid hB; have HNB := Lib.hid hnb; have HNC := Lib.hid hnc
              clear hw3 hB3 ht4 hB hnb hnc
              go_upto_region 25 with fail
              rw [← HW3.out, ← HNB.out]
              clear y10 y11 y12 y13
              go_wp2_with fail
              go_loopw [99, 10, 11, 12] (fun kv _ _ _ wr => ∃ j : Nat, (j : Int) ≤ 3 ∧ kv = .int .i64 (j : Int) ∧ Below w3.heap.size w3 wr) (fun kv _ _ _ _ => 3 - (intOf kv).toNat)
              case atStart => exact ⟨0, by simp, rfl, Below.refl _ _⟩
              case round =>
                obtain ⟨j, hj, rfl, hB⟩ := hrel
                by_cases hlt : (j : Int) < 3
                · have hj3 : j < 3 := by omega
                  have hj0 : (0 : Int) ≤ (j : Int) := by omega
                  obtain ⟨wi, hwi⟩ : ∃ X : World, X = wr := ⟨_, rfl⟩
                  subst hwi
                  obtain ⟨n, hn⟩ : ∃ n, n = (L j).length := ⟨_, rfl⟩
                  have hnb : n ≤ 1000000000000 := by rw [hn]; exact HLEN3.out j hj3
                  have hrow := HT4.out.row j hj3
                  obtain ⟨aj, cj, hvj, -⟩ := ownsRow_len hrow
                  rw [List.length_append, mk.marks_len, mk.growns_len, ← hn] at hvj
                  obtain ⟨l0, f0⟩ := (HT4.out.below hB).cell hj3
                  rw [hvj] at l0
                  clear hrow
                  have HB := Lib.hid hB; have HJ3 := Lib.hid hj3; have HN := Lib.hid hn; have HVJ := Lib.hid hvj
                  clear hB hj3 hn hvj
                  go_wp2_with fail
                  clear l0 f0
                  go_loopw [107, 11, 12] (fun kv _ _ wr => ∃ k : Nat, k ≤ n + 9 ∧ kv = .int .i64 (k : Int) ∧ Below w3.heap.size w3 wr) (fun kv _ _ _ => n + 9 - (intOf kv).toNat)
                  case atStart => exact ⟨0, Nat.zero_le _, by simp, HB.out⟩
                  case round =>
                    obtain ⟨k, hk, rfl, hB2'⟩ := hrel
                    clear HB
                    by_cases hlt2 : k < n + 9
                    · have hki : (k : Int) < (n : Int) + 9 := by omega
                      have ht5 := HT4.out.below hB2'
                      obtain ⟨l0, -⟩ := ht5.cell HJ3.out
                      have hrec := ht5.recs HJ3.out
                      have hfl : k < (mk.marks j (L j).length ++ mk.growns j 9).length := by rw [List.length_append, mk.marks_len, mk.growns_len, ← HN.out]; exact hlt2
                      rw [HVJ.out] at hrec l0
                      obtain ⟨_, _, hv, _, hr⟩ := hrec
                      simp only [Value.slice.injEq] at hv
                      obtain ⟨rfl, -, rfl⟩ := hv
                      obtain ⟨bb, off, rfl, hbl, hx⟩ := hr k hfl
                      have n0 := (hB2'.cell (p := ⟨nb, j, none⟩) hnl).trans (HNC.out j HJ3.out)
                      rw [← HN.out] at n0
                      have n1 : (wr.alloc (.cells #[.string ⟨#[109, 97, 114, 107]⟩, .int .i64 (-1000 * (j : Int) - (k : Int) - 1), .int .i64 0, .int .i64 0, .string ⟨#[]⟩] 41)).cell? ⟨nb, j, none⟩ = some (.int .i64 (n : Int)) := cell_alloc_l _ n0
                      clear hr ht5
                      by_cases hkn : k < n
                      · have hx2 : RecAt wr bb (off + k * 5) ⟨⟨#[109, 97, 114, 107]⟩, -1000 * (j : Int) - (k : Int) - 1, 0, 0, ⟨#[]⟩⟩ := by
                          have e := mk.full_mark j (L j).length k (by rw [← HN.out]; exact hkn) hfl
                          have hx3 : RecAt wr bb (off + k * 5) ((mk.marks j (L j).length ++ mk.growns j 9)[k]'hfl) := hx
                          rw [e] at hx3
                          exact hx3
                        have hge : decide (n ≤ k) = false := decide_eq_false (by omega)
                        obtain ⟨w4, hw4⟩ : ∃ W, W = wr.alloc (.cells (recC ⟨⟨#[109,97,114,107]⟩,-1000*(j:Int)-(k:Int)-1,0,0,⟨#[]⟩⟩).toArray 41) := ⟨_, rfl⟩
                        obtain ⟨hB4, hs4, x0, x1, x2, x3, x4⟩ := rec_new wr w4 ⟨⟨#[109,97,114,107]⟩,-1000*(j:Int)-(k:Int)-1,0,0,⟨#[]⟩⟩ hw4
                        obtain ⟨c0, c1, c2, c3, c4⟩ := hx2.keep (hB4.block bb hbl)
                        have m0 := (hB4.cell (p := ⟨lb, j, none⟩) (World.block_lt_of_cell? _ _ l0)).trans l0
                        dsimp only at c0 c1 c2 c3 c4 x0 x1 x2 x3 x4
                        have e0 := gw_cell c0; have e1 := gw_cell c1; have e2 := gw_cell c2; have e3 := gw_cell c3; have e4 := gw_cell c4
                        have f0 := gw_cell x0; have f1 := gw_cell x1; have f2 := gw_cell x2; have f3 := gw_cell x3; have f4 := gw_cell x4
                        have g0 := gw_cell m0
                        have HBI := Lib.hid (hB2'.trans (hB4.mono hB2'.size))
                        clear c0 c1 c2 c3 c4 x0 x1 x2 x3 x4 hx hx2 hkn hB4 m0
                        have HW4 := Lib.hid hw4; have HS4 := Lib.hid hs4; have HB2' := Lib.hid hB2'
                        clear hw4 hs4 hB2'
                        go_upto_region 34 with fail
                        rw [← HW4.out]
                        clear l0 n0 n1
                        refine wp_region_gw (by kernel_rfl) (by kernel_rfl) ?_
                        repeat (with_reducible refine wpQuiet_step (fun K hK => ?_); go_simp; first | (with_reducible refine hK _ ?_; clear hK K))
                        refine wpQuiet_nil ?_
                        intro W hW
                        have hBW : Below w4.heap.size w4 W := by obtain ⟨p, rfl⟩ := hW; exact gw_below _ p
                        have HBW := Lib.hid (HBI.out.trans (hBW.mono HBI.out.size))
                        clear hW hBW e0 e1 e2 e3 e4 f0 f1 f2 f3 f4 g0
                        go_wp2_with fail
                        go_roundw
                        case rel => first | exact ⟨k + 1, by omega, by go_num, HBW.out⟩ | ((repeat apply Exists.intro); exact ⟨⟨k + 1, by omega, by go_num, HBW.out⟩, rfl⟩)
                        case measure => simp [intOf]; omega
                      · have hx2 : RecAt wr bb (off + k * 5) ⟨⟨#[103, 114, 111, 119, 110]⟩, -1000 * (j : Int) - 500 - ((k : Int) - (n : Int)), 0, 0, ⟨#[]⟩⟩ := by
                          have e := mk.full_grown j (L j).length k (by rw [← HN.out]; omega) hfl
                          have hx3 : RecAt wr bb (off + k * 5) ((mk.marks j (L j).length ++ mk.growns j 9)[k]'hfl) := hx
                          rw [e, ← HN.out] at hx3
                          have e2 : mk.grownR j (k - n) = ⟨⟨#[103, 114, 111, 119, 110]⟩, -1000 * (j : Int) - 500 - ((k : Int) - (n : Int)), 0, 0, ⟨#[]⟩⟩ := by
                            unfold mk.grownR
                            rw [Int.ofNat_sub (by omega)]
                          rw [e2] at hx3
                          exact hx3
                        have hge : decide (n ≤ k) = true := decide_eq_true (by omega)
                        have hkn0 : (n : Int) ≤ (k : Int) := by omega
                        obtain ⟨w4, hw4⟩ : ∃ W, W = wr.alloc (.cells (recC ⟨⟨#[103,114,111,119,110]⟩,-1000*(j:Int)-500-((k:Int)-(n:Int)),0,0,⟨#[]⟩⟩).toArray 41) := ⟨_, rfl⟩
                        obtain ⟨hB4, hs4, x0, x1, x2, x3, x4⟩ := rec_new wr w4 ⟨⟨#[103,114,111,119,110]⟩,-1000*(j:Int)-500-((k:Int)-(n:Int)),0,0,⟨#[]⟩⟩ hw4
                        obtain ⟨c0, c1, c2, c3, c4⟩ := hx2.keep (hB4.block bb hbl)
                        have m0 := (hB4.cell (p := ⟨lb, j, none⟩) (World.block_lt_of_cell? _ _ l0)).trans l0
                        dsimp only at c0 c1 c2 c3 c4 x0 x1 x2 x3 x4
                        have e0 := gw_cell c0; have e1 := gw_cell c1; have e2 := gw_cell c2; have e3 := gw_cell c3; have e4 := gw_cell c4
                        have f0 := gw_cell x0; have f1 := gw_cell x1; have f2 := gw_cell x2; have f3 := gw_cell x3; have f4 := gw_cell x4
                        have g0 := gw_cell m0
                        have HBI := Lib.hid (hB2'.trans (hB4.mono hB2'.size))
                        clear c0 c1 c2 c3 c4 x0 x1 x2 x3 x4 hx hx2 hkn hB4 m0
                        have HW4 := Lib.hid hw4; have HS4 := Lib.hid hs4; have HB2' := Lib.hid hB2'
                        clear hw4 hs4 hB2'
                        go_upto_region 34 with fail
                        rw [← HW4.out]
                        clear l0 n0 n1
                        refine wp_region_gw (by kernel_rfl) (by kernel_rfl) ?_
                        repeat (with_reducible refine wpQuiet_step (fun K hK => ?_); go_simp; first | (with_reducible refine hK _ ?_; clear hK K))
                        refine wpQuiet_nil ?_
                        intro W hW
                        have hBW : Below w4.heap.size w4 W := by obtain ⟨p, rfl⟩ := hW; exact gw_below _ p
                        have HBW := Lib.hid (HBI.out.trans (hBW.mono HBI.out.size))
                        clear hW hBW e0 e1 e2 e3 e4 f0 f1 f2 f3 f4 g0
                        go_wp2_with fail
                        go_roundw
                        case rel => first | exact ⟨k + 1, by omega, by go_num, HBW.out⟩ | ((repeat apply Exists.intro); exact ⟨⟨k + 1, by omega, by go_num, HBW.out⟩, rfl⟩)
                        case measure => simp [intOf]; omega
                    · obtain rfl : n + 9 = k := by omega
                      have HB2' := Lib.hid hB2'
                      clear hB2'
                      clear hlt2 hk
                      go_wp2_with fail
                      go_roundw
                      case rel => exact ⟨j + 1, by omega, by go_num, HB2'.out⟩
                      case measure => simp [intOf]; omega
                · obtain rfl : 3 = j := by omega
                  clear hlt hj
                  have hend := HB3.out.trans (hB.mono (Nat.le_trans HHB.out HB3.out.size))
                  have HB := Lib.hid hB; have HEND := Lib.hid hend
                  clear hB hend
                  go_wp2_with fail
                  go_ret
                  exact ⟨rfl, HEND.out⟩
end Go.Proofs.Ytnloommafgnanaa

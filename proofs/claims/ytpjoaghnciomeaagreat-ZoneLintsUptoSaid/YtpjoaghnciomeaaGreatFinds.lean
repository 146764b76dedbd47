/-
  gazetteerlaw3.ZoneFinds, walked.
-/
import Derived.Test.YtpjoaghnciomeaaGreatRzE
import Derived.Test.YtpjoaghnciomeaaGreatSameB
namespace Go.Proofs.YtpjoaghnciomeaaGreat
open Go.RowKit Go.Shelf Go.WideMaps Go.Proofs.YtpjoaghnciomeaaGreat.nm Go.Proofs.YtpjoaghnciomeaaGreat.od

/-- A question. -/
structure Qn where
  name : ByteArray
  typ : Int
  cls : Int
@[reducible] def qnC (q : Qn) : List Value := [.string q.name, .int .i64 q.typ, .int .i64 q.cls]
def QnAt (w : World) (b off : Nat) (q : Qn) : Prop := w.cell? ⟨b, off, none⟩ = some (.string q.name) ∧ w.cell? ⟨b, off + 1, none⟩ = some (.int .i64 q.typ) ∧ w.cell? ⟨b, off + 2, none⟩ = some (.int .i64 q.cls)
def QnsAt (w : World) (v : Value) (l : List Qn) : Prop :=
  ∃ a cap, v = .slice a l.length cap ∧ l.length ≤ cap ∧ ∀ k (hk : k < l.length), ∃ b off, a = some ⟨b, off, none⟩ ∧ b < w.heap.size ∧ QnAt w b (off + k * 3) l[k]
theorem QnAt.keep {w w' : World} {b off : Nat} {q : Qn} (h : QnAt w b off q) (hk : w'.heap[b]? = w.heap[b]?) : QnAt w' b off q := by
  have e : ∀ i, w'.cell? ⟨b, i, none⟩ = w.cell? ⟨b, i, none⟩ := fun i => World.cell?_of_block (w := w) (a := ⟨b, i, none⟩) hk
  exact ⟨(e _).trans h.1, (e _).trans h.2.1, (e _).trans h.2.2⟩
theorem QnsAt.below {w w' : World} {v : Value} {l : List Qn} (h : QnsAt w v l) (hb : Below w.heap.size w w') : QnsAt w' v l := by
  obtain ⟨a, cap, hv, hc, hr⟩ := h
  refine ⟨a, cap, hv, hc, fun k hk => ?_⟩
  obtain ⟨b, off, ha, hbl, hra⟩ := hr k hk
  exact ⟨b, off, ha, Nat.lt_of_lt_of_le hbl hb.size, hra.keep (hb.block b hbl)⟩
theorem qn_new (w w1 : World) (q : Qn) (h : w1 = w.alloc (.cells (qnC q).toArray 44)) : Below w.heap.size w w1 ∧ w1.heap.size = w.heap.size + 1 ∧ QnAt w1 w.heap.size 0 q := by
  subst h
  refine ⟨(Below.refl _ w).alloc (Nat.le_refl _) _, by simp, ?_, ?_, ?_⟩ <;> (rw [heap_cell (heap_new_at rfl)]; rfl)
theorem bel_mark {w w' : World} {base n : Nat} {v : Value} (hw : Writ w base v n) (hb : base ≤ w.heap.size) (hg : w.grownBy w' v.ownBlock) : Below base w w' := by
  obtain ⟨xs, hx⟩ := hw
  exact (Below.refl base w).grown hg hb (fun j hj => (hx.lt j hj).1)


set_option maxRecDepth 100000 in
set_option maxHeartbeats 8000000 in
theorem finds_any (apex : ByteArray) (hapz : apex.size ≤ 1099511627776) (l : List Rec) (hok : ∀ r ∈ l, (Lit.int .i64 r.typ).wf = true) (_hl : l.length ≤ 1048576) (hsz : ∀ r ∈ l, r.owner.size ≤ 1099511627776) (a : Option Addr) (cap : Nat) (hf : SliceForm (.slice a l.length cap))
    (qs : List Qn) (hqn : qs.length ≤ 1000000000000) (hqb : ∀ q ∈ qs, (Lit.int .i64 q.typ).wf = true ∧ q.name.size ≤ 1099511627776) (qa : Option Addr) (qcap : Nat) (w : World) (hrv : RecsAt w (.slice a l.length cap) l) (hqv : QnsAt w (.slice qa qs.length qcap) qs) :
    Calls Tryz.prog 5 #[.string apex, .slice a l.length cap, .slice qa qs.length qcap] w fun e w' => e = .returned (.bool true) ∧ Below w.heap.size w w' := by
  have hqok := fun q hq => (hqb q hq).1
  have hqsz := fun q hq => (hqb q hq).2
  have hnew := new_any apex l hok _ hf w hrv
  have hmake := fun W (hB : Below w.heap.size w W) => rmake_any apex hapz l hsz _ hf W (hrv.below hB)
  clear hqb
  have HNEW := Lib.hid hnew; have HMAKE := Lib.hid hmake; have HQV := Lib.hid hqv; have HQOK := Lib.hid hqok; have HQSZ := Lib.hid hqsz; have HOK := Lib.hid hok; have HSZ := Lib.hid hsz; have HRV := Lib.hid hrv
  clear hnew hmake hqv hqok hqsz hok hsz hrv
  go_enter Tryz.func5, Tryz.ntmps5
  go_wp2_with fail
  refine HNEW.out.mono ?_
  intro e w1 hp
  rcases hne : zn.newE apex l with _ | ⟨k0, c0⟩
  · obtain ⟨hB1, z, L, _, hs, rfl, hzf⟩ := newPost_zone hp hne
    have hva0 := zn.valid_of hne
    have hva : zn.Valid apex L := zn.valid_of (zn.newE_of hs.1.symm hne)
    have hHM := HMAKE.out w1 hB1
    have HB1 := Lib.hid hB1; have HZ1 := Lib.hid hzf; have HVA := Lib.hid hva; have HVA0 := Lib.hid hva0; have HS := Lib.hid hs; have HM := Lib.hid hHM; have HNE := Lib.hid hne
    have hs1 := hB1.size
    clear hp hB1 hzf hva hva0 hs hHM hne
    go_wp2_with fail
    refine HM.out.mono ?_
    rintro e w2 ⟨hB2, hm⟩
    rw [HNE.out] at hm
    obtain ⟨y, L', hs', rfl, hy⟩ := hm
    obtain rfl : L' = L := hs'.eq HS.out HVA0.out.named (zn.uniq_of (zn.distinct_of (zn.rules_twice HVA0.out.rules)))
    have HB2 := Lib.hid (HB1.out.trans (hB2.mono hs1)); have HZ2 := Lib.hid (HZ1.out.kept hB2); have HY2 := Lib.hid hy
    have hs2 := HB2.out.size
    have hLz := HVA.out.small
    have htop : w1.heap.size ≤ w2.heap.size := hB2.size
    clear hB2 hs' hy
    go_wp2_with fail
    go_loopw [44, 14, 15] (fun kv _ _ wr => ∃ k : Nat, k ≤ qs.length ∧ kv = .int .i64 (k : Int) ∧ Below w2.heap.size w2 wr) (fun kv _ _ _ => qs.length - (intOf kv).toNat)
    case atStart => exact ⟨0, Nat.zero_le _, rfl, Below.refl _ _⟩
    case round =>
      obtain ⟨k, hk, rfl, hB⟩ := hrel
      have hsr := hB.size
      have HB := Lib.hid hB
      clear hB
      by_cases hlt : k < qs.length
      · obtain ⟨a', cap', hv, hcapq, hr⟩ := HQV.out.below (HB2.out.trans (HB.out.mono hs2))
        simp only [Value.slice.injEq, true_and] at hv
        obtain ⟨rfl, rfl⟩ := hv
        obtain ⟨qb, qoff, rfl, hqb, c0, c1, c2⟩ := hr k hlt
        obtain ⟨wq, hwq⟩ : ∃ W, W = wr.alloc (.cells (qnC qs[k]).toArray 44) := ⟨_, rfl⟩
        obtain ⟨hBq, hzq, hqx⟩ := qn_new wr wq qs[k] hwq
        have hkq : (k : Int) < (qs.length : Int) := by omega
        have tw := HQOK.out _ (List.getElem_mem hlt)
        have ns := HQSZ.out _ (List.getElem_mem hlt)
        obtain ⟨x0, x1, x2⟩ := id hqx
        have HBQ := Lib.hid (HB.out.trans (hBq.mono hsr))
        have HZQ := Lib.hid (HZ2.out.kept HBQ.out)
        have ltq : wr.heap.size < wq.heap.size := by omega
        have hsq := HBQ.out.size
        have HWQ := Lib.hid hwq; have HQX := Lib.hid hqx; have HR := Lib.hid hr; have TW := Lib.hid tw
        clear hwq hqx hr tw
        clear hBq
        go_wp2_with fail
        rw [← HWQ.out]
        refine (find_any w1.heap.size z apex L' qs[k].name qs[k].typ TW.out wq HZQ.out).mono ?_
        rintro e w3 ⟨v3, rfl, hB3, hown3⟩
        obtain ⟨f, hfe⟩ : ∃ f, f = zn.findR apex L' qs[k].name qs[k].typ := ⟨_, rfl⟩
        have hfl : f.recs.length ≤ 2000 := by rw [hfe]; exact Nat.le_trans (find_len apex L' _ _) hLz
        rw [← hfe] at hown3 ⊢
        obtain ⟨a3, c3, rfl, _⟩ := ownsRow_len hown3
        obtain ⟨m, hm⟩ : ∃ m, m = f.recs.length := ⟨_, rfl⟩
        rw [← hm] at hown3 hfl ⊢
        obtain ⟨wf, hwf⟩ : ∃ W, W = w3.alloc (.cells #[.int .i64 f.kind, .string f.owner, .string f.encl, .bool f.wild, .slice a3 m c3] 48) := ⟨_, rfl⟩
        have hBf : Below w3.heap.size w3 wf := by rw [hwf]; exact (Below.refl _ _).alloc (Nat.le_refl _) _
        have hzf : wf.heap.size = w3.heap.size + 1 := by rw [hwf]; simp
        have hbf : wf.heap[w3.heap.size]? = some (.cells #[.int .i64 f.kind, .string f.owner, .string f.encl, .bool f.wild, .slice a3 m c3] 48 (0, 0)) := by rw [hwf]; exact heap_new_at rfl
        have hB3q : Below wq.heap.size wq wf := hB3.trans (hBf.mono hB3.size)
        have hqxf := HQX.out.keep (hB3q.block _ ltq)
        have hs3 := hB3.size
        have hall : ∀ X : World, Below wf.heap.size wf X → Below wf.heap.size wf X ∧ X.cell? ⟨w3.heap.size, 0, none⟩ = some (.int .i64 f.kind) ∧ X.cell? ⟨w3.heap.size, 1, none⟩ = some (.string f.owner) ∧ X.cell? ⟨w3.heap.size, 2, none⟩ = some (.string f.encl) ∧ X.cell? ⟨w3.heap.size, 3, none⟩ = some (.bool f.wild) ∧ X.cell? ⟨w3.heap.size, 4, none⟩ = some (.slice a3 m c3) ∧ X.cell? ⟨wr.heap.size, 0, none⟩ = some (.string qs[k].name) ∧ X.cell? ⟨wr.heap.size, 1, none⟩ = some (.int .i64 qs[k].typ) := fun X hX => by
          obtain ⟨p0, p1, p2, p3, p4, _⟩ := found_facts ((hX.block w3.heap.size (by omega)).trans hbf)
          obtain ⟨y0, y1, _⟩ := hqxf.keep (hX.block wr.heap.size (by omega))
          exact ⟨hX, p0, p1, p2, p3, p4, y0, y1⟩
        have hfd : ∀ X : World, Below wf.heap.size wf X → Calls Tryz.prog 28 #[.pointer (some ⟨y, 0, none⟩), .string qs[k].name, .int .i64 qs[k].typ] X fun e w' => NewFnd f X e w' := fun X hX => by
          rw [hfe]
          exact rfind_any y apex hapz L' HVA.out qs[k].name ns qs[k].typ X (HY2.out.below ((HBQ.out.trans (hB3q.mono hsq)).trans (hX.mono (Nat.le_trans hsq hB3q.size))))
        have hsf : ∀ (X wA : World) (vA : Value), Below wf.heap.size wf wA → wA.ownsRow X.heap.size 53 5 vA f.recs.length (recsC f.recs) → Calls Tryz.prog 27 #[.agg #[.int .i64 f.kind, .string f.owner, .string f.encl, .bool f.wild, .slice a3 m c3], .agg #[.int .i64 f.kind, .string f.owner, .string f.encl, .bool f.wild, vA]] wA fun e w' => e = .returned (.bool true) ∧ Below wA.heap.size wA w' := fun X wA vA hA hoA => by
          have h1 : RecsAt w3 (.slice a3 m c3) f.recs := by rw [hm]; rw [hm] at hown3; exact owns_recs hown3
          exact sameFound_any f (by omega) (.slice a3 m c3) vA wA ((h1.below hBf).below hA) (owns_recs hoA)
        have HBF := Lib.hid (HBQ.out.trans (hB3q.mono hsq))
        have HM_ := Lib.hid hm; have HBF_ := Lib.hid hbf
        clear hm hbf
        have HALL := Lib.hid hall; have HFD := Lib.hid hfd; have HSF := Lib.hid hsf; have HFE := Lib.hid hfe; have HOWN3 := Lib.hid hown3; have HWF := Lib.hid hwf; have HQXF := Lib.hid hqxf
        clear hall hfd hsf hfe hown3 hwf hqxf
        clear hB3 hBf hB3q x0 x1 x2 c0 c1 c2
        go_upto_region 11 with fail
        rw [← HWF.out]
        go_cut [62] (fun s wx => s = .bool false ∧ Below wf.heap.size wf wx)
        case first =>
          go_region_held3 (fun X => Below wf.heap.size wf X ∧ X.cell? ⟨w3.heap.size, 0, none⟩ = some (.int .i64 f.kind) ∧ X.cell? ⟨w3.heap.size, 1, none⟩ = some (.string f.owner) ∧ X.cell? ⟨w3.heap.size, 2, none⟩ = some (.string f.encl) ∧ X.cell? ⟨w3.heap.size, 3, none⟩ = some (.bool f.wild) ∧ X.cell? ⟨w3.heap.size, 4, none⟩ = some (.slice a3 m c3) ∧ X.cell? ⟨wr.heap.size, 0, none⟩ = some (.string qs[k].name) ∧ X.cell? ⟨wr.heap.size, 1, none⟩ = some (.int .i64 qs[k].typ))
            (first | assumption | exact HALL.out _ (Below.refl _ _).drew | (go_split_ands; exact HALL.out _ (by assumption)))
            (first
              | (go_at_call 28; (with_reducible refine (HFD.out _ (by go_split_ands; assumption)).mono ?_); rintro e wA ⟨vA, rfl, hbA, hoA⟩; go_split_ands; have hbA2 := Below.trans (B := wf.heap.size) (a := wf) (by assumption) (hbA.mono (Below.size (by assumption))))
              | (go_at_call 27; (with_reducible refine (HSF.out _ _ _ (by assumption) hoA).mono ?_); rintro e wB ⟨rfl, hbB⟩; have hbB2 := Below.trans (B := wf.heap.size) (a := wf) hbA2 (hbB.mono (Below.size hbA2))))
          all_goals (go_wp2_with fail; go_meet; exact ⟨rfl, hbB2⟩)
        case rest =>
        obtain ⟨rfl, hBc⟩ := hcut
        have hq3 : wq.heap.size ≤ w3.heap.size := hs3
        obtain ⟨_, p0, p1, p2, p3, p4, y0, y1⟩ := HALL.out wc hBc
        have hownc := (HOWN3.out : w3.ownsRow _ _ _ _ _ _)
        have hWF : Below w3.heap.size w3 wf := by rw [HWF.out]; exact (Below.refl _ _).alloc (Nat.le_refl _) _
        have hownc := ownsRow_below (ownsRow_below hownc hWF) hBc
        have hwrit : Writ wc wq.heap.size (.slice a3 m c3) m := ⟨_, hownc⟩
        have hlow : ∀ b, (Value.slice a3 m c3).ownBlock = some b → wq.heap.size ≤ b ∧ b < w3.heap.size := fun b hb => HOWN3.out.lt b hb
        have hfc : w3.heap.size + 1 ≤ wc.heap.size := by have := hBc.size; omega
        have hBqc : Below w2.heap.size w2 wc := HBF.out.trans (hBc.mono HBF.out.size)
        have hqc : QnAt wc wr.heap.size 0 qs[k] := HQXF.out.keep (hBc.block _ (by omega))
        have hbfc := (hBc.block w3.heap.size (by omega)).trans HBF_.out
        have HWRIT := Lib.hid hwrit; have HLOW := Lib.hid hlow; have HBQC := Lib.hid hBqc; have HQC := Lib.hid hqc; have HBFC := Lib.hid hbfc
        clear hwrit hlow hBqc hqc hbfc
        clear hBc hownc hWF
        go_wp2_with fail
        refine (mark_any wq.heap.size _ m (by omega) wc HWRIT.out).mono ?_
        rintro e w5 ⟨rfl, hg5⟩
        have hB5 : Below wq.heap.size wc w5 := bel_mark HWRIT.out (by omega) hg5
        have HB5 := Lib.hid (HBQC.out.trans (hB5.mono hsq))
        have HZ5 := Lib.hid (HZ2.out.kept HB5.out)
        have hs5 : wc.heap.size ≤ w5.heap.size := hB5.size
        have hbf5 := (hg5.block w3.heap.size (by omega) (fun h => by have := (HLOW.out _ h.symm).2; omega)).trans HBFC.out
        have hq5 : QnAt w5 wr.heap.size 0 qs[k] := HQC.out.keep (hB5.block _ ltq)
        clear hB5 hg5 p0 p1 p2 p3 p4 y0 y1
        obtain ⟨y0, y1, y2⟩ := id hq5
        have HBF5 := Lib.hid hbf5; have HQ5 := Lib.hid hq5
        clear hbf5 hq5
        go_wp2_with fail
        refine (find_any w1.heap.size z apex L' qs[k].name qs[k].typ TW.out w5 HZ5.out).mono ?_
        rintro e w6 ⟨v6, rfl, hB6, hown6⟩
        rw [← HFE.out] at hown6 ⊢
        obtain ⟨a6, c6, rfl, _⟩ := ownsRow_len hown6
        rw [← HM_.out] at hown6 ⊢
        have hs6 : w5.heap.size ≤ w6.heap.size := hB6.size
        have hbf6 := (hB6.block w3.heap.size (by omega)).trans HBF5.out
        obtain ⟨p0, p1, p2, p3, p4, g0, g1, g2, g3, g4⟩ := found_facts hbf6
        obtain ⟨s1, s2, s3⟩ := fnd_store (B := w3.heap.size) (w := w6) hbf6 (Below.refl _ _) (Nat.le_refl _) (.int .i64 f.kind) (.string f.owner) (.string f.encl) (.bool f.wild) (.slice a6 m c6)
        obtain ⟨w7, hw7⟩ : ∃ W, W = ((((w6.setCell ⟨w3.heap.size, 0, none⟩ (.int .i64 f.kind)).setCell ⟨w3.heap.size, 1, none⟩ (.string f.owner)).setCell ⟨w3.heap.size, 2, none⟩ (.string f.encl)).setCell ⟨w3.heap.size, 3, none⟩ (.bool f.wild)).setCell ⟨w3.heap.size, 4, none⟩ (.slice a6 m c6) := ⟨_, rfl⟩
        rw [← hw7] at s1 s2 s3
        have hs7 : w6.heap.size ≤ w7.heap.size := s2.size
        have hown7 : w7.ownsRow w5.heap.size 53 5 (.slice a6 m c6) m (recsC f.recs) := ownsRow_keepOne hown6 fun b hb => s3 b (by have := (hown6.lt b hb).1; omega)
        have hq7 : QnAt w7 wr.heap.size 0 qs[k] := (HQ5.out.keep (hB6.block _ (by omega))).keep (s3 _ (by omega))
        have hBq7 : Below w2.heap.size w2 w7 := (HB5.out.trans (hB6.mono HB5.out.size)).trans (s2.mono (by omega))
        have hall : ∀ X : World, Below w7.heap.size w7 X → Below w7.heap.size w7 X ∧ X.cell? ⟨w3.heap.size, 0, none⟩ = some (.int .i64 f.kind) ∧ X.cell? ⟨w3.heap.size, 1, none⟩ = some (.string f.owner) ∧ X.cell? ⟨w3.heap.size, 2, none⟩ = some (.string f.encl) ∧ X.cell? ⟨w3.heap.size, 3, none⟩ = some (.bool f.wild) ∧ X.cell? ⟨w3.heap.size, 4, none⟩ = some (.slice a6 m c6) ∧ X.cell? ⟨wr.heap.size, 0, none⟩ = some (.string qs[k].name) ∧ X.cell? ⟨wr.heap.size, 1, none⟩ = some (.int .i64 qs[k].typ) := fun X hX => by
          obtain ⟨p0, p1, p2, p3, p4, _⟩ := found_facts ((hX.block w3.heap.size (by omega)).trans s1)
          obtain ⟨y0, y1, _⟩ := hq7.keep (hX.block wr.heap.size (by omega))
          exact ⟨hX, p0, p1, p2, p3, p4, y0, y1⟩
        have hfd : ∀ X : World, Below w7.heap.size w7 X → Calls Tryz.prog 28 #[.pointer (some ⟨y, 0, none⟩), .string qs[k].name, .int .i64 qs[k].typ] X fun e w' => NewFnd f X e w' := fun X hX => by
          rw [HFE.out]
          exact rfind_any y apex hapz L' HVA.out qs[k].name ns qs[k].typ X (HY2.out.below (hBq7.trans (hX.mono hBq7.size)))
        have hsf : ∀ (X wA : World) (vA : Value), Below w7.heap.size w7 wA → wA.ownsRow X.heap.size 53 5 vA f.recs.length (recsC f.recs) → Calls Tryz.prog 27 #[.agg #[.int .i64 f.kind, .string f.owner, .string f.encl, .bool f.wild, .slice a6 m c6], .agg #[.int .i64 f.kind, .string f.owner, .string f.encl, .bool f.wild, vA]] wA fun e w' => e = .returned (.bool true) ∧ Below wA.heap.size wA w' := fun X wA vA hA hoA => by
          have h1 : RecsAt w7 (.slice a6 m c6) f.recs := by have h := hown7; rw [HM_.out] at h ⊢; exact owns_recs h
          exact sameFound_any f (by have := HM_.out; omega) (.slice a6 m c6) vA wA (h1.below hA) (owns_recs hoA)
        clear HALL HFD HSF
        have HALL := Lib.hid hall; have HFD := Lib.hid hfd; have HSF := Lib.hid hsf; have HW7 := Lib.hid hw7; have HOWN6 := Lib.hid hown6; have HOWN7 := Lib.hid hown7; have HQ7 := Lib.hid hq7; have HBQ7 := Lib.hid hBq7; have HBF6 := Lib.hid hbf6
        clear hall hfd hsf hw7 hown6 hown7 hq7 hBq7 hbf6
        clear hB6 s1 s2 s3
        go_upto_region 15 with fail
        rw [← HW7.out]
        obtain ⟨wo, hwo⟩ : ∃ wo : World, wo = wc := ⟨_, rfl⟩
        subst hwo
        go_cut [80] (fun s wx => s = .bool false ∧ Below w7.heap.size w7 wx)
        case first =>
          clear p0 p1 p2 p3 p4 y0 y1 y2
          go_region_held3 (fun X => Below w7.heap.size w7 X ∧ X.cell? ⟨w3.heap.size, 0, none⟩ = some (.int .i64 f.kind) ∧ X.cell? ⟨w3.heap.size, 1, none⟩ = some (.string f.owner) ∧ X.cell? ⟨w3.heap.size, 2, none⟩ = some (.string f.encl) ∧ X.cell? ⟨w3.heap.size, 3, none⟩ = some (.bool f.wild) ∧ X.cell? ⟨w3.heap.size, 4, none⟩ = some (.slice a6 m c6) ∧ X.cell? ⟨wr.heap.size, 0, none⟩ = some (.string qs[k].name) ∧ X.cell? ⟨wr.heap.size, 1, none⟩ = some (.int .i64 qs[k].typ))
            (first | assumption | exact HALL.out _ (Below.refl _ _).drew | (go_split_ands; exact HALL.out _ (by assumption)))
            (first
              | (go_at_call 28; (with_reducible refine (HFD.out _ (by go_split_ands; assumption)).mono ?_); rintro e wA ⟨vA, rfl, hbA, hoA⟩; go_split_ands; have hbA2 := Below.trans (B := w7.heap.size) (a := w7) (by assumption) (hbA.mono (Below.size (by assumption))))
              | (go_at_call 27; (with_reducible refine (HSF.out _ _ _ (by assumption) hoA).mono ?_); rintro e wB ⟨rfl, hbB⟩; have hbB2 := Below.trans (B := w7.heap.size) (a := w7) hbA2 (hbB.mono (Below.size hbA2))))
          all_goals (go_wp2_with fail; go_meet; exact ⟨rfl, hbB2⟩)
        case rest =>
        obtain ⟨rfl, hBc⟩ := hcut
        have HBC := Lib.hid (HBQ7.out.trans (hBc.mono HBQ7.out.size))
        clear hBc p0 p1 p2 p3 p4 y0 y1 y2
        go_wp2_with fail
        go_roundw
        case rel => exact ⟨k + 1, by omega, by go_num, HBC.out⟩
        case measure => simp [intOf]; omega
      · obtain rfl : k = qs.length := by omega
        obtain ⟨g, gc, hyc, hyr⟩ := HY2.out
        have hall : ∀ X : World, Below wr.heap.size wr X → Below wr.heap.size wr X ∧ X.cell? ⟨y, 1, none⟩ = some (.slice (some ⟨g, 0, none⟩) L'.length gc) := fun X hX =>
          ⟨hX, (rz_cells hyc hyr (HB.out.trans (hX.mono hsr))).2.1⟩
        have hrc : ∀ X : World, Below wr.heap.size wr X → Calls Tryz.prog 16 #[.pointer (some ⟨z, 0, none⟩)] X fun e w' => NewRecs L' X e w' := fun X hX =>
          records_any w1.heap.size z apex L' hLz X (HZ2.out.kept (HB.out.trans (hX.mono hsr))).v
        have hsm : ∀ (X wA : World) (vA : Value), Below wr.heap.size wr wA → wA.ownsRow X.heap.size 53 5 vA L'.length (recsC L') → Calls Tryz.prog 17 #[vA, .slice (some ⟨g, 0, none⟩) L'.length gc] wA fun e w' => e = .returned (.bool true) ∧ Below wA.heap.size wA w' := fun X wA vA hA hoA => by
          have := same_any L' L' (by omega) vA _ wA (owns_recs hoA) (hyr.below (HB.out.trans (hA.mono hsr)))
          rw [decide_eq_true rfl] at this
          exact this
        have HBE := Lib.hid (HB2.out.trans (HB.out.mono hs2))
        have HALL := Lib.hid hall; have HRC := Lib.hid hrc; have HSM := Lib.hid hsm; have HYC := Lib.hid hyc; have HYR := Lib.hid hyr
        clear hall hrc hsm hyc hyr
        go_upto_region 18 with fail
        go_cut [6] (fun s wx => s = .bool true ∧ Below wr.heap.size wr wx)
        case first =>
          go_region_held3 (fun X => Below wr.heap.size wr X ∧ X.cell? ⟨y, 1, none⟩ = some (.slice (some ⟨g, 0, none⟩) L'.length gc))
            (first | assumption | exact HALL.out _ (Below.refl _ _).drew | (go_split_ands; exact HALL.out _ (by assumption)))
            (first
              | (go_at_call 16; (with_reducible refine (HRC.out _ (by go_split_ands; assumption)).mono ?_); rintro e wA ⟨vA, rfl, hbA, hoA⟩; go_split_ands; have hbA2 := Below.trans (B := wr.heap.size) (a := wr) (by assumption) (hbA.mono (Below.size (by assumption))))
              | (go_at_call 17; (with_reducible refine (HSM.out _ _ _ (by assumption) hoA).mono ?_); rintro e wB ⟨rfl, hbB⟩; have hbB2 := Below.trans (B := wr.heap.size) (a := wr) hbA2 (hbB.mono (Below.size hbA2))))
          all_goals (go_wp2_with fail; go_meet; exact ⟨rfl, hbB2⟩)
        case rest =>
        obtain ⟨rfl, hBc⟩ := hcut
        have HBC := Lib.hid (HBE.out.trans (hBc.mono HBE.out.size))
        clear hBc
        go_wp2_with fail
        go_ret
        exact ⟨rfl, HBC.out⟩
  · obtain ⟨hB1, rfl⟩ := newPost_bad hp hne
    have hHM := HMAKE.out w1 hB1
    have HB1 := Lib.hid hB1; have HM := Lib.hid hHM; have HNE := Lib.hid hne
    clear hp hB1 hHM hne
    go_wp2_with fail
    refine HM.out.mono ?_
    rintro e w2 ⟨hB2, hm⟩
    rw [HNE.out] at hm
    obtain rfl := hm
    have HB2 := Lib.hid (HB1.out.trans (hB2.mono HB1.out.size))
    clear hB2
    go_wp2_with fail
    go_ret
    exact ⟨rfl, HB2.out⟩
end Go.Proofs.YtpjoaghnciomeaaGreat

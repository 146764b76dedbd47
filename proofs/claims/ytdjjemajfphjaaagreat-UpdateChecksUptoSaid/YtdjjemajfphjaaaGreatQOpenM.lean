import Derived.Test.YtdjjemajfphjaaaGreatQOpenU
import Derived.Test.YtdjjemajfphjaaaGreatQMsgF
namespace Go.Proofs.YtdjjemajfphjaaaGreat
open Go.RowKit Go.ChangeShapes Go.WideShapes Go.ChangeAt Go.Deep Go.Joins
section
variable {H : Type} {enc : TypeId × Value → H} {P : Program} {w : World} {base : Nat} {spare : Nat → Bool} {held : Bool}
theorem open_agg14 {t : TypeId} {f0 f1 f2 f3 f4 f5 f6 f7 f8 f9 f10 f11 f12 f13 : Field} {cs : List Value} {fuel : Nat} {x : DataW H × List MemPlace} (hs : P.underlying t = some (.struct #[f0, f1, f2, f3, f4, f5, f6, f7, f8, f9, f10, f11, f12, f13])) (hone : oneCellFields P #[f0, f1, f2, f3, f4, f5, f6, f7, f8, f9, f10, f11, f12, f13] = true)
    (hsz : cs.length = 14) (hf : DataW.trod enc P w base spare held fuel t cs = some x) :
    ∃ (v0 v1 v2 v3 v4 v5 v6 v7 v8 v9 v10 v11 v12 v13 : Value) (y0 y1 y2 y3 y4 y5 y6 y7 y8 y9 y10 y11 y12 y13 : DataW H × List MemPlace) (n : Nat), cs = [v0, v1, v2, v3, v4, v5, v6, v7, v8, v9, v10, v11, v12, v13] ∧ x.1 = .agg [y0.1, y1.1, y2.1, y3.1, y4.1, y5.1, y6.1, y7.1, y8.1, y9.1, y10.1, y11.1, y12.1, y13.1] ∧
      DataW.trod enc P w base spare held n f0.type [v0] = some y0 ∧ DataW.trod enc P w base spare held n f1.type [v1] = some y1 ∧ DataW.trod enc P w base spare held n f2.type [v2] = some y2 ∧ DataW.trod enc P w base spare held n f3.type [v3] = some y3 ∧ DataW.trod enc P w base spare held n f4.type [v4] = some y4 ∧ DataW.trod enc P w base spare held n f5.type [v5] = some y5 ∧ DataW.trod enc P w base spare held n f6.type [v6] = some y6 ∧ DataW.trod enc P w base spare held n f7.type [v7] = some y7 ∧ DataW.trod enc P w base spare held n f8.type [v8] = some y8 ∧ DataW.trod enc P w base spare held n f9.type [v9] = some y9 ∧ DataW.trod enc P w base spare held n f10.type [v10] = some y10 ∧ DataW.trod enc P w base spare held n f11.type [v11] = some y11 ∧ DataW.trod enc P w base spare held n f12.type [v12] = some y12 ∧ DataW.trod enc P w base spare held n f13.type [v13] = some y13 := by
  match cs, hsz with
  | [c0, c1, c2, c3, c4, c5, c6, c7, c8, c9, c10, c11, c12, c13], _ =>
    obtain ⟨xs, n, _, hx, _, hlen, hg⟩ := DataW.trod_struct hs hf
    obtain ⟨o0, k0⟩ := hone_of hone 0 f0 rfl
    obtain ⟨o1, k1⟩ := hone_of hone 1 f1 rfl
    obtain ⟨o2, k2⟩ := hone_of hone 2 f2 rfl
    obtain ⟨o3, k3⟩ := hone_of hone 3 f3 rfl
    obtain ⟨o4, k4⟩ := hone_of hone 4 f4 rfl
    obtain ⟨o5, k5⟩ := hone_of hone 5 f5 rfl
    obtain ⟨o6, k6⟩ := hone_of hone 6 f6 rfl
    obtain ⟨o7, k7⟩ := hone_of hone 7 f7 rfl
    obtain ⟨o8, k8⟩ := hone_of hone 8 f8 rfl
    obtain ⟨o9, k9⟩ := hone_of hone 9 f9 rfl
    obtain ⟨o10, k10⟩ := hone_of hone 10 f10 rfl
    obtain ⟨o11, k11⟩ := hone_of hone 11 f11 rfl
    obtain ⟨o12, k12⟩ := hone_of hone 12 f12 rfl
    obtain ⟨o13, k13⟩ := hone_of hone 13 f13 rfl
    match xs, hlen with
    | [y0, y1, y2, y3, y4, y5, y6, y7, y8, y9, y10, y11, y12, y13], _ =>
      have hx1 := congrArg Prod.fst hx
      exact ⟨c0, c1, c2, c3, c4, c5, c6, c7, c8, c9, c10, c11, c12, c13, y0, y1, y2, y3, y4, y5, y6, y7, y8, y9, y10, y11, y12, y13, n, rfl, by simpa using hx1, by simpa [Value.cells, o0, k0] using hg 0 f0 rfl, by simpa [Value.cells, o1, k1] using hg 1 f1 rfl, by simpa [Value.cells, o2, k2] using hg 2 f2 rfl, by simpa [Value.cells, o3, k3] using hg 3 f3 rfl, by simpa [Value.cells, o4, k4] using hg 4 f4 rfl, by simpa [Value.cells, o5, k5] using hg 5 f5 rfl, by simpa [Value.cells, o6, k6] using hg 6 f6 rfl, by simpa [Value.cells, o7, k7] using hg 7 f7 rfl, by simpa [Value.cells, o8, k8] using hg 8 f8 rfl, by simpa [Value.cells, o9, k9] using hg 9 f9 rfl, by simpa [Value.cells, o10, k10] using hg 10 f10 rfl, by simpa [Value.cells, o11, k11] using hg 11 f11 rfl, by simpa [Value.cells, o12, k12] using hg 12 f12 rfl, by simpa [Value.cells, o13, k13] using hg 13 f13 rfl⟩
end
theorem cell_form {P : Program} {w : World} {r : Reach} {base : Nat} {t e : TypeId} {a : Option Addr} {n c : Nat} (ht : P.underlying t = some (.slice e)) (h : Cell.okWide P w r base t (.slice a n c)) : SliceForm (.slice a n c) := by
  simp only [ht, Cell.okWide, Cell.ok] at h
  cases a with
  | none =>
    left
    split at h
    all_goals first | (cases h; done) | simp_all
  | some a =>
    obtain ⟨b, off, spot⟩ := a
    simp only at h
    obtain ⟨_, _, hh⟩ := h
    have hs : spot = none := hh.2.1
    subst hs
    exact .inr ⟨b, off, n, c, rfl⟩
theorem msg_types : Tryz.prog.cellTypes Tryz.prog.depth 25 = some [3, 4, 3, 4, 4, 4, 4, 4, 4, 3, 23, 22, 22, 22] := by kernel_rfl
section
variable {H : Type} {enc : TypeId × Value → H} {W : World} {spare : Nat → Bool} {held : Bool}
set_option maxRecDepth 100000 in
theorem open_msg_cells {cs : List Value} {fuel : Nat} {x : DataW H × List MemPlace} {r : Reach} {b0 : Nat} (hsz : cs.length = 14) (hf : DataW.trod enc Tryz.prog W 0 spare held fuel 25 cs = some x)
    (hform : ∀ (j : Nat) (v : Value) (u : TypeId), cs[j]? = some v → [3, 4, 3, 4, 4, 4, 4, 4, 4, 3, 23, 22, 22, 22][j]? = some u → Cell.okWide Tryz.prog W r b0 u v) :
    ∃ (M : Msg) (q a u d : Value), cs = msgC M.h q a u d ∧ MsgIn W M q a u d ∧ M.qs.length ≤ Rows.uptoBulk x.1 ∧ M.an.length ≤ Rows.uptoBulk x.1 ∧ M.au.length ≤ Rows.uptoBulk x.1 ∧ M.ad.length ≤ Rows.uptoBulk x.1 ∧
      (∀ y ∈ M.qs, (Lit.int .i64 y.typ).wf = true ∧ y.name.size ≤ Rows.uptoBulk x.1) ∧ (∀ y ∈ M.an, (Lit.int .i64 y.typ).wf = true ∧ y.owner.size ≤ Rows.uptoBulk x.1) ∧ (∀ y ∈ M.au, (Lit.int .i64 y.typ).wf = true ∧ y.owner.size ≤ Rows.uptoBulk x.1) ∧ (∀ y ∈ M.ad, (Lit.int .i64 y.typ).wf = true ∧ y.owner.size ≤ Rows.uptoBulk x.1) ∧
      SliceForm q ∧ SliceForm a ∧ SliceForm u ∧ SliceForm d ∧ (Lit.int .i64 M.h.id).wf = true ∧ (Lit.int .i64 M.h.op).wf = true ∧ (Lit.int .i64 M.h.rcode).wf = true := by
  obtain ⟨v0, v1, v2, v3, v4, v5, v6, v7, v8, v9, v10, v11, v12, v13, y0, y1, y2, y3, y4, y5, y6, y7, y8, y9, y10, y11, y12, y13, n, rfl, hx, t0, t1, t2, t3, t4, t5, t6, t7, t8, t9, t10, t11, t12, t13⟩ := open_agg14 Tryz.underlying25 (by kernel_rfl) hsz hf
  obtain ⟨i0, e0, _, wf0⟩ := DataW.trod_int Tryz.underlying3 t0
  obtain ⟨i1, e1, _⟩ := DataW.trod_bool Tryz.underlying4 t1
  obtain ⟨i2, e2, _, wf2⟩ := DataW.trod_int Tryz.underlying3 t2
  obtain ⟨i3, e3, _⟩ := DataW.trod_bool Tryz.underlying4 t3
  obtain ⟨i4, e4, _⟩ := DataW.trod_bool Tryz.underlying4 t4
  obtain ⟨i5, e5, _⟩ := DataW.trod_bool Tryz.underlying4 t5
  obtain ⟨i6, e6, _⟩ := DataW.trod_bool Tryz.underlying4 t6
  obtain ⟨i7, e7, _⟩ := DataW.trod_bool Tryz.underlying4 t7
  obtain ⟨i8, e8, _⟩ := DataW.trod_bool Tryz.underlying4 t8
  obtain ⟨i9, e9, _, wf9⟩ := DataW.trod_int Tryz.underlying3 t9
  obtain ⟨a10, c10, qs, e10, n10, r10, k10⟩ := open_asks t10
  obtain ⟨a11, c11, l11, e11, _, r11, k11⟩ := open_recs t11
  obtain ⟨a12, c12, l12, e12, _, r12, k12⟩ := open_recs t12
  obtain ⟨a13, c13, l13, e13, _, r13, k13⟩ := open_recs t13
  simp only [List.cons.injEq, and_true] at e0 e1 e2 e3 e4 e5 e6 e7 e8 e9
  subst e0 e1 e2 e3 e4 e5 e6 e7 e8 e9 e10 e11 e12 e13
  obtain ⟨n11, z11⟩ := recs_bulk t11 r11
  obtain ⟨n12, z12⟩ := recs_bulk t12 r12
  obtain ⟨n13, z13⟩ := recs_bulk t13 r13
  have b10 : Rows.uptoBulk y10.1 ≤ Rows.uptoBulk x.1 := by rw [hx]; exact bulks.agg_le (by simp)
  have b11 : Rows.uptoBulk y11.1 ≤ Rows.uptoBulk x.1 := by rw [hx]; exact bulks.agg_le (by simp)
  have b12 : Rows.uptoBulk y12.1 ≤ Rows.uptoBulk x.1 := by rw [hx]; exact bulks.agg_le (by simp)
  have b13 : Rows.uptoBulk y13.1 ≤ Rows.uptoBulk x.1 := by rw [hx]; exact bulks.agg_le (by simp)
  refine ⟨⟨⟨i0, i1, i2, i3, i4, i5, i6, i7, i8, i9⟩, qs, l11, l12, l13⟩, _, _, _, _, rfl, ⟨r10, r11, r12, r13⟩, Nat.le_trans n10 b10, Nat.le_trans n11 b11, Nat.le_trans n12 b12, Nat.le_trans n13 b13,
    fun y hy => ⟨(k10 y hy).1, Nat.le_trans (k10 y hy).2 b10⟩, fun y hy => ⟨k11 y hy, Nat.le_trans (z11 y hy) b11⟩, fun y hy => ⟨k12 y hy, Nat.le_trans (z12 y hy) b12⟩, fun y hy => ⟨k13 y hy, Nat.le_trans (z13 y hy) b13⟩,
    cell_form Tryz.underlying23 (hform 10 _ _ rfl rfl), cell_form Tryz.underlying22 (hform 11 _ _ rfl rfl), cell_form Tryz.underlying22 (hform 12 _ _ rfl rfl), cell_form Tryz.underlying22 (hform 13 _ _ rfl rfl), wf0, wf2, wf9⟩
set_option maxRecDepth 100000 in
theorem open_msg {v : Value} {d : DataW H} {p : List MemPlace} {r : Reach} {b0 : Nat} (hv : Value.okWide Tryz.prog W r b0 25 v) (h : DataW.Trod enc Tryz.prog W 0 spare held 25 v d p) (hb : Rows.uptoBulk d ≤ 1048576) :
    ∃ (M : Msg) (q a u d : Value), v = msgV M.h q a u d ∧ MsgIn W M q a u d ∧ MsgFit M q a u d ∧
      (∀ y ∈ M.qs, (Lit.int .i64 y.typ).wf = true ∧ y.name.size ≤ 1099511627776) ∧ (∀ y ∈ M.an, (Lit.int .i64 y.typ).wf = true ∧ y.owner.size ≤ 1099511627776) ∧ (∀ y ∈ M.au, (Lit.int .i64 y.typ).wf = true ∧ y.owner.size ≤ 1099511627776) ∧ (∀ y ∈ M.ad, (Lit.int .i64 y.typ).wf = true ∧ y.owner.size ≤ 1099511627776) ∧
      (Lit.int .i64 M.h.id).wf = true ∧ (Lit.int .i64 M.h.op).wf = true ∧ (Lit.int .i64 M.h.rcode).wf = true := by
  simp only [Value.okWide, Tryz.underlying25] at hv
  obtain ⟨cs, rfl, hsz, ts, ht, _, hts⟩ := hv
  rw [msg_types] at ht
  simp only [Option.some.injEq] at ht
  subst ht
  have hC : Tryz.prog.cellsOf 25 = 14 := by kernel_rfl
  rw [hC] at hsz
  obtain ⟨l⟩ := cs
  obtain ⟨fuel, hf⟩ := h
  have hl : l.length = 14 := hsz
  obtain ⟨M, q, a, u, d', e, hin, n1, n2, n3, n4, s1, s2, s3, s4, g1, g2, g3, g4, w1, w2, w3⟩ := open_msg_cells (r := r) (b0 := b0) hl hf (fun j v u hv hu => by
    obtain ⟨u', hu', hk⟩ := hts j v (by simpa using hv)
    have hj : j < 14 := by
      have := (List.getElem?_eq_some_iff.1 hv).1
      omega
    have hm : j % 14 = j := Nat.mod_eq_of_lt hj
    have hu2 : _ := hu'
    simp only [List.length_cons, List.length_nil, Nat.reduceAdd, hm] at hu2
    rw [hu] at hu2
    obtain rfl := Option.some.inj hu2
    exact hk)
  subst e
  have hb' : Rows.uptoBulk (d, p).1 ≤ 1048576 := hb
  refine ⟨M, q, a, u, d', rfl, hin, ⟨by omega, by omega, by omega, by omega, g1, g2, g3, g4⟩, fun y hy => ⟨(s1 y hy).1, ?_⟩, fun y hy => ⟨(s2 y hy).1, ?_⟩, fun y hy => ⟨(s3 y hy).1, ?_⟩, fun y hy => ⟨(s4 y hy).1, ?_⟩, w1, w2, w3⟩
  · have := (s1 y hy).2; omega
  · have := (s2 y hy).2; omega
  · have := (s3 y hy).2; omega
  · have := (s4 y hy).2; omega
end
end Go.Proofs.YtdjjemajfphjaaaGreat

/-
  slices.DeleteFunc of records, in a row of the call's own.
-/
import Derived.Test.YtnloommafgnanaaQDelF
namespace Go.Proofs.Ytnloommafgnanaa
open Go.RowKit Go.Shelf Go.Proofs.Ytnloommafgnanaa.nm Go.Proofs.Ytnloommafgnanaa.od

theorem own_put {w : World} {base g n cap k : Nat} {M : List Rec} (h0 : w.ownsRow base 41 5 (.slice (some ⟨g, 0, none⟩) n cap) n (recsC M)) (hk : k < M.length) (r : Rec) :
    (((((w.setCell ⟨g, k * 5, none⟩ (.string r.owner)).setCell ⟨g, k * 5 + 1, none⟩ (.int .i64 r.typ)).setCell ⟨g, k * 5 + 2, none⟩ (.int .i64 r.cls)).setCell ⟨g, k * 5 + 3, none⟩ (.int .i64 r.ttl)).setCell ⟨g, k * 5 + 4, none⟩ (.string r.data)).ownsRow base 41 5 (.slice (some ⟨g, 0, none⟩) n cap) n (recsC (M.set k r)) ∧
    w.grownBy (((((w.setCell ⟨g, k * 5, none⟩ (.string r.owner)).setCell ⟨g, k * 5 + 1, none⟩ (.int .i64 r.typ)).setCell ⟨g, k * 5 + 2, none⟩ (.int .i64 r.cls)).setCell ⟨g, k * 5 + 3, none⟩ (.int .i64 r.ttl)).setCell ⟨g, k * 5 + 4, none⟩ (.string r.data)) (some g) := by
  obtain ⟨h1, g1⟩ := h0.stored (k * 5) (.string r.owner)
  obtain ⟨h2, g2⟩ := h1.stored (k * 5 + 1) (.int .i64 r.typ)
  obtain ⟨h3, g3⟩ := h2.stored (k * 5 + 2) (.int .i64 r.cls)
  obtain ⟨h4, g4⟩ := h3.stored (k * 5 + 3) (.int .i64 r.ttl)
  obtain ⟨h5, g5⟩ := h4.stored (k * 5 + 4) (.string r.data)
  rw [recsC_set r M k hk] at h5
  exact ⟨h5, (((g1.trans g2).trans g3).trans g4).trans g5⟩
theorem own_five {w : World} {base g n cap i : Nat} {xs : List Value} (h : w.ownsRow base 41 5 (.slice (some ⟨g, 0, none⟩) n cap) n xs) (hi : i < n * 5) : ∃ u, w.cell? ⟨g, i, none⟩ = some u ∧ w.frozen? ⟨g, i, none⟩ = false := by
  have h1 := h.cellAt i hi
  rw [List.getElem?_eq_getElem (by rw [h.1]; exact hi)] at h1
  exact ⟨_, h1, h.frozenAt i⟩
theorem own_rec {w : World} {base g n cap j : Nat} {M : List Rec} (h : w.ownsRow base 41 5 (.slice (some ⟨g, 0, none⟩) n cap) n (recsC M)) (hj : j < M.length) : g < w.heap.size ∧ RecAt w g (j * 5) M[j] := by
  have hn : n = M.length := by have := h.1; rw [recsC_len] at this; omega
  subst hn
  have := cells_at (owns_recs h) hj
  rwa [Nat.zero_add] at this
/-- What DeleteFunc answers. -/
def DelPost (p : Rec → Bool) (l : List Rec) (base : Nat) (v : Value) (w : World) (e : Ending) (w' : World) : Prop :=
  ∃ v', e = .returned v' ∧ w'.ownsRow base 41 5 v' (df.keep p l).length (recsC (df.keep p l)) ∧ v'.ownBlock = v.ownBlock ∧ w.grownBy w' v.ownBlock

set_option maxRecDepth 100000 in
set_option maxHeartbeats 4000000 in
theorem deleteFunc_any (g : FuncId) (lb : Array Value) (heg : ∀ args w, (callFunc g args).run Try.prog w = .ok (.enter g args) w) (p : Rec → Bool) (base : Nat) (w0 w : World) (l : List Rec) (hl : l.length ≤ 1000000000000) (v : Value)
    (hown : w.ownsRow base 41 5 v l.length (recsC l)) (hB0 : Below base w0 w) (hbase : base ≤ w.heap.size)
    (hcall : ∀ r X, Below base w0 X → Calls Try.prog g (#[recV r] ++ lb) X fun e X' => e = .returned (.bool (p r)) ∧ Below X.heap.size X X') :
    Calls Try.prog 29 #[v, .func (.func g) #[] lb] w fun e w' => DelPost p l base v w e w' := by
  have hix := indexFunc_any g lb heg p base w0 w l hl v (owns_recs hown) hB0 hbase hcall
  obtain ⟨a, cap, rfl, hcap⟩ := ownsRow_len hown
  have HCALL := Lib.hid hcall
  clear hcall
  cases hf : l.findIdx? p with
  | none =>
    have hn1 : df.idx p l = -1 := by unfold df.idx; rw [hf]
    rw [hn1] at hix
    have hall : ∀ j (hj : j < l.length), p l[j] = false := fun j hj => by
      have := List.findIdx?_eq_none_iff.1 hf l[j] (List.getElem_mem hj)
      simpa using this
    have hpost : ∀ W, Below w.heap.size w W → DelPost p l base (.slice a l.length cap) w (.returned (.slice a l.length cap)) W := fun W hW => by
      refine ⟨_, rfl, ?_, rfl, ⟨hW.os, hW.tape, hW.output, hW.size, fun k hk _ => hW.block k hk⟩⟩
      rw [df.keep_all hall]
      exact ownsRow_below hown hW
    have HIX := Lib.hid hix; have HN1 := Lib.hid hn1; have HF := Lib.hid hf; have HPOST := Lib.hid hpost; have HOWN := Lib.hid hown; have HB0 := Lib.hid hB0; have HALL := Lib.hid hall
    clear hix hn1 hf hpost hown hB0 hall
    go_enter Try.func29, Try.ntmps29
    go_wp2_with fail
    refine (HIX.out).mono ?_
    rintro e w1 ⟨rfl, hB1⟩
    have HB1 := Lib.hid hB1
    clear hB1
    go_wp2_with fail
    go_ret
    exact HPOST.out _ HB1.out
  | some k =>
    have hn1 : df.idx p l = (k : Int) := by unfold df.idx; rw [hf]
    rw [hn1] at hix
    obtain ⟨hkl, hpk, hno⟩ := List.findIdx?_eq_some_iff_getElem.1 hf
    obtain ⟨hu0, hk0⟩ := df.under_first (p := p) hkl (fun j hj h => by simpa using hno j h) hpk
    obtain ⟨gb, cap', hv, _, hgb⟩ := hown.form (by omega)
    simp only [Value.slice.injEq, true_and] at hv
    obtain ⟨rfl, rfl⟩ := hv
    have hkm : (k : Int) + 1 ≤ 1000000000000 := by omega
    have hkn1 : ((k : Int) == -1) = false := by rw [beq_eq_false_iff_ne]; omega
    have hgb2 : base ≤ gb ∧ gb < w.heap.size := hown.lt gb rfl
    have hcapm : l.length ≤ cap := hcap
    have HIX := Lib.hid hix; have HN1 := Lib.hid hn1; have HF := Lib.hid hf; have HOWN := Lib.hid hown; have HB0 := Lib.hid hB0; have HPK := Lib.hid hpk; have HNO := Lib.hid hno; have HU0 := Lib.hid hu0; have HK0 := Lib.hid hk0; have HGB2 := Lib.hid hgb2
    clear hix hn1 hf hown hB0 hpk hno hu0 hk0 hgb2
    go_enter Try.func29, Try.ntmps29
    go_wp2_with fail
    refine (HIX.out).mono ?_
    rintro e w1 ⟨rfl, hB1⟩
    have ho1 := ownsRow_below HOWN.out hB1
    have hg1 : w.grownBy w1 (some gb) := ⟨hB1.os, hB1.tape, hB1.output, hB1.size, fun k hk _ => hB1.block k hk⟩
    have HB1 := Lib.hid hB1; have HO1 := Lib.hid ho1; have HG1 := Lib.hid hg1
    clear hB1 ho1 hg1
    go_wp2_with fail
    go_loopw [6, 5, 7] (fun jv iv _ wr => ∃ (j : Nat) (M : List Rec), j ≤ l.length ∧ jv = .int .i64 (j : Int) ∧ iv = .int .i64 ((df.keep p (l.take j)).length : Int) ∧ df.Under p l j M ∧ wr.ownsRow base 41 5 (.slice (some ⟨gb, 0, none⟩) l.length cap) l.length (recsC M) ∧ w.grownBy wr (some gb)) (fun jv _ _ _ => l.length - (intOf jv).toNat)
    case atStart => exact ⟨k + 1, l, hkl, by go_num, by rw [HK0.out], HU0.out, HO1.out, HG1.out⟩
    case round =>
      obtain ⟨j, M, hj, rfl, rfl, hu, ho, hg⟩ := hrel
      obtain ⟨i, hi⟩ : ∃ i, i = (df.keep p (l.take j)).length := ⟨_, rfl⟩
      rw [← hi]
      have hij : i < j := by rw [hi]; exact hu.2.2.2
      have hML : M.length = l.length := hu.1
      by_cases hlt : j < l.length
      · have hjl : (j : Int) < (l.length : Int) := by omega
        have hi0 : (0 : Int) ≤ (i : Int) := by omega
        have hil : (i : Int) < (l.length : Int) := by omega
        obtain ⟨hbl, c0, c1, c2, c3, c4⟩ := own_rec ho (j := j) (by omega)
        obtain ⟨r, hr0⟩ : ∃ r, r = M[j]'(by omega) := ⟨_, rfl⟩
        have hrl : r = l[j] := by rw [hr0]; exact df.under_at hu hlt (by omega)
        rw [← hr0] at c0 c1 c2 c3 c4
        obtain ⟨w2, hw2⟩ : ∃ W, W = wr.alloc (.cells (recC r).toArray 41) := ⟨_, rfl⟩
        obtain ⟨hB2, hs2, hx⟩ := rec_new wr w2 r hw2
        have hBr : Below base w0 wr := HB0.out.grown hg (by have := hbase; omega) (fun q hq => by simp only [Option.some.injEq] at hq; have := HGB2.out.1; omega)
        have hsz := hg.size
        have hcl := HCALL.out r w2 (hBr.trans (hB2.mono (by omega)))
        obtain ⟨x0, x1, x2, x3, x4⟩ := id hx
        have HHS2 := Lib.hid hs2
        have hlt2 : wr.heap.size < w2.heap.size := by omega
        clear hr0 hs2 hBr
        have HI := Lib.hid hi; have HML := Lib.hid hML; have HU := Lib.hid hu; have HO := Lib.hid ho; have HG := Lib.hid hg; have HW2 := Lib.hid hw2; have HB2 := Lib.hid hB2; have HX := Lib.hid hx; have HCL := Lib.hid hcl; have HRL := Lib.hid hrl
        clear hi hML hu ho hg hw2 hB2 hx hcl hrl
        go_wp2_with fail
        rw [← HW2.out]
        refine (HCL.out).mono ?_
        rintro e w3 ⟨rfl, hB3⟩
        have hB23 : Below wr.heap.size wr w3 := HB2.out.trans (hB3.mono HB2.out.size)
        have ho3 := ownsRow_below HO.out hB23
        have hg3 : w.grownBy w3 (some gb) := HG.out.trans ⟨hB23.os, hB23.tape, hB23.output, hB23.size, fun k hk _ => hB23.block k hk⟩
        have hx3 : RecAt w3 wr.heap.size 0 r := HX.out.keep (hB3.block _ hlt2)
        clear c0 c1 c2 c3 c4 x0 x1 x2 x3 x4
        cases hp : p r
        · obtain ⟨hu2, hln⟩ := df.under_keep HU.out hlt (by rw [← HRL.out]; exact hp)
          rw [← HRL.out, ← HI.out] at hu2
          rw [← HI.out] at hln
          obtain ⟨x0, x1, x2, x3, x4⟩ := id hx3
          obtain ⟨u0, d0, f0⟩ := own_five ho3 (i := i * 5) (by omega)
          obtain ⟨u1, d1, f1⟩ := own_five ho3 (i := i * 5 + 1) (by omega)
          obtain ⟨u2, d2, f2⟩ := own_five ho3 (i := i * 5 + 2) (by omega)
          obtain ⟨u3, d3, f3⟩ := own_five ho3 (i := i * 5 + 3) (by omega)
          obtain ⟨u4, d4, f4⟩ := own_five ho3 (i := i * 5 + 4) (by omega)
          obtain ⟨hop, hgp⟩ := own_put ho3 (k := i) (by rw [HML.out]; omega) r
          have hg4 := hg3.trans hgp
          have HP := Lib.hid hp; have HU2 := Lib.hid hu2; have HLN := Lib.hid hln; have HOP := Lib.hid hop; have HG4 := Lib.hid hg4; have HGP := Lib.hid hgp; have HB3 := Lib.hid hB3; have HB23 := Lib.hid hB23; have HO3 := Lib.hid ho3; have HG3 := Lib.hid hg3; have HX3 := Lib.hid hx3
          clear hp hu2 hln hop hg4 hgp hB3 hB23 ho3 hg3 hx3
          go_wp2_with fail
          go_roundw
          case rel => exact ⟨j + 1, M.set i r, by omega, by go_num, by rw [HLN.out]; go_num, HU2.out, HOP.out, HG4.out⟩
          case measure => simp [intOf]; omega
        · have hu2 := df.under_drop HU.out hlt (by rw [← HRL.out]; exact hp)
          have hln : (df.keep p (l.take (j + 1))).length = i := by rw [df.keep_next hlt, if_pos (by rw [← HRL.out]; exact hp), List.append_nil]; exact HI.out.symm
          have HP := Lib.hid hp; have HU2 := Lib.hid hu2; have HLN := Lib.hid hln; have HB3 := Lib.hid hB3; have HB23 := Lib.hid hB23; have HO3 := Lib.hid ho3; have HG3 := Lib.hid hg3; have HX3 := Lib.hid hx3
          clear hp hu2 hln hB3 hB23 ho3 hg3 hx3
          go_wp2_with fail
          go_roundw
          case rel => exact ⟨j + 1, M, by omega, by go_num, by rw [HLN.out], HU2.out, HO3.out, HG3.out⟩
          case measure => simp [intOf]; omega
      · obtain rfl : l.length = j := by omega
        obtain ⟨hcl, hos, hgs⟩ := own_clear ho (i := i) hij
        have hil : (i : Int) ≤ (l.length : Int) := by omega
        have hi0 : (0 : Int) ≤ (i : Int) := by omega
        have hic : (i : Int) ≤ (cap : Int) := by omega
        have hpost : DelPost p l base (.slice (some ⟨gb, 0, none⟩) l.length cap) w (.returned (.slice (some ⟨gb, 0, none⟩) i cap)) (wr.setCells gb (i * 5) (recsC (List.replicate (l.length - i) zeroR))) := by
          have hkl : df.keep p (l.take l.length) = df.keep p l := by rw [List.take_length]
          have h2 := hu.2.1
          rw [hkl] at h2 hi
          rw [← hi] at h2
          rw [h2] at hos
          exact ⟨_, rfl, by rw [← hi]; exact hos, rfl, hg.trans hgs⟩
        clear hlt hj
        have HPOST := Lib.hid hpost; have HU := Lib.hid hu; have HO := Lib.hid ho; have HG := Lib.hid hg; have HOS := Lib.hid hos; have HGS := Lib.hid hgs; have HML := Lib.hid hML; have HI := Lib.hid hi
        clear hpost hu ho hg hos hgs hML hi
        go_wp2_with fail
        go_ret
        exact HPOST.out
end Go.Proofs.Ytnloommafgnanaa

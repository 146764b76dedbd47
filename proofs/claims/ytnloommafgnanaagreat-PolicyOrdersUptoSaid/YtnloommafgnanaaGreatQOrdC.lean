/-
  slices.DeleteFunc of records, in a row of the call's own.
-/
import Derived.Test.YtnloommafgnanaaGreatQDelF
import Derived.Deep.RegionLaw
namespace Go.Proofs.YtnloommafgnanaaGreat
open Go.RowKit Go.Shelf Go.Proofs.YtnloommafgnanaaGreat.nm Go.Proofs.YtnloommafgnanaaGreat.od

theorem own_put {w : World} {base g n cap k : Nat} {M : List Rec} (h0 : w.ownsRow base 42 5 (.slice (some ⟨g, 0, none⟩) n cap) n (recsC M)) (hk : k < M.length) (r : Rec) :
    (((((w.setCell ⟨g, k * 5, none⟩ (.string r.owner)).setCell ⟨g, k * 5 + 1, none⟩ (.int .i64 r.typ)).setCell ⟨g, k * 5 + 2, none⟩ (.int .i64 r.cls)).setCell ⟨g, k * 5 + 3, none⟩ (.int .i64 r.ttl)).setCell ⟨g, k * 5 + 4, none⟩ (.string r.data)).ownsRow base 42 5 (.slice (some ⟨g, 0, none⟩) n cap) n (recsC (M.set k r)) ∧
    w.grownBy (((((w.setCell ⟨g, k * 5, none⟩ (.string r.owner)).setCell ⟨g, k * 5 + 1, none⟩ (.int .i64 r.typ)).setCell ⟨g, k * 5 + 2, none⟩ (.int .i64 r.cls)).setCell ⟨g, k * 5 + 3, none⟩ (.int .i64 r.ttl)).setCell ⟨g, k * 5 + 4, none⟩ (.string r.data)) (some g) := by
  obtain ⟨h1, g1⟩ := h0.stored (k * 5) (.string r.owner)
  obtain ⟨h2, g2⟩ := h1.stored (k * 5 + 1) (.int .i64 r.typ)
  obtain ⟨h3, g3⟩ := h2.stored (k * 5 + 2) (.int .i64 r.cls)
  obtain ⟨h4, g4⟩ := h3.stored (k * 5 + 3) (.int .i64 r.ttl)
  obtain ⟨h5, g5⟩ := h4.stored (k * 5 + 4) (.string r.data)
  rw [recsC_set r M k hk] at h5
  exact ⟨h5, (((g1.trans g2).trans g3).trans g4).trans g5⟩
theorem own_five {w : World} {base g n cap i : Nat} {xs : List Value} (h : w.ownsRow base 42 5 (.slice (some ⟨g, 0, none⟩) n cap) n xs) (hi : i < n * 5) : ∃ u, w.cell? ⟨g, i, none⟩ = some u ∧ w.frozen? ⟨g, i, none⟩ = false := by
  have h1 := h.cellAt i hi
  rw [List.getElem?_eq_getElem (by rw [h.1]; exact hi)] at h1
  exact ⟨_, h1, h.frozenAt i⟩
theorem own_rec {w : World} {base g n cap j : Nat} {M : List Rec} (h : w.ownsRow base 42 5 (.slice (some ⟨g, 0, none⟩) n cap) n (recsC M)) (hj : j < M.length) : g < w.heap.size ∧ RecAt w g (j * 5) M[j] := by
  have hn : n = M.length := by have := h.1; rw [recsC_len] at this; omega
  subst hn
  have := cells_at (owns_recs h) hj
  rwa [Nat.zero_add] at this
/-- What DeleteFunc answers. -/
def DelPost (p : Rec → Bool) (l : List Rec) (base : Nat) (v : Value) (w : World) (e : Ending) (w' : World) : Prop :=
  ∃ v', e = .returned v' ∧ w'.ownsRow base 42 5 v' (df.keep p l).length (recsC (df.keep p l)) ∧ v'.ownBlock = v.ownBlock ∧ w.grownBy w' v.ownBlock

set_option maxRecDepth 100000 in
set_option maxHeartbeats 4000000 in
theorem deleteFunc_any (g : FuncId) (lb : Array Value) (heg : ∀ args w, (callFunc g args).run Tryz.prog w = .ok (.enter g args) w) (p : Rec → Bool) (base : Nat) (w0 w : World) (l : List Rec) (hl : l.length ≤ 1000000000000) (v : Value)
    (hown : w.ownsRow base 42 5 v l.length (recsC l)) (hB0 : Below base w0 w) (hbase : base ≤ w.heap.size)
    (hcall : ∀ r, r ∈ l → ∀ X, Below base w0 X → Calls Tryz.prog g (#[recV r] ++ lb) X fun e X' => e = .returned (.bool (p r)) ∧ Below X.heap.size X X') :
    Calls Tryz.prog 29 #[v, .func (.func g) #[] lb] w fun e w' => DelPost p l base v w e w' := by
  have hix := indexFunc_any g lb heg p base w0 w l hl v (owns_recs hown) hB0 hbase hcall
  obtain ⟨a, cap, rfl, hcap⟩ := ownsRow_len hown
  have HCALL := Lib.hid hcall
  clear hcall
  cases hf : l.findIdx? p with
  | none =>
    have hn1 : df.idx p l = -1 := by unfold df.idx; rw [hf]
    rw [hn1] at hix
    have hall : ∀ j (hj : j < l.length), p l[j] = false := fun j hj => by
      have := List.findIdx?_eq_none_iff.1 hf l[j] (List.getElem_mem hj)
      simpa using this
    have hpost : ∀ W, Below w.heap.size w W → DelPost p l base (.slice a l.length cap) w (.returned (.slice a l.length cap)) W := fun W hW => by
      refine ⟨_, rfl, ?_, rfl, ⟨hW.os, hW.tape, hW.output, hW.size, fun k hk _ => hW.block k hk⟩⟩
      rw [df.keep_all hall]
      exact ownsRow_below hown hW
    have HIX := Lib.hid hix; have HN1 := Lib.hid hn1; have HF := Lib.hid hf; have HPOST := Lib.hid hpost; have HOWN := Lib.hid hown; have HB0 := Lib.hid hB0; have HALL := Lib.hid hall
    clear hix hn1 hf hpost hown hB0 hall
    go_enter Tryz.func29, Tryz.ntmps29
    go_wp2_with fail
    refine (HIX.out).mono ?_
    rintro e w1 ⟨rfl, hB1⟩
    have HB1 := Lib.hid hB1
    clear hB1
    go_wp2_with fail
    go_ret
    exact HPOST.out _ HB1.out
  | some k =>
    have hn1 : df.idx p l = (k : Int) := by unfold df.idx; rw [hf]
    rw [hn1] at hix
    obtain ⟨hkl, hpk, hno⟩ := List.findIdx?_eq_some_iff_getElem.1 hf
    obtain ⟨hu0, hk0⟩ := df.under_first (p := p) hkl (fun j hj h => by simpa using hno j h) hpk
    obtain ⟨gb, cap', hv, _, hgb⟩ := hown.form (by omega)
    simp only [Value.slice.injEq, true_and] at hv
    obtain ⟨rfl, rfl⟩ := hv
    have hkm : (k : Int) + 1 ≤ 1000000000000 := by omega
    have hkn1 : ((k : Int) == -1) = false := by rw [beq_eq_false_iff_ne]; omega
    have hgb2 : base ≤ gb ∧ gb < w.heap.size := hown.lt gb rfl
    have hcapm : l.length ≤ cap := hcap
    have HIX := Lib.hid hix; have HN1 := Lib.hid hn1; have HF := Lib.hid hf; have HOWN := Lib.hid hown; have HB0 := Lib.hid hB0; have HPK := Lib.hid hpk; have HNO := Lib.hid hno; have HU0 := Lib.hid hu0; have HK0 := Lib.hid hk0; have HGB2 := Lib.hid hgb2
    clear hix hn1 hf hown hB0 hpk hno hu0 hk0 hgb2
    go_enter Tryz.func29, Tryz.ntmps29
    go_wp2_with fail
    refine (HIX.out).mono ?_
    rintro e w1 ⟨rfl, hB1⟩
    have ho1 := ownsRow_below HOWN.out hB1
    have hg1 : w.grownBy w1 (some gb) := ⟨hB1.os, hB1.tape, hB1.output, hB1.size, fun k hk _ => hB1.block k hk⟩
    have HB1 := Lib.hid hB1; have HO1 := Lib.hid ho1; have HG1 := Lib.hid hg1
    clear hB1 ho1 hg1
    go_wp2_with fail
    go_loopw [6, 5, 7] (fun jv iv _ wr => ∃ (j : Nat) (M : List Rec), j ≤ l.length ∧ jv = .int .i64 (j : Int) ∧ iv = .int .i64 ((df.keep p (l.take j)).length : Int) ∧ df.Under p l j M ∧ wr.ownsRow base 42 5 (.slice (some ⟨gb, 0, none⟩) l.length cap) l.length (recsC M) ∧ w.grownBy wr (some gb)) (fun jv _ _ _ => l.length - (intOf jv).toNat)
    case atStart => exact ⟨k + 1, l, hkl, by go_num, by rw [HK0.out], HU0.out, HO1.out, HG1.out⟩
    case round =>
      obtain ⟨j, M, hj, rfl, rfl, hu, ho, hg⟩ := hrel
      obtain ⟨i, hi⟩ : ∃ i, i = (df.keep p (l.take j)).length := ⟨_, rfl⟩
      rw [← hi]
      have hij : i < j := by rw [hi]; exact hu.2.2.2
      have hML : M.length = l.length := hu.1
      by_cases hlt : j < l.length
      · have hjl : (j : Int) < (l.length : Int) := by omega
        have hi0 : (0 : Int) ≤ (i : Int) := by omega
        have hil : (i : Int) < (l.length : Int) := by omega
        obtain ⟨hbl, c0, c1, c2, c3, c4⟩ := own_rec ho (j := j) (by omega)
        obtain ⟨r, hr0⟩ : ∃ r, r = M[j]'(by omega) := ⟨_, rfl⟩
        have hrl : r = l[j] := by rw [hr0]; exact df.under_at hu hlt (by omega)
        rw [← hr0] at c0 c1 c2 c3 c4
        obtain ⟨w2, hw2⟩ : ∃ W, W = wr.alloc (.cells (recC r).toArray 42) := ⟨_, rfl⟩
        obtain ⟨hB2, hs2, hx⟩ := rec_new wr w2 r hw2
        have hBr : Below base w0 wr := HB0.out.grown hg (by have := hbase; omega) (fun q hq => by simp only [Option.some.injEq] at hq; have := HGB2.out.1; omega)
        have hsz := hg.size
        have hcl := HCALL.out r (by rw [hrl]; exact List.getElem_mem _) w2 (hBr.trans (hB2.mono (by omega)))
        obtain ⟨x0, x1, x2, x3, x4⟩ := id hx
        have HHS2 := Lib.hid hs2
        have hlt2 : wr.heap.size < w2.heap.size := by omega
        clear hr0 hs2 hBr
        have HI := Lib.hid hi; have HML := Lib.hid hML; have HU := Lib.hid hu; have HO := Lib.hid ho; have HG := Lib.hid hg; have HW2 := Lib.hid hw2; have HB2 := Lib.hid hB2; have HX := Lib.hid hx; have HCL := Lib.hid hcl; have HRL := Lib.hid hrl
        clear hi hML hu ho hg hw2 hB2 hx hcl hrl
        go_wp2_with fail
        rw [← HW2.out]
        refine (HCL.out).mono ?_
        rintro e w3 ⟨rfl, hB3⟩
        have hB23 : Below wr.heap.size wr w3 := HB2.out.trans (hB3.mono HB2.out.size)
        have ho3 := ownsRow_below HO.out hB23
        have hg3 : w.grownBy w3 (some gb) := HG.out.trans ⟨hB23.os, hB23.tape, hB23.output, hB23.size, fun k hk _ => hB23.block k hk⟩
        have hx3 : RecAt w3 wr.heap.size 0 r := HX.out.keep (hB3.block _ hlt2)
        clear c0 c1 c2 c3 c4 x0 x1 x2 x3 x4
        cases hp : p r
        · obtain ⟨hu2, hln⟩ := df.under_keep HU.out hlt (by rw [← HRL.out]; exact hp)
          rw [← HRL.out, ← HI.out] at hu2
          rw [← HI.out] at hln
          obtain ⟨x0, x1, x2, x3, x4⟩ := id hx3
          obtain ⟨u0, d0, f0⟩ := own_five ho3 (i := i * 5) (by omega)
          obtain ⟨u1, d1, f1⟩ := own_five ho3 (i := i * 5 + 1) (by omega)
          obtain ⟨u2, d2, f2⟩ := own_five ho3 (i := i * 5 + 2) (by omega)
          obtain ⟨u3, d3, f3⟩ := own_five ho3 (i := i * 5 + 3) (by omega)
          obtain ⟨u4, d4, f4⟩ := own_five ho3 (i := i * 5 + 4) (by omega)
          obtain ⟨hop, hgp⟩ := own_put ho3 (k := i) (by rw [HML.out]; omega) r
          have hg4 := hg3.trans hgp
          have HP := Lib.hid hp; have HU2 := Lib.hid hu2; have HLN := Lib.hid hln; have HOP := Lib.hid hop; have HG4 := Lib.hid hg4; have HGP := Lib.hid hgp; have HB3 := Lib.hid hB3; have HB23 := Lib.hid hB23; have HO3 := Lib.hid ho3; have HG3 := Lib.hid hg3; have HX3 := Lib.hid hx3
          clear hp hu2 hln hop hg4 hgp hB3 hB23 ho3 hg3 hx3
          go_wp2_with fail
          go_roundw
          case rel => exact ⟨j + 1, M.set i r, by omega, by go_num, by rw [HLN.out]; go_num, HU2.out, HOP.out, HG4.out⟩
          case measure => simp [intOf]; omega
        · have hu2 := df.under_drop HU.out hlt (by rw [← HRL.out]; exact hp)
          have hln : (df.keep p (l.take (j + 1))).length = i := by rw [df.keep_next hlt, if_pos (by rw [← HRL.out]; exact hp), List.append_nil]; exact HI.out.symm
          have HP := Lib.hid hp; have HU2 := Lib.hid hu2; have HLN := Lib.hid hln; have HB3 := Lib.hid hB3; have HB23 := Lib.hid hB23; have HO3 := Lib.hid ho3; have HG3 := Lib.hid hg3; have HX3 := Lib.hid hx3
          clear hp hu2 hln hB3 hB23 ho3 hg3 hx3
          go_wp2_with fail
          go_roundw
          case rel => exact ⟨j + 1, M, by omega, by go_num, by rw [HLN.out], HU2.out, HO3.out, HG3.out⟩
          case measure => simp [intOf]; omega
      · obtain rfl : l.length = j := by omega
        obtain ⟨hcl, hos, hgs⟩ := own_clear ho (i := i) hij
        have hil : (i : Int) ≤ (l.length : Int) := by omega
        have hi0 : (0 : Int) ≤ (i : Int) := by omega
        have hic : (i : Int) ≤ (cap : Int) := by omega
        have hpost : DelPost p l base (.slice (some ⟨gb, 0, none⟩) l.length cap) w (.returned (.slice (some ⟨gb, 0, none⟩) i cap)) (wr.setCells gb (i * 5) (recsC (List.replicate (l.length - i) zeroR))) := by
          have hkl : df.keep p (l.take l.length) = df.keep p l := by rw [List.take_length]
          have h2 := hu.2.1
          rw [hkl] at h2 hi
          rw [← hi] at h2
          rw [h2] at hos
          exact ⟨_, rfl, by rw [← hi]; exact hos, rfl, hg.trans hgs⟩
        clear hlt hj
        have HPOST := Lib.hid hpost; have HU := Lib.hid hu; have HO := Lib.hid ho; have HG := Lib.hid hg; have HOS := Lib.hid hos; have HGS := Lib.hid hgs; have HML := Lib.hid hML; have HI := Lib.hid hi
        clear hpost hu ho hg hos hgs hML hi
        go_wp2_with fail
        go_ret
        exact HPOST.out
end Go.Proofs.YtnloommafgnanaaGreat

/-
  slices.Delete of one record.
-/
namespace Go.Proofs.YtnloommafgnanaaGreat
open Go.RowKit Go.Shelf Go.Proofs.YtnloommafgnanaaGreat.nm Go.Proofs.YtnloommafgnanaaGreat.od

theorem recsC_drop (l : List Rec) : ∀ (m : Nat), (recsC l).drop (m * 5) = recsC (l.drop m) := by
  induction l with
  | nil => intro m; simp [recsC]
  | cons a t ih =>
    intro m
    cases m with
    | zero => rfl
    | succ m =>
      have e : recsC (a :: t) = .string a.owner :: .int .i64 a.typ :: .int .i64 a.cls :: .int .i64 a.ttl :: .string a.data :: recsC t := rfl
      rw [e, show (m + 1) * 5 = m * 5 + 1 + 1 + 1 + 1 + 1 by omega]
      simp only [List.drop_succ_cons]
      rw [ih m]
theorem recsC_cat (a b : List Rec) : recsC (a ++ b) = recsC a ++ recsC b := by unfold recsC; exact List.flatMap_append
/-- A run of records laid into a row. -/
theorem own_setRun {w : World} {base g n cap k : Nat} {l : List Rec} (h : w.ownsRow base 42 5 (.slice (some ⟨g, 0, none⟩) n cap) n (recsC l)) (m : List Rec) (hk : k + m.length ≤ n) :
    (w.setCells g (k * 5) (recsC m)).ownsRow base 42 5 (.slice (some ⟨g, 0, none⟩) n cap) n (recsC (l.take k ++ m ++ l.drop (k + m.length))) ∧ w.grownBy (w.setCells g (k * 5) (recsC m)) (some g) := by
  have hml : (recsC l).length = n * 5 := h.1
  have hln : l.length = n := by rw [recsC_len] at hml; omega
  have hm5 : (recsC m).length = m.length * 5 := recsC_len m
  rcases h.2 with ⟨h0, _⟩ | ⟨g', cap', cur, hv, hb, hg, hn, hc, hz, hx⟩
  · cases h0
  · simp only [Value.slice.injEq, Option.some.injEq, Addr.mk.injEq, and_true, true_and] at hv
    obtain ⟨rfl, rfl⟩ := hv
    have hnc : n * 5 ≤ cap * 5 := Nat.mul_le_mul_right _ hn
    obtain ⟨cur', h1, h2, h3, h4⟩ := setCells_heap g 42 (recsC m) (k * 5) cur w hg (by rw [hm5, hz]; omega)
    have hcl : cur.toList.length = cap * 5 := by rw [Array.length_toList, hz]
    refine ⟨⟨by rw [recsC_len]; simp; omega, .inr ⟨g, cap, cur', rfl, hb, h1, hn, hc, by rw [h2, hz], ?_⟩⟩, h4⟩
    have e1 : cur.toList.take (k * 5) = recsC (l.take k) := by
      rw [← recsC_take, ← hx, List.take_take, Nat.min_eq_left (by omega)]
    have e2 : (cur.toList.drop (k * 5 + (recsC m).length)).take (n * 5 - (k * 5 + m.length * 5)) = recsC (l.drop (k + m.length)) := by
      rw [← recsC_drop, ← hx, hm5, List.drop_take, Nat.add_mul]
    rw [h3, recsC_cat, recsC_cat, e1]
    rw [List.take_append, List.take_of_length_le (by rw [List.length_append, recsC_len, hm5, List.length_take]; omega), ← e2]
    congr 2
    rw [List.length_append, recsC_len, hm5, List.length_take]
    omega
theorem erase_is (l : List Rec) (k : Nat) (hk : k < l.length) : l.take k ++ l.drop (k + 1) ++ l.drop (k + (l.drop (k + 1)).length) = l.eraseIdx k ++ [l[l.length - 1]'(by omega)] := by
  rw [List.eraseIdx_eq_take_drop_succ]
  congr 1
  rw [List.length_drop, show k + (l.length - (k + 1)) = l.length - 1 by omega]
  exact (List.drop_eq_getElem_cons (by omega)).trans (by rw [List.drop_of_length_le (by omega)])
set_option maxRecDepth 100000 in
set_option maxHeartbeats 4000000 in
theorem delete_any (l : List Rec) (hl : l.length ≤ 1000000000000) (k : Nat) (hk : k < l.length) (base b cap : Nat) (w : World) (hown : w.ownsRow base 42 5 (.slice (some ⟨b, 0, none⟩) l.length cap) l.length (recsC l)) :
    Calls Tryz.prog 26 #[.slice (some ⟨b, 0, none⟩) l.length cap, .int .i64 (k : Int), .int .i64 ((k + 1 : Nat) : Int)] w fun e w' =>
      e = .returned (.slice (some ⟨b, 0, none⟩) (l.length - 1) cap) ∧ w.grownBy w' (some b) ∧ w'.ownsRow base 42 5 (.slice (some ⟨b, 0, none⟩) (l.length - 1) cap) (l.length - 1) (recsC (l.eraseIdx k)) := by
  obtain ⟨i0_r, hi_r, hz_r, hz1_r, hz2_r⟩ := info_parts info_rec
  have hcap : l.length ≤ cap := by
    rcases hown.2 with ⟨h0, _⟩ | ⟨_, _, _, hv, _, _, hn, _⟩
    · cases h0
    · simp only [Value.slice.injEq, Option.some.injEq, Addr.mk.injEq, and_true, true_and] at hv
      obtain ⟨rfl, rfl⟩ := hv
      exact hn
  obtain ⟨n, hn⟩ : ∃ n, n = l.length := ⟨_, rfl⟩
  obtain ⟨k1, hk1⟩ : ∃ k1, k1 = k + 1 := ⟨_, rfl⟩
  obtain ⟨n1, hn1⟩ : ∃ n1, n1 = n - 1 := ⟨_, rfl⟩
  rw [← hn, ← hk1]
  rw [← hn] at hown hcap hl hk
  have hml : (recsC l).length = n * 5 := hown.1
  have hdl : (l.drop k1).length = n - k1 := by rw [List.length_drop, hn]
  have hm5 : (recsC (l.drop k1)).length = (n - k1) * 5 := by rw [recsC_len, hdl]
  obtain ⟨hset, hgs⟩ := own_setRun (w := w.drew) (show w.drew.ownsRow base 42 5 (.slice (some ⟨b, 0, none⟩) n cap) n (recsC l) from hown) (l.drop k1) (k := k) (by rw [hdl]; omega)
  rw [hk1, erase_is l k (by omega), ← hk1] at hset
  obtain ⟨z, hz⟩ : ∃ z, z = l[l.length - 1]'(by omega) := ⟨_, rfl⟩
  rw [← hz] at hset
  clear hz
  have hnews : ∀ (A : Addr), (k1 < n → A = ⟨b, k1 * 5, none⟩) → ∀ j u, (recsC (l.drop k1))[j]? = some u → w.drew.cell? (A.add j) = some u := fun A hA j u hj => by
    have hjl : j < (n - k1) * 5 := by rw [← hm5]; exact (List.getElem?_eq_some_iff.1 hj).1
    rw [hA (by omega), Addr.add_lit]
    show w.cell? _ = _
    rw [hown.cellAt (k1 * 5 + j) (by have := Nat.mul_le_mul_right 5 (show k1 ≤ n by omega); rw [Nat.sub_mul] at hjl; omega), ← hj, ← recsC_drop, List.getElem?_drop]
  have hspare : ∀ j, j < (recsC (l.drop k1)).length → (w.drew.cell? ⟨b, 0 + k * 5 + j, none⟩).isSome = true ∧ w.drew.frozen? ⟨b, 0 + k * 5 + j, none⟩ = false := fun j hj => by
    rw [hm5] at hj
    have h1 := Nat.mul_le_mul_right 5 (show k1 ≤ n by omega)
    rw [Nat.sub_mul] at hj
    have hlt : k * 5 + j < n * 5 := by omega
    refine ⟨?_, hown.frozenAt _⟩
    show (w.cell? _).isSome = true
    rw [Nat.zero_add, hown.cellAt (k * 5 + j) hlt, List.getElem?_eq_getElem (by rw [hml]; exact hlt)]
    rfl
  have s1 := Lib.hid (show (recsC (l.drop k1)).length = (n - k1) * 5 from hm5)
  have s2 := Lib.hid (recs_one (l.drop k1))
  have HNEWS := Lib.hid hnews; have HSPARE := Lib.hid hspare; have HSET := Lib.hid hset; have HGS := Lib.hid hgs; have HOWN := Lib.hid hown
  have HI := Lib.hid hi_r; have HZ1 := Lib.hid hz1_r
  have HN := Lib.hid hn; have HK1 := Lib.hid hk1; have HN1 := Lib.hid hn1
  have ne1 : ((k : Int) == (k1 : Int)) = false := by rw [beq_eq_false_iff_ne]; omega
  have hk1' : k1 ≤ n := by omega
  have hkk : k < k1 := by omega
  have b1 : (k : Int) ≤ (k1 : Int) := by omega
  have b2 : (k1 : Int) ≤ (n : Int) := by omega
  have b3 : (n : Int) ≤ (cap : Int) := by omega
  have b4 : (k : Int) ≤ (cap : Int) := by omega
  have b5 : (k1 : Int) ≤ (cap : Int) := by omega
  have b6 : (0 : Int) ≤ (k : Int) := by omega
  have b7 : (0 : Int) ≤ (k1 : Int) := by omega
  clear hnews hspare hset hgs hown hi_r hz1_r hz_r hz2_r hml hdl hm5 hn hk1 hn1
  go_enter Tryz.func26, Tryz.ntmps26
  go_upto_region 5 with fail
  by_cases hcc : cap = k1
  · have hc2 : (k1 : Int) = (cap : Int) := by omega
    have hkn : ¬ k1 < n := by omega
    have HKN := Lib.hid hkn
    have HCC := Lib.hid hcc
    have hcn : cap ≤ n := by omega
    have s0 := Lib.hid (show (recsC (l.drop k1)).length = 0 * 5 from by have := s1.out; omega)
    clear hcc hkn
    go_region_law (refine step_append_room rfl (.tmp 22) (.tmp 25) 22 rfl 42 i0_r 5 Tryz.underlying22 HI.out HZ1.out b 0 k cap (by simp [Act.eval, Act.put]) ⟨b, 0, none⟩ 0 0 (recsC (l.drop k1)) (by simp [Act.eval, Act.put]) s0.out (HNEWS.out _ (fun h => absurd h HKN.out)) s2.out (by omega) HSPARE.out ?_)
    obtain rfl : n1 = k := by have := HN1.out; have := HK1.out; have := HCC.out; omega
    obtain ⟨W1, hW1⟩ : ∃ W, W = w.drew.setCells b (n1 * 5) (recsC (l.drop k1)) := ⟨_, rfl⟩
    have hset := HSET.out
    rw [← hW1] at hset ⊢
    obtain ⟨hcl, hos, hgc⟩ := own_clear hset (i := n1) (by have := HN1.out; omega)
    have hgd : w.grownBy w.drew (some b) := ⟨rfl, rfl, rfl, Nat.le_refl _, fun _ _ _ => rfl⟩
    have hgw : w.grownBy (W1.setCells b (n1 * 5) (recsC (List.replicate (n - n1) zeroR))) (some b) := (hgd.trans (by have h := HGS.out; rw [← hW1] at h; exact h)).trans hgc
    have hel : (l.eraseIdx n1 ++ [z]).take n1 = l.eraseIdx n1 := by
      have : (l.eraseIdx n1).length = n1 := by rw [List.length_eraseIdx, if_pos (by have := HN.out; omega)]; have := HN1.out; have := HN.out; omega
      exact (congrArg (fun m => (l.eraseIdx n1 ++ [z]).take m) this.symm).trans List.take_left
    rw [hel] at hos
    have HW1 := Lib.hid hW1
    have c1 : (n1 : Int) ≤ (n : Int) := by have := HN1.out; omega
    have c2 : (0 : Int) ≤ (n1 : Int) := by omega
    have c3 : (n1 : Int) ≤ (cap : Int) := by omega
    have c4 : ¬ (n1 : Int) = (cap : Int) := by have := HN1.out; omega
    have c5 : ¬ cap = n1 := by have := HN1.out; omega
    have c6 : n1 < n := by have := HN1.out; omega
    have HOS := Lib.hid hos; have HGW := Lib.hid hgw
    clear hset hos hgw hgc hgd hW1 hel
    go_wp2_with fail
    go_ret
    have en : n - 1 = n1 := HN1.out.symm
    rw [en]
    exact ⟨rfl, HGW.out, HOS.out⟩
  · have hc2 : ¬ (k1 : Int) = (cap : Int) := by omega
    have hc4 : ((k1 : Int) == (cap : Int)) = false := by rw [beq_eq_false_iff_ne]; omega
    go_region_law (refine step_append_room rfl (.tmp 22) (.tmp 25) 22 rfl 42 i0_r 5 Tryz.underlying22 HI.out HZ1.out b 0 k cap (by simp [Act.eval, Act.put]) ⟨b, k1 * 5, none⟩ (n - k1) (cap - k1) (recsC (l.drop k1)) (by simp [Act.eval, Act.put]) s1.out (HNEWS.out _ (fun _ => rfl)) s2.out (by omega) HSPARE.out ?_)
    have e : k + (n - k1) = n1 := by have := HN1.out; have := HK1.out; omega
    rw [e]
    obtain ⟨W1, hW1⟩ : ∃ W, W = w.drew.setCells b (k * 5) (recsC (l.drop k1)) := ⟨_, rfl⟩
    have hset := HSET.out
    rw [← hW1] at hset ⊢
    obtain ⟨hcl, hos, hgc⟩ := own_clear hset (i := n1) (by have := HN1.out; omega)
    have hgd : w.grownBy w.drew (some b) := ⟨rfl, rfl, rfl, Nat.le_refl _, fun _ _ _ => rfl⟩
    have hgw : w.grownBy (W1.setCells b (n1 * 5) (recsC (List.replicate (n - n1) zeroR))) (some b) := (hgd.trans (by have h := HGS.out; rw [← hW1] at h; exact h)).trans hgc
    have hel : (l.eraseIdx k ++ [z]).take n1 = l.eraseIdx k := by
      have : (l.eraseIdx k).length = n1 := by rw [List.length_eraseIdx, if_pos (by have := HN.out; omega)]; have := HN1.out; have := HN.out; omega
      exact (congrArg (fun m => (l.eraseIdx k ++ [z]).take m) this.symm).trans List.take_left
    rw [hel] at hos
    have HW1 := Lib.hid hW1
    have c1 : (n1 : Int) ≤ (n : Int) := by have := HN1.out; omega
    have c2 : (0 : Int) ≤ (n1 : Int) := by omega
    have c3 : (n1 : Int) ≤ (cap : Int) := by omega
    have c4 : ¬ (n1 : Int) = (cap : Int) := by have := HN1.out; omega
    have c5 : ¬ cap = n1 := by have := HN1.out; omega
    have c6 : n1 < n := by have := HN1.out; omega
    have HOS := Lib.hid hos; have HGW := Lib.hid hgw
    clear hset hos hgw hgc hgd hW1 hel e
    go_wp2_with fail
    go_ret
    have en : n - 1 = n1 := HN1.out.symm
    rw [en]
    exact ⟨rfl, HGW.out, HOS.out⟩
end Go.Proofs.YtnloommafgnanaaGreat

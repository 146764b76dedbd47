/-
  What zone.Find needs: what is there, looked up; a row whose owners are written over; how the way down ends.
-/
import Derived.Test.YtpjoaghnciomeaaGreatZoneS
import Derived.Test.YtpjoaghnciomeaaGreatFindP
namespace Go.Proofs.YtpjoaghnciomeaaGreat
open Go.RowKit Go.Shelf Go.WideMaps Go.Proofs.YtpjoaghnciomeaaGreat.nm Go.Proofs.YtpjoaghnciomeaaGreat.od

/-- there[n]. -/
theorem theres_look {w : World} {tb c : Nat} {l0 L : List Rec} (hp : l0.Perm L) (h : TheresV w tb (zn.domT c l0)) (n : ByteArray) : ∃ f : Int, ∀ W, Below w.heap.size w W →
    (Instr.lookup 73 (.map (some tb)) (.string (foldS n)) true).run Tryz.prog W = .ok (.tuple #[.int .i64 f, .bool (zn.thereB c L n)]) W := by
  obtain ⟨f, h⟩ := h
  have hd : foldS n ∈ zn.domT c l0 ↔ foldS n ∈ zn.domT c L := by
    rw [zn.mem_domT, zn.mem_domT]
    exact ⟨fun ⟨r, hr, h⟩ => ⟨r, hp.mem_iff.1 hr, h⟩, fun ⟨r, hr, h⟩ => ⟨r, hp.mem_iff.2 hr, h⟩⟩
  refine ⟨if foldS n ∈ zn.domT c l0 then f (foldS n) else 0, fun W hW => ?_⟩
  have h1 := mapF_look_ok strE Tryz.underlying73 zero_int (h.below hW h.lt) (a := foldS n) (fold_ok n)
  rw [h1]
  have e1 : (if foldS n ∈ zn.domT c l0 then Value.int .i64 (f (foldS n)) else Value.int .i64 0) = .int .i64 (if foldS n ∈ zn.domT c l0 then f (foldS n) else 0) := by split <;> rfl
  have e2 : decide (foldS n ∈ zn.domT c l0) = zn.thereB c L n := by unfold zn.thereB; exact decide_eq_decide.2 hd
  rw [e1, e2]

namespace zn
theorem findTo_hit {c : Nat} {L : List Rec} {q : ByteArray} {t : Int} {j : Nat} {f : Fnd} (h : findTo c L q t j = none) (hs : stopAt L q t (c + (j + 1)) = some f) : ∀ d, findTo c L q t (j + 1 + d) = some f
  | 0 => by rw [Nat.add_zero, findTo_next, h, hs]; rfl
  | d + 1 => by rw [show j + 1 + (d + 1) = (j + 1 + d) + 1 by omega, findTo_next, findTo_hit h hs d]; rfl
theorem findTo_miss {c : Nat} {L : List Rec} {q : ByteArray} {t : Int} {j : Nat} (h : findTo c L q t j = none) (hs : stopAt L q t (c + (j + 1)) = none) : findTo c L q t (j + 1) = none := by
  rw [findTo_next, h, hs]; rfl
theorem findR_out {apex : ByteArray} {L : List Rec} {q : ByteArray} {t : Int} (h : ¬ (withinB q apex = true ∧ 1 ≤ t ∧ t ≤ 65535)) : findR apex L q t = noFnd := by unfold findR; rw [if_neg h]
theorem findR_hit {apex : ByteArray} {L : List Rec} {q : ByteArray} {t : Int} {x a : List (List UInt8)} (hw : withinB q apex = true ∧ 1 ≤ t ∧ t ≤ 65535) (hx : AskIn apex q x a) {f : Fnd} (h : findTo a.length L q t (x.length - a.length) = some f) : findR apex L q t = f := by
  unfold findR
  rw [if_pos hw, count_of hx.q, count_of hx.apex, Int.toNat_natCast, Int.toNat_natCast, h]
theorem findR_miss {apex : ByteArray} {L : List Rec} {q : ByteArray} {t : Int} {x a : List (List UInt8)} (hw : withinB q apex = true ∧ 1 ≤ t ∧ t ≤ 65535) (hx : AskIn apex q x a) (h : findTo a.length L q t (x.length - a.length) = none) :
    findR apex L q t = restR a.length L q t (enclTo a.length L q (x.length - a.length)) := by
  unfold findR
  rw [if_pos hw, count_of hx.q, count_of hx.apex, Int.toNat_natCast, Int.toNat_natCast, h]
/-- The owners of the first so many records, written over. -/
def ownTo (q : ByteArray) (l : List Rec) (k : Nat) : List Rec := owned q (l.take k) ++ l.drop k
theorem ownTo_zero (q : ByteArray) (l : List Rec) : ownTo q l 0 = l := by simp [ownTo, owned]
theorem ownTo_all (q : ByteArray) (l : List Rec) : ownTo q l l.length = owned q l := by simp [ownTo]
theorem ownTo_len (q : ByteArray) (l : List Rec) (k : Nat) : (ownTo q l k).length = l.length := by
  unfold ownTo owned
  rw [List.length_append, List.length_map, List.length_take, List.length_drop]
  omega
theorem ownTo_next {q : ByteArray} {l : List Rec} {k : Nat} (h : k < l.length) : ownTo q l k = owned q (l.take k) ++ l[k] :: l.drop (k + 1) ∧ ownTo q l (k + 1) = owned q (l.take k) ++ { l[k] with owner := q } :: l.drop (k + 1) := by
  unfold ownTo
  refine ⟨by rw [List.drop_eq_getElem_cons h], ?_⟩
  rw [List.take_succ_eq_append_getElem h]
  unfold owned
  rw [List.map_append]
  simp
end zn

theorem recsC_apps (a b : List Rec) : recsC (a ++ b) = recsC a ++ recsC b := by unfold recsC; rw [List.flatMap_append]
theorem recsC_cons (r : Rec) (b : List Rec) : recsC (r :: b) = recC r ++ recsC b := by unfold recsC; rw [List.flatMap_cons]
/-- An owner, written over in a row of the call's own. -/
theorem ownsRow_owner {w : World} {base g n cap k : Nat} {q : ByteArray} {l : List Rec} (h : w.ownsRow base 53 5 (.slice (some ⟨g, 0, none⟩) n cap) n (recsC (zn.ownTo q l k))) (hk : k < l.length) (hn : n = l.length) :
    (w.setCell ⟨g, k * 5, none⟩ (.string q)).ownsRow base 53 5 (.slice (some ⟨g, 0, none⟩) n cap) n (recsC (zn.ownTo q l (k + 1))) := by
  subst hn
  obtain ⟨h1, h2⟩ := h
  refine ⟨by rw [recsC_len, zn.ownTo_len], ?_⟩
  rcases h2 with ⟨h3, _⟩ | ⟨g', cap', cur, hv, hb, hg, hc, hm, hs, ht⟩
  · cases h3
  · simp only [Value.slice.injEq, Option.some.injEq, Addr.mk.injEq, and_true, true_and] at hv
    obtain ⟨rfl, rfl⟩ := hv
    refine .inr ⟨g, cap, _, rfl, hb, heap_set_at hg _ _, hc, hm, by simpa using hs, ?_⟩
    rw [Array.toList_setIfInBounds, List.take_set, ht]
    obtain ⟨e1, e2⟩ := zn.ownTo_next (q := q) hk
    rw [e1, e2, recsC_apps, recsC_apps, recsC_cons, recsC_cons]
    have hl : (recsC (zn.owned q (l.take k))).length = k * 5 := by
      rw [recsC_len]
      unfold zn.owned
      rw [List.length_map, List.length_take]
      congr 1
      omega
    rw [List.set_append_right _ _ (by omega), hl, Nat.sub_self]
    rfl
end Go.Proofs.YtpjoaghnciomeaaGreat
/-
  zone.Find.
-/
namespace Go.Proofs.YtpjoaghnciomeaaGreat
open Go.RowKit Go.Shelf Go.WideMaps Go.Proofs.YtpjoaghnciomeaaGreat.nm Go.Proofs.YtpjoaghnciomeaaGreat.od

/-- Five cells, each told by itself. -/
theorem found_facts {w : World} {g : Nat} {T : TypeId} {a0 a1 a2 a3 a4 : Value} (h : w.heap[g]? = some (.cells #[a0, a1, a2, a3, a4] T (0, 0))) :
    w.cell? ⟨g, 0, none⟩ = some a0 ∧ w.cell? ⟨g, 1, none⟩ = some a1 ∧ w.cell? ⟨g, 2, none⟩ = some a2 ∧ w.cell? ⟨g, 3, none⟩ = some a3 ∧ w.cell? ⟨g, 4, none⟩ = some a4 ∧
    w.frozen? ⟨g, 0, none⟩ = false ∧ w.frozen? ⟨g, 1, none⟩ = false ∧ w.frozen? ⟨g, 2, none⟩ = false ∧ w.frozen? ⟨g, 3, none⟩ = false ∧ w.frozen? ⟨g, 4, none⟩ = false :=
  ⟨by rw [heap_cell h]; rfl, by rw [heap_cell h]; rfl, by rw [heap_cell h]; rfl, by rw [heap_cell h]; rfl, by rw [heap_cell h]; rfl, heap_frozen h 0, heap_frozen h 1, heap_frozen h 2, heap_frozen h 3, heap_frozen h 4⟩
theorem star_size (s : ByteArray) : (starS s).size ≤ 255 := by
  unfold starS
  split
  · rename_i h
    have h1 : starHead.size = 2 := rfl
    rw [ByteArray.size_append, h1]
    omega
  · decide

theorem stands_len (L : List Rec) (n : ByteArray) (t : Int) (o e : ByteArray) (w : Bool) : (zn.standsR L n t o e w).recs.length ≤ L.length := by
  obtain ⟨_, _, _, h | h | h⟩ := zn.stands_kind L n t o e w
  · rw [h.2.1]; exact atL_len L n 5
  · rw [h.2]; exact atL_len L n t
  · rw [h.2.1]; simp

set_option maxRecDepth 100000 in
set_option maxHeartbeats 4000000 in
theorem find_any (top z : Nat) (apex : ByteArray) (L : List Rec) (q : ByteArray) (t : Int) (ht : (Lit.int .i64 t).wf = true) (w : World) (hz : ZoneF w top z apex L) :
    Calls Tryz.prog 26 #[.pointer (some ⟨z, 0, none⟩), .string q, .int .i64 t] w fun e w' => NewFnd (zn.findR apex L q t) w e w' := by
  obtain ⟨base, rg, cap, sb, tb, l0, hp, hzc, _, _, hth⟩ := hz.v.parts
  have hzl := heap_lt hzc
  have htl := hth.lt
  obtain ⟨w1, hw1⟩ : ∃ X, X = w.alloc (.cells #[.int .i64 0, .string ⟨#[]⟩, .string ⟨#[]⟩, .bool false, .slice none 0 0] 48) := ⟨_, rfl⟩
  have hB1 : Below w.heap.size w w1 := by rw [hw1]; exact (Below.refl _ w).alloc (Nat.le_refl _) _
  have h6 : w1.heap[w.heap.size]? = some (.cells #[.int .i64 0, .string ⟨#[]⟩, .string ⟨#[]⟩, .bool false, .slice none 0 0] 48 (0, 0)) := by rw [hw1]; exact heap_new_at rfl
  have hs1 : w1.heap.size = w.heap.size + 1 := by rw [hw1]; simp
  have hz1 := (hB1.block z hzl).trans hzc
  have z0 : w1.cell? ⟨z, 0, none⟩ = some (.string apex) := by rw [heap_cell hz1]; rfl
  have HW1 := Lib.hid hw1; have HB1 := Lib.hid hB1; have H6 := Lib.hid h6; have HZ1 := Lib.hid hz1; have HP := Lib.hid hp; have HTH := Lib.hid (hth.below hB1); have HZF := Lib.hid (hz.kept hB1); have HTW := Lib.hid ht
  clear hw1 hB1 h6 hz1 hp hzc hth hz ht
  obtain ⟨bb, hbb⟩ : ∃ b, b = (!withinB q apex || decide (t < 1) || decide (65535 < t)) := ⟨_, rfl⟩
  have HBB := Lib.hid hbb
  clear hbb
  go_enter Tryz.func26, Tryz.ntmps26
  go_upto_region 1 with fail
  rw [← HW1.out]
  go_cut [33] (fun s wx => s = .bool bb ∧ Below w1.heap.size w1 wx)
  case first =>
    go_wp2_with fail
    refine (within_any q apex _).mono ?_
    rintro e w2 ⟨rfl, hB2⟩
    have HB2 := Lib.hid hB2
    clear hB2 z0
    cases hwi : withinB q apex
    · have HWI := Lib.hid hwi
      clear hwi
      go_wp2_with fail
      go_meet
      exact ⟨by rw [HBB.out, HWI.out]; rfl, HB2.out⟩
    · have HWI := Lib.hid hwi
      clear hwi
      by_cases h1 : t < 1
      · go_wp2_with fail
        go_meet
        exact ⟨by rw [HBB.out, HWI.out, decide_eq_true h1]; rfl, HB2.out⟩
      · by_cases h2 : 65535 < t
        · have H1 := Lib.hid h1
          have h1' : 1 ≤ t := by omega
          clear h1
          go_wp2_with fail
          go_meet
          exact ⟨by rw [HBB.out, HWI.out, decide_eq_false (show ¬ t < 1 by omega), decide_eq_true h2]; rfl, HB2.out⟩
        · have H1 := Lib.hid h1; have H2 := Lib.hid h2
          have h1' : 1 ≤ t := by omega
          have h2' : t ≤ 65535 := by omega
          clear h1 h2
          go_wp2_with fail
          go_meet
          exact ⟨by rw [HBB.out, HWI.out]; rfl, HB2.out⟩
  case rest =>
  obtain ⟨rfl, hB2⟩ := hcut
  have hB02 : Below w.heap.size w wc := HB1.out.trans (hB2.mono (by omega))
  have h62 := (hB2.block w.heap.size (by omega)).trans H6.out
  have c0 : wc.cell? ⟨w.heap.size, 0, none⟩ = some (.int .i64 0) := by rw [heap_cell h62]; rfl
  have c1 : wc.cell? ⟨w.heap.size, 1, none⟩ = some (.string ⟨#[]⟩) := by rw [heap_cell h62]; rfl
  have c2 : wc.cell? ⟨w.heap.size, 2, none⟩ = some (.string ⟨#[]⟩) := by rw [heap_cell h62]; rfl
  have c3 : wc.cell? ⟨w.heap.size, 3, none⟩ = some (.bool false) := by rw [heap_cell h62]; rfl
  have c4 : wc.cell? ⟨w.heap.size, 4, none⟩ = some (.slice none 0 0) := by rw [heap_cell h62]; rfl
  have f0 : wc.frozen? ⟨w.heap.size, 0, none⟩ = false := heap_frozen h62 0
  have f1 : wc.frozen? ⟨w.heap.size, 1, none⟩ = false := heap_frozen h62 1
  have f2 : wc.frozen? ⟨w.heap.size, 2, none⟩ = false := heap_frozen h62 2
  have f3 : wc.frozen? ⟨w.heap.size, 3, none⟩ = false := heap_frozen h62 3
  have f4 : wc.frozen? ⟨w.heap.size, 4, none⟩ = false := heap_frozen h62 4
  have HB02 := Lib.hid hB02; have HB2 := Lib.hid hB2; have H62 := Lib.hid h62
  clear hB02 h62
  cases bb
  · have hin : withinB q apex = true ∧ 1 ≤ t ∧ t ≤ 65535 := by
      have h := HBB.out
      simp only [Bool.false_eq, Bool.or_eq_false_iff, Bool.not_eq_false', decide_eq_false_iff_not] at h
      exact ⟨h.1.1, by omega, by omega⟩
    obtain ⟨x, a, hx⟩ := zn.ask_in hin.1
    have hle := hx.le
    have hxl : x.length ≤ 255 := by have h := countI_le q; rw [count_of hx.q] at h; omega
    have hca : countI apex = (a.length : Int) := count_of hx.apex
    have hcq : countI q = (x.length : Int) := count_of hx.q
    have HIN := Lib.hid hin; have HX := Lib.hid hx; have HCA := Lib.hid hca; have HCQ := Lib.hid hcq
    have hzz := (hB2.block z (by omega)).trans HZ1.out
    have z0' : wc.cell? ⟨z, 0, none⟩ = some (.string apex) := by rw [heap_cell hzz]; rfl
    clear hin hx hca hcq z0 c0 c1 c2 c3 c4 f0 f1 f2 f3 f4 hzz
    go_wp2_with fail
    refine (count_any _ _).mono ?_
    rintro e w3 ⟨rfl, hB3⟩
    rw [HCA.out]
    go_wp2_with fail
    refine (tail_any _ _ _).mono ?_
    rintro e w4 ⟨rfl, hB4⟩
    have hB4' : Below w1.heap.size w1 w4 := (hB2.trans (hB3.mono hB2.size)).trans (hB4.mono (Nat.le_trans hB2.size hB3.size))
    have hzz := (hB4'.block z (by omega)).trans HZ1.out
    have z0'' : w4.cell? ⟨z, 0, none⟩ = some (.string apex) := by rw [heap_cell hzz]; rfl
    clear hB3 hB4 z0' hzz
    go_wp2_with fail
    refine (count_any _ _).mono ?_
    rintro e w5 ⟨rfl, hB5⟩
    rw [HCA.out]
    have HB5 := Lib.hid (hB4'.trans (hB5.mono hB4'.size))
    clear hB4' hB5 z0'' hB2
    go_wp2_with fail
    go_loopw [8, 7, 9, 10, 11, 12, 13] (fun kv ev _ _ _ _ _ wr => ∃ j : Nat, j ≤ x.length - a.length ∧ kv = .int .i64 ((a.length : Int) + 1 + (j : Int)) ∧ ev = .string (zn.enclTo a.length L q j) ∧ zn.findTo a.length L q t j = none ∧ Below w1.heap.size w1 wr) (fun kv _ _ _ _ _ _ _ => x.length + 1 - (intOf kv).toNat)
    case atStart => exact ⟨0, Nat.zero_le _, by simp, rfl, rfl, HB5.out⟩
    case round =>
      obtain ⟨j, hj, rfl, rfl, hno, hB⟩ := hrel
      have HNO := Lib.hid hno; have HB := Lib.hid hB
      have hsr := hB.size
      clear hno hB
      go_wp2_with fail
      refine (count_any _ _).mono ?_
      rintro e w6 ⟨rfl, hB6⟩
      rw [HCQ.out]
      have HB6 := Lib.hid (HB.out.trans (hB6.mono hsr))
      have hs6 := HB6.out.size
      clear hB6
      by_cases hlt : a.length + 1 + j ≤ x.length
      · have hlt' : (a.length : Int) + 1 + (j : Int) ≤ (x.length : Int) := by omega
        go_wp2_with fail
        refine (tail_any _ _ _).mono ?_
        rintro e w7 ⟨rfl, hB7⟩
        obtain ⟨n, hn⟩ : ∃ n, n = tailS q ((a.length : Int) + 1 + (j : Int)) := ⟨_, rfl⟩
        rw [← hn]
        have hnk : tailS q ((a.length + (j + 1) : Nat) : Int) = n := by rw [hn]; congr 1; omega
        have hnr := (tail_row HX.out.q (k := (a.length : Int) + 1 + (j : Int)) (by omega) (by omega)).2
        rw [← hn] at hnr
        have hns : n.size ≤ 255 := checkB_size (check_of hnr)
        have HNK := Lib.hid hnk; have HB7 := Lib.hid (HB6.out.trans (hB7.mono hs6))
        have hs7 := HB7.out.size
        clear hB7 hn hnk hnr
        go_wp2_with fail
        refine (at_type top z apex L HZF.out.small n 2 rfl (by decide) _ (HZF.out.kept HB7.out).v).mono ?_
        rintro e w8 ⟨v8, rfl, hB8, hown8⟩
        obtain ⟨a8, cap8, rfl, _⟩ := ownsRow_len hown8
        obtain ⟨m8, hm8⟩ : ∃ m, m = (zn.rowsS L (foldS n, 2)).length := ⟨_, rfl⟩
        have hm8L : m8 ≤ 2000 := by rw [hm8]; exact Nat.le_trans (rowsS_len L _) HZF.out.small
        rw [← hm8] at hown8 ⊢
        obtain ⟨b4, hb4⟩ : ∃ b, b = (decide (0 < m8) && (!decide (n = q) || !decide (t = 43))) := ⟨_, rfl⟩
        have HB8 := Lib.hid (HB7.out.trans (hB8.mono hs7)); have HOWN8 := Lib.hid (ownsRow_base hown8 hs7); have HM8 := Lib.hid hm8; have HB4 := Lib.hid hb4
        have hs8 := HB8.out.size
        clear hB8 hown8 hm8 hb4
        go_upto_region 9 with fail
        go_cut [71] (fun s wx => s = .bool b4 ∧ wx = w8)
        case first =>
          by_cases h0 : 0 < m8
          · have h0' : (0 : Int) < (m8 : Int) := by omega
            by_cases hnq : n = q
            · have d1 : (n.toList == q.toList) = true := str_eq.2 hnq
              have d2 : (n.toList != q.toList) = false := by rw [bne, d1]; rfl
              by_cases h43 : t = 43
              · have d3 : (t != 43) = false := by rw [bne_eq_false_iff_eq]; exact h43
                have HNQ := Lib.hid hnq; have H43 := Lib.hid h43
                clear hnq h43
                go_wp2_with fail
                go_meet
                exact ⟨by rw [HB4.out, decide_eq_true h0, decide_eq_true HNQ.out, decide_eq_true H43.out]; rfl, rfl⟩
              · have d3 : (t != 43) = true := by rw [bne_iff_ne]; exact h43
                have HNQ := Lib.hid hnq; have H43 := Lib.hid h43
                clear hnq h43
                go_wp2_with fail
                go_meet
                exact ⟨by rw [HB4.out, decide_eq_true h0, decide_eq_true HNQ.out, decide_eq_false H43.out]; rfl, rfl⟩
            · have d1 : (n.toList == q.toList) = false := str_ne hnq
              have d2 : (n.toList != q.toList) = true := by rw [bne, d1]; rfl
              have HNQ := Lib.hid hnq
              clear hnq
              go_wp2_with fail
              go_meet
              exact ⟨by rw [HB4.out, decide_eq_true h0, decide_eq_false HNQ.out]; rfl, rfl⟩
          · have h0' : (m8 : Int) ≤ 0 := by omega
            have H0 := Lib.hid h0
            clear h0
            go_wp2_with fail
            go_meet
            exact ⟨by rw [HB4.out, decide_eq_false H0.out]; rfl, rfl⟩
        case rest =>
        obtain ⟨rfl, hwe⟩ := hcut
        rw [hwe]
        clear hwe
        cases b4
        · have hno4 : ¬ (zn.rowsS L (foldS n, 2) ≠ [] ∧ (n ≠ q ∨ t ≠ 43)) := fun h => by
            have h1 := HB4.out
            rw [decide_eq_true (show 0 < m8 by rw [HM8.out]; exact List.length_pos_iff.2 h.1)] at h1
            rcases h.2 with h2 | h2
            · rw [decide_eq_false h2] at h1; cases h1
            · rw [decide_eq_false h2] at h1; simp at h1
          have HN4 := Lib.hid hno4
          clear hno4
          go_wp2_with fail
          refine (at_type top z apex L HZF.out.small n 39 rfl (by decide) _ (HZF.out.kept HB8.out).v).mono ?_
          rintro e w9 ⟨v9, rfl, hB9, hown9⟩
          obtain ⟨a9, cap9, rfl, _⟩ := ownsRow_len hown9
          obtain ⟨m9, hm9⟩ : ∃ m, m = (zn.rowsS L (foldS n, 39)).length := ⟨_, rfl⟩
          have hm9L : m9 ≤ 2000 := by rw [hm9]; exact Nat.le_trans (rowsS_len L _) HZF.out.small
          rw [← hm9] at hown9 ⊢
          obtain ⟨b3, hb3⟩ : ∃ b, b = (decide (0 < m9) && !decide (n = q)) := ⟨_, rfl⟩
          have HB9 := Lib.hid (HB8.out.trans (hB9.mono hs8)); have HOWN9 := Lib.hid (ownsRow_base hown9 hs8); have HM9 := Lib.hid hm9; have HB3 := Lib.hid hb3
          have hs9 := HB9.out.size
          clear hB9 hown9 hm9 hb3 HOWN8 HM8 HB4
          go_upto_region 12 with fail
          go_cut [85] (fun s wx => s = .bool b3 ∧ wx = w9)
          case first =>
            by_cases h0 : 0 < m9
            · have h0' : (0 : Int) < (m9 : Int) := by omega
              by_cases hnq : n = q
              · have d1 : (n.toList == q.toList) = true := str_eq.2 hnq
                have d2 : (n.toList != q.toList) = false := by rw [bne, d1]; rfl
                have HNQ := Lib.hid hnq
                clear hnq
                go_wp2_with fail
                go_meet
                exact ⟨by rw [HB3.out, decide_eq_true h0, decide_eq_true HNQ.out]; rfl, rfl⟩
              · have d1 : (n.toList == q.toList) = false := str_ne hnq
                have d2 : (n.toList != q.toList) = true := by rw [bne, d1]; rfl
                have HNQ := Lib.hid hnq
                clear hnq
                go_wp2_with fail
                go_meet
                exact ⟨by rw [HB3.out, decide_eq_true h0, decide_eq_false HNQ.out]; rfl, rfl⟩
            · have h0' : (m9 : Int) ≤ 0 := by omega
              have H0 := Lib.hid h0
              clear h0
              go_wp2_with fail
              go_meet
              exact ⟨by rw [HB3.out, decide_eq_false H0.out]; rfl, rfl⟩
          case rest =>
          obtain ⟨rfl, hwe⟩ := hcut
          rw [hwe]
          clear hwe
          cases b3
          · have hst : zn.stopAt L q t (a.length + (j + 1)) = none := by
              unfold zn.stopAt
              rw [HNK.out, if_neg HN4.out, if_neg]
              intro h
              have h1 := HB3.out
              rw [decide_eq_true (show 0 < m9 by rw [HM9.out]; exact List.length_pos_iff.2 h.1), decide_eq_false h.2] at h1
              cases h1
            have hno2 := zn.findTo_miss HNO.out hst
            have hzz := (HB9.out.block z (by omega)).trans HZ1.out
            have z3 : w9.cell? ⟨z, 3, none⟩ = some (.map (some tb)) := by rw [heap_cell hzz]; rfl
            have hth := HTH.out
            rw [HCA.out, Int.toNat_natCast] at hth
            obtain ⟨fi, hlook⟩ := theres_look HP.out (hth.below (HB9.out.mono (by omega))) n
            have e1 := gw_cell z3
            have e2 := fun p => hlook (gw w9 p) (gw_below w9 p)
            have HNO2 := Lib.hid hno2
            clear hst hno2 hzz z3 hth hlook HOWN9 HM9 HB3 HN4
            go_wp2_with fail
            refine wp_region_gw (by kernel_rfl) (by kernel_rfl) ?_
            repeat (with_reducible refine wpQuiet_step (fun K hK => ?_); go_simp; first | (with_reducible refine hK _ ?_; clear hK K) | (apply Exists.intro; refine ⟨fun _ => ?_, hK _ ?_⟩; (first | (go_at_call 52; exact calls_gw (fold_any _ _))); clear hK K))
            with_reducible refine wpQuiet_nil ?_
            intro W hW
            have hBW : Below w9.heap.size w9 W := by obtain ⟨p, rfl⟩ := hW; exact gw_below _ _
            have HBW := Lib.hid (HB9.out.trans (hBW.mono hs9))
            clear e1 e2 hW hBW
            cases htr : zn.thereB a.length L n
            · have henc : zn.enclTo a.length L q (j + 1) = zn.enclTo a.length L q j := by rw [zn.enclTo, HNK.out, if_neg (by rw [htr]; simp)]
              have HE := Lib.hid henc
              clear htr henc
              go_wp2_with fail
              go_roundw
              case rel => exact ⟨j + 1, by omega, by simp only [Value.int.injEq, true_and]; omega, by rw [HE.out], HNO2.out, HBW.out⟩
              case measure => simp [intOf]; omega
            · have henc : zn.enclTo a.length L q (j + 1) = n := by rw [zn.enclTo, HNK.out, if_pos htr]
              have HE := Lib.hid henc
              clear htr henc
              go_wp2_with fail
              go_roundw
              case rel => exact ⟨j + 1, by omega, by simp only [Value.int.injEq, true_and]; omega, by rw [HE.out], HNO2.out, HBW.out⟩
              case measure => simp [intOf]; omega
          · have hst : zn.stopAt L q t (a.length + (j + 1)) = some ⟨3, n, ByteArray.empty, false, zn.rowsS L (foldS n, 39)⟩ := by
              unfold zn.stopAt
              rw [HNK.out, if_neg HN4.out, if_pos]
              have h1 := HB3.out
              simp only [Bool.true_eq, Bool.and_eq_true, Bool.not_eq_true', decide_eq_false_iff_not, decide_eq_true_eq] at h1
              exact ⟨List.length_pos_iff.1 (by rw [← HM9.out]; exact h1.1), h1.2⟩
            have hfr : zn.findR apex L q t = ⟨3, n, ByteArray.empty, false, zn.rowsS L (foldS n, 39)⟩ := by
              have h1 := zn.findTo_hit HNO.out hst (x.length - a.length - (j + 1))
              rw [show j + 1 + (x.length - a.length - (j + 1)) = x.length - a.length by omega] at h1
              exact zn.findR_hit HIN.out HX.out h1
            have h69 := (HB9.out.block w.heap.size (by omega)).trans H6.out
            obtain ⟨c0, c1, c2, c3, c4, f0, f1, f2, f3, f4⟩ := found_facts h69
            have HFR := Lib.hid hfr; have H69 := Lib.hid h69
            clear hst hfr h69
            go_wp2_with fail
            obtain ⟨x1, x2, x3⟩ := fnd_store H69.out (HB1.out.trans (HB9.out.mono (by omega))) (Nat.le_refl _) (.int .i64 3) (.string n) (.string ⟨#[]⟩) (.bool false) (.slice a9 m9 cap9)
            refine found_ret rfl rfl rfl x1 ?_
            rw [HFR.out]
            refine ⟨_, rfl, x2, ?_⟩
            rw [← HM9.out]
            refine ownsRow_base (ownsRow_keepOne HOWN9.out fun b hb => ?_) (show w.heap.size ≤ w1.heap.size by omega)
            have hb2 := (HOWN9.out.lt b hb).1
            exact x3 b (by omega)
        · have hst : zn.stopAt L q t (a.length + (j + 1)) = some ⟨4, n, ByteArray.empty, false, zn.rowsS L (foldS n, 2)⟩ := by
            unfold zn.stopAt
            rw [HNK.out, if_pos]
            have h1 := HB4.out
            simp only [Bool.true_eq, Bool.and_eq_true, Bool.or_eq_true, Bool.not_eq_true', decide_eq_false_iff_not, decide_eq_true_eq] at h1
            exact ⟨List.length_pos_iff.1 (by rw [← HM8.out]; exact h1.1), h1.2⟩
          have hfr : zn.findR apex L q t = ⟨4, n, ByteArray.empty, false, zn.rowsS L (foldS n, 2)⟩ := by
            have h1 := zn.findTo_hit HNO.out hst (x.length - a.length - (j + 1))
            rw [show j + 1 + (x.length - a.length - (j + 1)) = x.length - a.length by omega] at h1
            exact zn.findR_hit HIN.out HX.out h1
          have h68 := (HB8.out.block w.heap.size (by omega)).trans H6.out
          obtain ⟨c0, c1, c2, c3, c4, f0, f1, f2, f3, f4⟩ := found_facts h68
          have HFR := Lib.hid hfr; have H68 := Lib.hid h68
          clear hst hfr h68
          go_wp2_with fail
          obtain ⟨x1, x2, x3⟩ := fnd_store H68.out (HB1.out.trans (HB8.out.mono (by omega))) (Nat.le_refl _) (.int .i64 4) (.string n) (.string ⟨#[]⟩) (.bool false) (.slice a8 m8 cap8)
          refine found_ret rfl rfl rfl x1 ?_
          rw [HFR.out]
          refine ⟨_, rfl, x2, ?_⟩
          rw [← HM8.out]
          refine ownsRow_base (ownsRow_keepOne HOWN8.out fun b hb => ?_) (show w.heap.size ≤ w1.heap.size by omega)
          have hb2 := (HOWN8.out.lt b hb).1
          exact x3 b (by omega)
      · have hje : j = x.length - a.length := by omega
        have hlt' : (x.length : Int) < (a.length : Int) + 1 + (j : Int) := by omega
        have hfr : zn.findR apex L q t = zn.restR a.length L q t (zn.enclTo a.length L q j) := by
          have h := HNO.out
          rw [hje] at h ⊢
          exact zn.findR_miss HIN.out HX.out h
        have hqs : q.size ≤ 255 := checkB_size (check_of HX.out.q)
        obtain ⟨en, hen⟩ : ∃ s, s = zn.enclTo a.length L q j := ⟨_, rfl⟩
        rw [← hen] at hfr ⊢
        have HFR := Lib.hid hfr
        clear hfr hen hje
        by_cases he : en = q
        · have d1 : (en.toList == q.toList) = true := str_eq.2 he
          have hfr2 : zn.findR apex L q t = zn.standsR L q t q q false := by rw [HFR.out]; unfold zn.restR; rw [if_pos he]
          have HFR2 := Lib.hid hfr2
          clear he hfr2
          go_wp2_with fail
          refine (stands_any top z apex L q (by omega) t HTW.out q q false _ (HZF.out.kept HB6.out)).mono ?_
          rintro e w7 ⟨v7, rfl, hB7, hown7⟩
          obtain ⟨f, hf⟩ : ∃ f, f = zn.standsR L q t q q false := ⟨_, rfl⟩
          rw [← hf] at hown7 ⊢
          obtain ⟨a7, cap7, rfl, _⟩ := ownsRow_len hown7
          have HF := Lib.hid hf
          have hB17 := HB6.out.trans (hB7.mono hs6)
          have h67 := (hB17.block w.heap.size (by omega)).trans H6.out
          obtain ⟨c0, c1, c2, c3, c4, f0, f1, f2, f3, f4⟩ := found_facts h67
          have H67 := Lib.hid h67; have HB17 := Lib.hid hB17; have HOWN7 := Lib.hid (ownsRow_base hown7 hs6)
          clear hf h67 hB17 hown7 hB7
          go_wp2_with fail
          obtain ⟨x1, x2, x3⟩ := fnd_store H67.out (HB1.out.trans (HB17.out.mono (by omega))) (Nat.le_refl _) (.int .i64 f.kind) (.string f.owner) (.string f.encl) (.bool f.wild) (.slice a7 f.recs.length cap7)
          refine found_ret rfl rfl rfl x1 ?_
          rw [HFR2.out, ← HF.out]
          refine ⟨_, rfl, x2, ?_⟩
          refine ownsRow_base (ownsRow_keepOne HOWN7.out fun b hb => ?_) (show w.heap.size ≤ w1.heap.size by omega)
          have hb2 := (HOWN7.out.lt b hb).1
          exact x3 b (by omega)
        · have d1 : (en.toList == q.toList) = false := str_ne he
          have HE := Lib.hid he
          clear he
          go_wp2_with fail
          refine (star_any _ _).mono ?_
          rintro e w7 ⟨rfl, hB7⟩
          obtain ⟨st, hst⟩ : ∃ s, s = starS en := ⟨_, rfl⟩
          rw [← hst]
          have hss : st.size ≤ 255 := by rw [hst]; exact star_size en
          have HST := Lib.hid hst
          have hB17 := HB6.out.trans (hB7.mono hs6)
          have hs7 := hB17.size
          have hzz := (hB17.block z (by omega)).trans HZ1.out
          have z3 : w7.cell? ⟨z, 3, none⟩ = some (.map (some tb)) := by rw [heap_cell hzz]; rfl
          have hth := HTH.out
          rw [HCA.out, Int.toNat_natCast] at hth
          obtain ⟨fi, hlook⟩ := theres_look HP.out (hth.below (hB17.mono (by omega))) st
          have e1 := gw_cell z3
          have e2 := fun p => hlook (gw w7 p) (gw_below w7 p)
          have HB17 := Lib.hid hB17
          clear hst hzz z3 hth hlook hB17 hB7
          go_wp2_with fail
          refine wp_region_gw (by kernel_rfl) (by kernel_rfl) ?_
          repeat (with_reducible refine wpQuiet_step (fun K hK => ?_); go_simp; first | (with_reducible refine hK _ ?_; clear hK K) | (apply Exists.intro; refine ⟨fun _ => ?_, hK _ ?_⟩; (first | (go_at_call 52; exact calls_gw (fold_any _ _))); clear hK K))
          with_reducible refine wpQuiet_nil ?_
          intro W hW
          have hBW : Below w7.heap.size w7 W := by obtain ⟨p, rfl⟩ := hW; exact gw_below _ _
          have HBW := Lib.hid (HB17.out.trans (hBW.mono hs7))
          have hsW := HBW.out.size
          clear e1 e2 hW hBW
          cases htr : zn.thereB a.length L st
          · have hfr2 : zn.findR apex L q t = ⟨6, q, en, false, []⟩ := by rw [HFR.out]; unfold zn.restR; rw [if_neg HE.out, ← HST.out, if_neg (by rw [htr]; simp)]
            have h6W := (HBW.out.block w.heap.size (by omega)).trans H6.out
            obtain ⟨c0, c1, c2, c3, c4, f0, f1, f2, f3, f4⟩ := found_facts h6W
            have HFR2 := Lib.hid hfr2; have H6W := Lib.hid h6W
            clear htr hfr2 h6W
            go_wp2_with fail
            obtain ⟨x1, x2, x3⟩ := fnd_store H6W.out (HB1.out.trans (HBW.out.mono (by omega))) (Nat.le_refl _) (.int .i64 6) (.string q) (.string en) (.bool false) (.slice none 0 0)
            refine found_ret rfl rfl rfl x1 ?_
            rw [HFR2.out]
            exact ⟨_, rfl, x2, World.ownsRow_nil _ _ _ _⟩
          · obtain ⟨f, hf⟩ : ∃ f, f = zn.standsR L st t st en true := ⟨_, rfl⟩
            have hfr2 : zn.findR apex L q t = { f with recs := zn.owned q f.recs } := by rw [HFR.out]; unfold zn.restR; rw [if_neg HE.out, ← HST.out, if_pos htr, hf]
            have HFR2 := Lib.hid hfr2; have HF := Lib.hid hf
            clear htr hfr2 hf
            go_wp2_with fail
            refine (stands_any top z apex L st (by omega) t HTW.out st en true _ (HZF.out.kept HBW.out)).mono ?_
            rintro e w8 ⟨v8, rfl, hB8, hown8⟩
            rw [← HF.out] at hown8 ⊢
            obtain ⟨a8, cap8, rfl, _⟩ := ownsRow_len hown8
            obtain ⟨m, hm⟩ : ∃ m, m = f.recs.length := ⟨_, rfl⟩
            have hmL : m ≤ 2000 := by rw [hm, HF.out]; exact Nat.le_trans (stands_len L st t st en true) HZF.out.small
            rw [← hm] at hown8 ⊢
            have HB8 := Lib.hid (HBW.out.trans (hB8.mono hsW)); have HOWN8 := Lib.hid (ownsRow_base hown8 hsW); have HM := Lib.hid hm
            clear hB8 hown8 hm
            obtain ⟨wa, hwa⟩ : ∃ X, X = w8.alloc (.cells #[.int .i64 f.kind, .string f.owner, .string f.encl, .bool f.wild, .slice a8 m cap8] 48) := ⟨_, rfl⟩
            have hBa : Below w8.heap.size w8 wa := by rw [hwa]; exact (Below.refl _ _).alloc (Nat.le_refl _) _
            have hs8 := HB8.out.size
            have h17 : wa.heap[w8.heap.size]? = some (.cells #[.int .i64 f.kind, .string f.owner, .string f.encl, .bool f.wild, .slice a8 m cap8] 48 (0, 0)) := by rw [hwa]; exact heap_new_at rfl
            have h6a := (hBa.block w.heap.size (by omega)).trans ((HB8.out.block w.heap.size (by omega)).trans H6.out)
            have howna := ownsRow_keepOne HOWN8.out fun b hb => hBa.block b (HOWN8.out.lt b hb).2
            have hlt8 := HOWN8.out.lt
            have HWA := Lib.hid hwa; have HBA := Lib.hid ((HB1.out.trans (HB8.out.mono (by omega))).trans (hBa.mono (by omega))); have H17 := Lib.hid h17; have H6A := Lib.hid h6a; have HOWNA := Lib.hid howna; have HLT8 := Lib.hid hlt8
            clear hwa hBa h17 h6a howna hlt8
            go_wp2_with fail
            rw [← HWA.out]
            go_loopw [138, 18] (fun kv _ wr => ∃ k : Nat, k ≤ m ∧ kv = .int .i64 (k : Int) ∧ wr.ownsRow w1.heap.size 53 5 (.slice a8 m cap8) m (recsC (zn.ownTo q f.recs k)) ∧
              wr.heap[w8.heap.size]? = some (.cells #[.int .i64 f.kind, .string f.owner, .string f.encl, .bool f.wild, .slice a8 m cap8] 48 (0, 0)) ∧
              wr.heap[w.heap.size]? = some (.cells #[.int .i64 0, .string ⟨#[]⟩, .string ⟨#[]⟩, .bool false, .slice none 0 0] 48 (0, 0)) ∧ Below w.heap.size w wr) (fun kv _ _ => m - (intOf kv).toNat)
            case atStart => exact ⟨0, Nat.zero_le _, rfl, by rw [zn.ownTo_zero]; exact HOWNA.out, H17.out, H6A.out, HBA.out⟩
            case round =>
              obtain ⟨k, hk, rfl, hown, h17, h6r, hB⟩ := hrel
              have hsr := hB.size
              by_cases hkm : k < m
              · obtain ⟨g, capg, hv, hbg, hgl⟩ := hown.form (by omega)
                simp only [Value.slice.injEq, true_and] at hv
                obtain ⟨rfl, rfl⟩ := hv
                have hg8 := (HLT8.out g rfl).2
                have hrec := owns_recs (l := zn.ownTo q f.recs k) (by rw [zn.ownTo_len, ← HM.out]; exact hown)
                obtain ⟨a', cap', hv, _, hr⟩ := hrec
                simp only [Value.slice.injEq] at hv
                obtain ⟨rfl, _, rfl⟩ := hv
                obtain ⟨b, off, hbo, _, c0, _⟩ := hr k (by rw [zn.ownTo_len, ← HM.out]; exact hkm)
                simp only [Option.some.injEq, Addr.mk.injEq, and_true] at hbo
                obtain ⟨rfl, rfl⟩ := hbo
                have hfr : wr.frozen? ⟨g, k * 5, none⟩ = false := by
                  rcases hown.2 with ⟨h1, _⟩ | ⟨g', cap', cur, h1, _, h2, _⟩
                  · cases h1
                  · simp only [Value.slice.injEq, Option.some.injEq, Addr.mk.injEq, and_true, true_and] at h1
                    rw [h1.1]
                    exact heap_frozen h2 _
                simp only [Nat.zero_add] at c0
                have d4 : wr.cell? ⟨w8.heap.size, 4, none⟩ = some (.slice (some ⟨g, 0, none⟩) m cap8) := by rw [heap_cell h17]; rfl
                have hown2 := ownsRow_owner hown (show k < f.recs.length by rw [← HM.out]; exact hkm) HM.out
                have HOWN2 := Lib.hid hown2; have H17R := Lib.hid h17; have H6R := Lib.hid h6r; have HBR := Lib.hid hB
                clear hown2 h17 h6r hB hown hr
                go_wp2_with fail
                go_roundw
                case rel => exact ⟨k + 1, by omega, by go_num, HOWN2.out, heap_set_keep H17R.out (by simp only; omega) _, heap_set_keep H6R.out (by simp only; omega) _, HBR.out.setCell (p := ⟨g, k * 5, none⟩) (by show w.heap.size ≤ g; omega) _⟩
                case measure => simp [intOf]; omega
              · have hke : k = m := by omega
                obtain ⟨c0, c1, c2, c3, c4, f0, f1, f2, f3, f4⟩ := found_facts h6r
                obtain ⟨d0, d1, d2, d3, d4, _, _, _, _, _⟩ := found_facts h17
                have hkm' : (m : Int) ≤ (k : Int) := by omega
                have HKE := Lib.hid hke; have HOWNR := Lib.hid hown; have H6R := Lib.hid h6r; have HBR := Lib.hid hB
                clear hown h17 h6r hB hke hkm
                go_wp2_with fail
                obtain ⟨x1, x2, x3⟩ := fnd_store H6R.out HBR.out (Nat.le_refl _) (.int .i64 f.kind) (.string f.owner) (.string f.encl) (.bool f.wild) (.slice a8 m cap8)
                refine found_ret rfl rfl rfl x1 ?_
                rw [HFR2.out]
                refine ⟨_, rfl, x2, ?_⟩
                have hown := HOWNR.out
                rw [HKE.out, HM.out, zn.ownTo_all, ← HM.out] at hown
                have hl : (zn.owned q f.recs).length = m := by rw [HM.out]; unfold zn.owned; simp
                show World.ownsRow _ _ _ _ _ (zn.owned q f.recs).length (recsC (zn.owned q f.recs))
                rw [hl]
                refine ownsRow_base (ownsRow_keepOne hown fun b hb => ?_) (show w.heap.size ≤ w1.heap.size by omega)
                have hb2 := (hown.lt b hb).1
                exact x3 b (by omega)
  · have hr : zn.findR apex L q t = zn.noFnd := zn.findR_out fun h => by
      have h1 := HBB.out
      rw [h.1, decide_eq_false (show ¬ t < 1 by omega), decide_eq_false (show ¬ 65535 < t by omega)] at h1
      cases h1
    have HR := Lib.hid hr
    clear hr
    go_wp2_with fail
    obtain ⟨x1, x2, x3⟩ := fnd_store H62.out HB02.out (Nat.le_refl _) (.int .i64 0) (.string ⟨#[]⟩) (.string ⟨#[]⟩) (.bool false) (.slice none 0 0)
    refine found_ret rfl rfl rfl x1 ?_
    rw [HR.out]
    exact ⟨_, rfl, x2, World.ownsRow_nil _ _ _ _⟩
end Go.Proofs.YtpjoaghnciomeaaGreat

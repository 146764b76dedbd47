import Derived.Test.YtdjjemajfphjaaaGreatQRefY
import Derived.Test.YtdjjemajfphjaaaGreatQSerial
namespace Go.Proofs.YtdjjemajfphjaaaGreat
open Go.RowKit Go.Shelf Go.Proofs.YtdjjemajfphjaaaGreat.nm Go.Proofs.YtdjjemajfphjaaaGreat.od
namespace zn
theorem rows_filter {L : List Rec} (hn : Named L) (n : ByteArray) (t : Int) : L.filter (fun r => decide (r.typ = t) && equalB r.owner n) = rowsS L (foldS n, t) := by
  unfold rowsS
  apply List.filter_congr
  intro r hr
  cases hc : checkB n
  · have h1 : equalB r.owner n = false := by unfold equalB; rw [hc]; simp
    have h2 : foldS n = ByteArray.empty := fold_none hc
    rw [h1, Bool.and_false]
    symm
    rw [decide_eq_false_iff_not]
    unfold keyR
    simp only [Prod.mk.injEq]
    rintro ⟨e, _⟩
    obtain ⟨x, hx⟩ := rows_check (hn r hr)
    have h3 := rows_fold hx
    rw [e, h2] at h3
    have := check_of h3
    rw [empty_check] at this
    cases this
  · unfold keyR
    rw [Bool.eq_iff_iff]
    simp only [Bool.and_eq_true, decide_eq_true_eq, Prod.mk.injEq]
    rw [equal_fold (hn r hr) hc]
    exact And.comm
def rthereB (L : List Rec) (n : ByteArray) : Bool := L.any fun r => !signsB r && withinB r.owner n
theorem rthere_iff {L : List Rec} {n : ByteArray} : rthereB L n = true ↔ ∃ r ∈ L, signsB r = false ∧ withinB r.owner n = true := by
  unfold rthereB
  rw [List.any_eq_true]
  simp
theorem filter_next {α : Type} {L : List α} {k : Nat} (h : k < L.length) (p : α → Bool) : (L.take (k + 1)).filter p = if p L[k] = true then (L.take k).filter p ++ [L[k]] else (L.take k).filter p := by
  rw [List.take_succ_eq_append_getElem h, List.filter_append]
  by_cases hp : p L[k] = true
  · rw [if_pos hp, List.filter_cons, if_pos hp]; rfl
  · rw [if_neg hp, List.filter_cons, if_neg hp]; simp
theorem filter_take_le {α : Type} (L : List α) (k : Nat) (p : α → Bool) : ((L.take k).filter p).length ≤ L.length := Nat.le_trans (List.length_filter_le _ _) (by rw [List.length_take]; omega)
end zn
theorem rz_cells {w w' : World} {z : Nat} {apex : ByteArray} {L : List Rec} {g cap : Nat} (hz : w.heap[z]? = some (.cells #[.string apex, .slice (some ⟨g, 0, none⟩) L.length cap] 44 (0, 0))) (hr : RecsAt w (.slice (some ⟨g, 0, none⟩) L.length cap) L) (hB : Below w.heap.size w w') :
    w'.cell? ⟨z, 0, none⟩ = some (.string apex) ∧ w'.cell? ⟨z, 1, none⟩ = some (.slice (some ⟨g, 0, none⟩) L.length cap) ∧ (∀ k (hk : k < L.length), RecAt w' g (k * 5) L[k]) ∧ L.length ≤ cap := by
  have h1 := (hB.block z (heap_lt hz)).trans hz
  refine ⟨by rw [heap_cell h1]; rfl, by rw [heap_cell h1]; rfl, fun k hk => ?_, ?_⟩
  · have := (cells_at (hr.below hB) hk).2
    rw [Nat.zero_add] at this
    exact this
  · obtain ⟨a, c, hv, hc, _⟩ := hr
    simp only [Value.slice.injEq] at hv
    omega
set_option maxRecDepth 100000 in
set_option maxHeartbeats 2000000 in
theorem rset_any (z : Nat) (apex : ByteArray) (L : List Rec) (hL : L.length ≤ 2000) (hnm : zn.Named L) (n : ByteArray) (hn : n.size ≤ 1099511627776) (t : Int) (w : World) (hz : RZone w z apex L) :
    Calls Tryz.prog 78 #[.pointer (some ⟨z, 0, none⟩), .string n, .int .i64 t] w fun e w' => NewRecs (zn.rowsS L (foldS n, t)) w e w' := by
  obtain ⟨g, cap, hzc, hrec⟩ := hz
  have hall := zn.rows_filter hnm n t
  obtain ⟨p, hp⟩ : ∃ p : Rec → Bool, p = fun r => decide (r.typ = t) && equalB r.owner n := ⟨_, rfl⟩
  rw [← hp] at hall
  have hsz : ∀ k (hk : k < L.length), L[k].owner.size ≤ 1099511627776 := fun k hk => by have := checkB_size (hnm _ (List.getElem_mem hk)); omega
  have HC := Lib.hid (fun W (hB : Below w.heap.size w W) => rz_cells hzc hrec hB)
  obtain ⟨q0, q1, _, hcap⟩ := rz_cells hzc hrec (Below.refl _ _)
  obtain ⟨i0_r, hi_r, hz_r, hz1_r, hz2_r⟩ := info_parts info_rec
  have HI_r := Lib.hid hi_r; have HZ_r := Lib.hid hz_r; have HZ1_r := Lib.hid hz1_r; have HZ2_r := Lib.hid hz2_r
  clear hi_r hz_r hz1_r hz2_r
  have HZC := Lib.hid hzc; have HREC := Lib.hid hrec; have HALL := Lib.hid hall; have HP := Lib.hid hp; have HSZ := Lib.hid hsz; have HNM := Lib.hid hnm
  clear hzc hrec hall hp hsz hnm
  go_enter Tryz.func78, Tryz.ntmps78
  go_wp2_with fail
  clear q0 q1
  go_loopw [15, 7, 9] (fun kv v _ wr => ∃ k : Nat, k ≤ L.length ∧ kv = .int .i64 (k : Int) ∧ wr.ownsRow w.heap.size 51 5 v ((L.take k).filter p).length (recsC ((L.take k).filter p)) ∧ Below w.heap.size w wr) (fun kv _ _ _ => L.length - (intOf kv).toNat)
  case atStart => exact ⟨0, Nat.zero_le _, rfl, World.ownsRow_nil _ _ _ _, Below.refl _ _⟩
  case round =>
    obtain ⟨k, hk, rfl, hown, hB⟩ := hrel
    obtain ⟨a, c, rfl, _⟩ := ownsRow_len hown
    have hsr := hB.size
    have hln := zn.filter_take_le L k p
    have HOWN := Lib.hid hown; have HB := Lib.hid hB
    clear hown hB
    by_cases hlt : k < L.length
    · obtain ⟨c0, c1, c2, c3, c4⟩ := (HC.out wr HB.out).2.2.1 k hlt
      have hki : (k : Int) < (L.length : Int) := by omega
      obtain ⟨hBA0, _, hx⟩ := rec_new wr _ L[k] rfl
      have HBA := Lib.hid (HB.out.trans (hBA0.mono hsr))
      have HROWA := Lib.hid (ownsRow_below HOWN.out hBA0)
      have hso := HSZ.out k hlt
      have hnx := zn.filter_next hlt p
      obtain ⟨wa, hwa⟩ : ∃ W, W = wr.alloc (.cells (recC L[k]).toArray 51) := ⟨_, rfl⟩
      rw [← hwa] at HBA HROWA hx
      have hsa := HBA.out.size
      have ltb : wr.heap.size < wa.heap.size := by rw [hwa]; simp
      clear hBA0
      obtain ⟨x0, x1, x2, x3, x4⟩ := id hx
      by_cases ht : L[k].typ = t
      · have bt : (L[k].typ == t) = true := by rw [beq_iff_eq]; exact ht
        cases he : equalB L[k].owner n
        · have hpk : p L[k] = false := by rw [HP.out]; simp [he]
          rw [hpk, if_neg (by simp)] at hnx
          have HT := Lib.hid ht; have HE := Lib.hid he; have HPK := Lib.hid hpk; have HNX := Lib.hid hnx; have HX := Lib.hid hx; have HWA := Lib.hid hwa
          clear ht he hpk hnx hx hwa
          go_wp2_with fail
          rw [← HWA.out]
          refine (requal_any _ _ hso hn _).mono ?_
          rintro e w2 ⟨rfl, hB2⟩
          rw [HE.out]
          have HB2 := Lib.hid (HBA.out.trans (hB2.mono HBA.out.size))
          have HROW2 := Lib.hid (ownsRow_below HROWA.out hB2)
          clear hB2
          go_wp2_with fail
          go_roundw
          case rel => exact ⟨k + 1, by omega, by go_num, by rw [HNX.out]; exact HROW2.out, HB2.out⟩
          case measure => simp [intOf]; omega
        · have hpk : p L[k] = true := by rw [HP.out]; simp [he, ht]
          rw [hpk, if_pos rfl] at hnx
          have HT := Lib.hid ht; have HE := Lib.hid he; have HPK := Lib.hid hpk; have HNX := Lib.hid hnx; have HX := Lib.hid hx; have HWA := Lib.hid hwa
          clear ht he hpk hnx hx hwa
          clear c0 c1 c2 c3 c4
          obtain ⟨c0, c1, c2, c3, c4⟩ := (HC.out wr HB.out).2.2.1 k hlt
          go_wp2_with fail
          rw [← HWA.out]
          refine (requal_any _ _ hso hn _).mono ?_
          rintro e w2 ⟨rfl, hB2⟩
          rw [HE.out]
          obtain ⟨y0, y1, y2, y3, y4⟩ := HX.out.keep (hB2.block _ ltb)
          have HB2 := Lib.hid (HBA.out.trans (hB2.mono HBA.out.size))
          have HROW2 := Lib.hid (ownsRow_below HROWA.out hB2)
          clear hB2 x0 x1 x2 x3 x4 c0 c1 c2 c3 c4
          obtain ⟨F, hF⟩ : ∃ F, F = (L.take k).filter p := ⟨_, rfl⟩
          rw [← hF] at HROW2 HNX hln ⊢
          have HF := Lib.hid hF
          clear hF
          have HB_a := Lib.hid (HB2.out.alloc HB2.out.size (.cells (recC L[k]).toArray 51))
          have HO_a := Lib.hid (ownsRow_keepOne HROW2.out fun b hb => Below.heap_alloc w2 (.cells (recC L[k]).toArray 51) b (HROW2.out.lt b hb).2)
          have P1_a := Lib.hid (show F.length + 1 ≤ maxLen from by unfold maxLen; omega)
          have P2_a := Lib.hid (show (F.length + 1) * 56 ≤ 140737488355328 from by omega)
          have P3_a := Lib.hid (show w.heap.size ≤ (w2.alloc (.cells (recC L[k]).toArray 51)).heap.size from by have := HB2.out.size; simp; omega)
          have HNEWS_ := Lib.hid (news_at w2 (recC L[k]) 51)
          go_wp2_with (at_builtin; refine wpList_append_new _ rfl _ _ 22 rfl w.heap.size 51 i0_r (.agg #[.string ⟨#[]⟩, .int .i64 0, .int .i64 0, .int .i64 0, .string ⟨#[]⟩]) 5 56 Tryz.underlying22 HI_r.out HZ_r.out HZ1_r.out HZ2_r.out rfl (by decide) _ _ _ rfl HO_a.out ⟨w2.heap.size, 0, none⟩ 1 1 (recC L[k]) rfl rfl HNEWS_.out (by simp [Value.oneCell']) P1_a.out P2_a.out P3_a.out ?_)
          intro v' w10 hown10 hg10 hnn10
          have HB10 := Lib.hid (HB_a.out.grown hg10 P3_a.out (fun j hj => (HO_a.out.lt j hj).1))
          have HOWN10 := Lib.hid hown10; have HG10 := Lib.hid hg10; have HNN10 := Lib.hid hnn10
          clear hown10 hg10 hnn10 HB_a HO_a P1_a P2_a P3_a HNEWS_
          go_wp2_with fail
          go_roundw
          case rel =>
            refine ⟨k + 1, by omega, by go_num, ?_, HB10.out⟩
            have h := HOWN10.out
            rw [HNX.out, List.length_append, recsC_app]
            exact h
          case measure => simp [intOf]; omega
      · have bt : (L[k].typ == t) = false := by rw [beq_eq_false_iff_ne]; exact ht
        have hpk : p L[k] = false := by rw [HP.out]; simp [ht]
        rw [hpk, if_neg (by simp)] at hnx
        have HT := Lib.hid ht; have HPK := Lib.hid hpk; have HNX := Lib.hid hnx; have HX := Lib.hid hx; have HWA := Lib.hid hwa
        clear ht hpk hnx hx hwa
        go_wp2_with fail
        go_roundw
        case rel => exact ⟨k + 1, by omega, by go_num, by rw [HNX.out, ← HWA.out]; exact HROWA.out, by rw [← HWA.out]; exact HBA.out⟩
        case measure => simp [intOf]; omega
    · obtain rfl : k = L.length := by omega
      have hfin : (L.take L.length).filter p = zn.rowsS L (foldS n, t) := by rw [List.take_length]; exact HALL.out
      have HFIN := Lib.hid hfin
      clear hfin
      go_wp2_with fail
      go_ret
      exact ⟨_, rfl, HB.out, by rw [← HFIN.out]; exact HOWN.out⟩
set_option maxRecDepth 100000 in
set_option maxHeartbeats 2000000 in
theorem rthere_any (z : Nat) (apex : ByteArray) (L : List Rec) (hL : L.length ≤ 2000) (hnm : zn.Named L) (n : ByteArray) (hn : n.size ≤ 1099511627776) (w : World) (hz : RZone w z apex L) :
    Calls Tryz.prog 79 #[.pointer (some ⟨z, 0, none⟩), .string n] w fun e w' => e = .returned (.bool (zn.rthereB L n)) ∧ Below w.heap.size w w' := by
  obtain ⟨g, cap, hzc, hrec⟩ := hz
  obtain ⟨p, hp⟩ : ∃ p : Rec → Bool, p = fun r => !zn.signsB r && withinB r.owner n := ⟨_, rfl⟩
  have hres : zn.rthereB L n = L.any p := by rw [hp]; rfl
  have hsz : ∀ k (hk : k < L.length), L[k].owner.size ≤ 1099511627776 := fun k hk => by have := checkB_size (hnm _ (List.getElem_mem hk)); omega
  have HC := Lib.hid (fun W (hB : Below w.heap.size w W) => rz_cells hzc hrec hB)
  obtain ⟨q0, q1, _, hcap⟩ := rz_cells hzc hrec (Below.refl _ _)
  rw [hres]
  have HZC := Lib.hid hzc; have HREC := Lib.hid hrec; have HP := Lib.hid hp; have HSZ := Lib.hid hsz; have HNM := Lib.hid hnm; have HRES := Lib.hid hres
  clear hzc hrec hp hsz hnm hres
  go_enter Tryz.func79, Tryz.ntmps79
  go_wp2_with fail
  clear q0 q1
  go_loopw [12, 6] (fun kv _ wr => ∃ k : Nat, k ≤ L.length ∧ kv = .int .i64 (k : Int) ∧ (L.take k).any p = false ∧ Below w.heap.size w wr) (fun kv _ _ => L.length - (intOf kv).toNat)
  case atStart => exact ⟨0, Nat.zero_le _, rfl, rfl, Below.refl _ _⟩
  case round =>
    obtain ⟨k, hk, rfl, hno, hB⟩ := hrel
    have hsr := hB.size
    have HB := Lib.hid hB
    clear hB
    by_cases hlt : k < L.length
    · obtain ⟨c0, c1, c2, c3, c4⟩ := (HC.out wr HB.out).2.2.1 k hlt
      have hki : (k : Int) < (L.length : Int) := by omega
      obtain ⟨hBA0, _, hx⟩ := rec_new wr _ L[k] rfl
      have HBA := Lib.hid (HB.out.trans (hBA0.mono hsr))
      have hso := HSZ.out k hlt
      have hnx : (L.take (k + 1)).any p = p L[k] := by rw [List.take_succ_eq_append_getElem hlt, List.any_append, hno]; simp
      obtain ⟨wa, hwa⟩ : ∃ W, W = wr.alloc (.cells (recC L[k]).toArray 51) := ⟨_, rfl⟩
      rw [← hwa] at HBA hx
      have hsa := HBA.out.size
      have ltb : wr.heap.size < wa.heap.size := by rw [hwa]; simp
      clear hBA0
      obtain ⟨x0, x1, x2, x3, x4⟩ := id hx
      cases hs : zn.signsB L[k]
      · cases hw : withinB L[k].owner n
        · have hpk : p L[k] = false := by rw [HP.out]; simp [hw]
          rw [hpk] at hnx
          have HS := Lib.hid hs; have HW := Lib.hid hw; have HPK := Lib.hid hpk; have HNX := Lib.hid hnx; have HX := Lib.hid hx; have HWA := Lib.hid hwa; have HNO := Lib.hid hno
          clear hs hw hpk hnx hx hwa hno
          go_wp2_with fail
          rw [← HWA.out]
          refine (rcounts_any _ _).mono ?_
          rintro e w2 ⟨rfl, hB2⟩
          rw [HS.out]
          obtain ⟨y0, y1, y2, y3, y4⟩ := HX.out.keep (hB2.block _ ltb)
          have HB2 := Lib.hid (HBA.out.trans (hB2.mono HBA.out.size))
          clear hB2 x0 x1 x2 x3 x4 c0 c1 c2 c3 c4
          go_wp2_with fail
          refine (rwithin_any _ _ hso hn _).mono ?_
          rintro e w3 ⟨rfl, hB3⟩
          rw [HW.out]
          have HB3 := Lib.hid (HB2.out.trans (hB3.mono HB2.out.size))
          clear hB3
          go_wp2_with fail
          go_roundw
          case rel => exact ⟨k + 1, by omega, by go_num, HNX.out, HB3.out⟩
          case measure => simp [intOf]; omega
        · have hpk : p L[k] = true := by rw [HP.out]; simp [hw, hs]
          have hany : L.any p = true := by rw [List.any_eq_true]; exact ⟨_, List.getElem_mem hlt, hpk⟩
          have HS := Lib.hid hs; have HW := Lib.hid hw; have HPK := Lib.hid hpk; have HNX := Lib.hid hnx; have HX := Lib.hid hx; have HWA := Lib.hid hwa; have HNO := Lib.hid hno; have HANY := Lib.hid hany
          clear hs hw hpk hnx hx hwa hno hany
          go_wp2_with fail
          rw [← HWA.out]
          refine (rcounts_any _ _).mono ?_
          rintro e w2 ⟨rfl, hB2⟩
          rw [HS.out]
          obtain ⟨y0, y1, y2, y3, y4⟩ := HX.out.keep (hB2.block _ ltb)
          have HB2 := Lib.hid (HBA.out.trans (hB2.mono HBA.out.size))
          clear hB2 x0 x1 x2 x3 x4 c0 c1 c2 c3 c4
          go_wp2_with fail
          refine (rwithin_any _ _ hso hn _).mono ?_
          rintro e w3 ⟨rfl, hB3⟩
          rw [HW.out]
          have HB3 := Lib.hid (HB2.out.trans (hB3.mono HB2.out.size))
          clear hB3
          go_wp2_with fail
          go_ret
          exact ⟨ret_b HANY.out.symm, HB3.out⟩
      · have hpk : p L[k] = false := by rw [HP.out]; simp [hs]
        rw [hpk] at hnx
        have HS := Lib.hid hs; have HPK := Lib.hid hpk; have HNX := Lib.hid hnx; have HX := Lib.hid hx; have HWA := Lib.hid hwa; have HNO := Lib.hid hno
        clear hs hpk hnx hx hwa hno
        go_wp2_with fail
        rw [← HWA.out]
        refine (rcounts_any _ _).mono ?_
        rintro e w2 ⟨rfl, hB2⟩
        rw [HS.out]
        have HB2 := Lib.hid (HBA.out.trans (hB2.mono HBA.out.size))
        clear hB2 x0 x1 x2 x3 x4 c0 c1 c2 c3 c4
        go_wp2_with fail
        go_roundw
        case rel => exact ⟨k + 1, by omega, by go_num, HNX.out, HB2.out⟩
        case measure => simp [intOf]; omega
    · obtain rfl : k = L.length := by omega
      have hany : L.any p = false := by rw [List.take_length] at hno; exact hno
      have HNO := Lib.hid hno; have HANY := Lib.hid hany
      clear hno hany
      go_wp2_with fail
      go_ret
      exact ⟨ret_b HANY.out.symm, HB.out⟩
end Go.Proofs.YtdjjemajfphjaaaGreat
namespace Go.Proofs.YtdjjemajfphjaaaGreat
open Go.RowKit Go.Shelf Go.Proofs.YtdjjemajfphjaaaGreat.nm Go.Proofs.YtdjjemajfphjaaaGreat.od
namespace zn
end zn
end Go.Proofs.YtdjjemajfphjaaaGreat
namespace Go.Proofs.YtdjjemajfphjaaaGreat
open Go.RowKit Go.Shelf Go.Proofs.YtdjjemajfphjaaaGreat.nm Go.Proofs.YtdjjemajfphjaaaGreat.od
namespace zn
theorem soa_rec {apex : ByteArray} {L : List Rec} (hv : Valid apex L) : ∃ r ∈ L, r.typ = 6 ∧ signsB r = false ∧ foldS r.owner = foldS apex := by
  obtain ⟨_, h2, h3, _⟩ := rules_parts hv.rules
  have h4 : ∃ r ∈ L, r.typ = 6 := Classical.byContradiction fun h => h3 (soaC_zero.2 fun r hr h6 => h ⟨r, hr, h6⟩)
  obtain ⟨r, hr, h6⟩ := h4
  refine ⟨r, hr, h6, ?_, (equal_fold (hv.named r hr) hv.ap).1 ((soa_iff.1 h2).2 r hr h6)⟩
  unfold signsB
  rw [h6]
  rfl
end zn
end Go.Proofs.YtdjjemajfphjaaaGreat
namespace Go.Proofs.YtdjjemajfphjaaaGreat
open Go.RowKit Go.Shelf Go.Proofs.YtdjjemajfphjaaaGreat.nm Go.Proofs.YtdjjemajfphjaaaGreat.od
end Go.Proofs.YtdjjemajfphjaaaGreat
namespace Go.Proofs.YtdjjemajfphjaaaGreat
open Go.RowKit Go.Shelf Go.Proofs.YtdjjemajfphjaaaGreat.nm Go.Proofs.YtdjjemajfphjaaaGreat.od
def Writ (w : World) (base : Nat) (v : Value) (n : Nat) : Prop := ∃ xs, w.ownsRow base 51 5 v n xs
theorem Writ.set {w : World} {base g n cap : Nat} (h : Writ w base (.slice (some ⟨g, 0, none⟩) n cap) n) (j : Nat) (u : Value) : Writ (w.setCell ⟨g, j, none⟩ u) base (.slice (some ⟨g, 0, none⟩) n cap) n ∧ w.grownBy (w.setCell ⟨g, j, none⟩ u) (some g) := by
  obtain ⟨xs, hx⟩ := h
  obtain ⟨h1, h2⟩ := hx.stored j u
  exact ⟨⟨_, h1⟩, h2⟩
theorem Writ.cells {w : World} {base g n cap : Nat} (h : Writ w base (.slice (some ⟨g, 0, none⟩) n cap) n) {j : Nat} (hj : j < n * 5) : ∃ u, w.cell? ⟨g, j, none⟩ = some u ∧ w.frozen? ⟨g, j, none⟩ = false := by
  obtain ⟨xs, hx⟩ := h
  have h1 := hx.cellAt j hj
  rw [List.getElem?_eq_getElem (by rw [hx.1]; exact hj)] at h1
  exact ⟨_, h1, hx.frozenAt j⟩
abbrev spareR : Rec := ⟨⟨#[115, 112, 97, 114, 101]⟩, -77, -77, -77, ⟨#[115, 112, 97, 114, 101]⟩⟩
theorem rec_size : (Tryz.prog.info? 51).map (·.size) = some 5 := by kernel_rfl
theorem rec_ret {fn : Func} {p : Tmp} (hf : fn.results = #[.cell p 51]) {R : Ending → World → Prop} {a : Act} {w : World} {g : Nat} {v0 v1 v2 v3 v4 : Value} (hp : a.tmps.getD p undef = .pointer (some ⟨g, 0, none⟩))
    (hd : a.defers = []) (hg : w.heap[g]? = some (.cells #[v0, v1, v2, v3, v4] 51 (0, 0))) (hR : R (.returned (.agg #[v0, v1, v2, v3, v4])) w) : bodyPost Tryz.prog fn R .ret a w :=
  bodyPost_ret_by (results_cell_row hf _ w g _ _ _ _ hp hg Tryz.underlying51 rfl rec_size) hd hR
set_option maxRecDepth 100000 in
set_option maxHeartbeats 1000000 in
theorem spare_any (w : World) : Calls Tryz.prog 66 #[] w fun e w' => e = .returned (recV spareR) ∧ Below w.heap.size w w' := by
  go_enter Tryz.func66, Tryz.ntmps66
  go_wp2_with fail
  refine rec_ret rfl rfl rfl (heap_new_at rfl) ⟨rfl, (Below.refl _ w).alloc (Nat.le_refl _) _⟩
def RTwin (l : List Rec) (w : World) (e : Ending) (w' : World) : Prop := ∃ g cap, e = .returned (.slice (some ⟨g, 0, none⟩) l.length cap) ∧ Below w.heap.size w w' ∧ w'.ownsRow w.heap.size 51 5 (.slice (some ⟨g, 0, none⟩) (l.length + 2) cap) (l.length + 2) (recsC (l ++ [spareR, spareR])) ∧ l.length + 2 ≤ cap
theorem recs_one (l : List Rec) : ∀ u ∈ recsC l, u.oneCell' = true := fun u hu => by
  unfold recsC at hu
  obtain ⟨r, _, hr⟩ := List.mem_flatMap.1 hu
  simp only [List.mem_cons, List.not_mem_nil, or_false] at hr
  rcases hr with rfl | rfl | rfl | rfl | rfl <;> rfl
set_option maxRecDepth 100000 in
set_option maxHeartbeats 2000000 in
theorem twin_any (l : List Rec) (hl : l.length * 56 ≤ 1099511627776) (v : Value) (hf : SliceForm v) (w : World) (hrv : RecsAt w v l) :
    Calls Tryz.prog 23 #[v] w fun e w' => RTwin l w e w' := by
  have hln1 : l.length ≤ 1000000000000 := by omega
  obtain ⟨i0_r, hi_r, hz_r, hz1_r, hz2_r⟩ := info_parts info_rec
  have HI_r := Lib.hid hi_r; have HZ_r := Lib.hid hz_r; have HZ1_r := Lib.hid hz1_r; have HZ2_r := Lib.hid hz2_r
  clear hi_r hz_r hz1_r hz2_r
  rcases hf with rfl | ⟨b, off, n, cap, rfl⟩
  · have h0 : l = [] := by
      obtain ⟨a, c, hv, _⟩ := hrv
      simp only [Value.slice.injEq] at hv
      exact List.eq_nil_of_length_eq_zero hv.2.1.symm
    subst h0
    have hnil : World.ownsRow w w.heap.size 51 5 (.slice none 0 0) 0 [] := World.ownsRow_nil _ _ _ _
    have HNIL := Lib.hid hnil
    clear hnil
    clear hrv
    go_enter Tryz.func23, Tryz.ntmps23
    go_wp2_with fail
    refine (spare_any _).mono ?_
    rintro e ws1 ⟨rfl, hBs1⟩
    have HRF := Lib.hid (Below.refl w.heap.size w)
    have HNR := Lib.hid (Nat.le_refl w.heap.size)
    have HBs := Lib.hid (Below.trans (B := w.heap.size) (a := w) HRF.out (hBs1.mono HNR.out))
    have hzs := HBs.out.size
    have HOs := Lib.hid (ownsRow_below HNIL.out hBs1)
    clear hBs1
    go_wp2_with fail
    refine (spare_any _).mono ?_
    rintro e ws2 ⟨rfl, hBs2⟩
    have HBs2 := Lib.hid (HBs.out.trans (hBs2.mono hzs))
    have hzs2 := HBs2.out.size
    have HOs2 := Lib.hid (ownsRow_below HOs.out hBs2)
    clear hBs2
    have HBs3 := Lib.hid (HBs2.out.alloc hzs2 (.cells (recsC [spareR, spareR]).toArray 51))
    have HOs3 := Lib.hid (ownsRow_keepOne HOs2.out fun b hb => Below.heap_alloc ws2 (.cells (recsC [spareR, spareR]).toArray 51) b (HOs2.out.lt b hb).2)
    have HNEWS := Lib.hid (news_at ws2 (recsC [spareR, spareR]) 51)
    have P1 := Lib.hid (show 0 + 2 ≤ maxLen from by unfold maxLen; omega)
    have P2 := Lib.hid (show (0 + 2) * 56 ≤ 140737488355328 from by omega)
    have P3 := Lib.hid (show w.heap.size ≤ (ws2.alloc (.cells (recsC [spareR, spareR]).toArray 51)).heap.size from by simp; omega)
    have ONE2 := Lib.hid (recs_one [spareR, spareR])
    go_wp2_with (at_builtin; refine wpList_append_new _ rfl _ _ 22 rfl w.heap.size 51 i0_r (.agg #[.string ⟨#[]⟩, .int .i64 0, .int .i64 0, .int .i64 0, .string ⟨#[]⟩]) 5 56 Tryz.underlying22 HI_r.out HZ_r.out HZ1_r.out HZ2_r.out rfl (by decide) _ _ _ rfl HOs3.out ⟨ws2.heap.size, 0, none⟩ 2 2 (recsC [spareR, spareR]) rfl rfl HNEWS.out ONE2.out P1.out P2.out P3.out ?_)
    intro v' w10 hown10 hg10 hnn10
    have HB10 := Lib.hid (HBs3.out.grown hg10 P3.out (fun j hj => (HOs3.out.lt j hj).1))
    obtain ⟨g, cap, rfl, hcg, _⟩ := hown10.form (by omega)
    obtain ⟨_, cap', hv, hcap⟩ := ownsRow_len hown10
    simp only [Value.slice.injEq, true_and] at hv
    obtain ⟨rfl, rfl⟩ := hv
    have hcap2 : 0 ≤ cap := by omega
    have HOWN10 := Lib.hid hown10
    clear hown10 hg10 hnn10 hcg
    go_wp2_with fail
    go_ret
    refine ⟨g, cap, rfl, HB10.out, ?_, hcap⟩
    have h := HOWN10.out
    rw [recsC_apps]
    exact h
  · obtain ⟨hn, hcell⟩ := recs_cells hrv
    subst hn
    have hone := recs_one l
    have hln := recsC_len l
    have hnl : World.ownsRow w w.heap.size 51 5 (.slice none 0 0) 0 [] := World.ownsRow_nil _ _ _ _
    have hnews : ∀ j u, (recsC l)[j]? = some u → w.cell? ((⟨b, off, none⟩ : Addr).add j) = some u := fun j u hu => by rw [Addr.add_lit]; exact hcell j u hu
    have p1 : 0 + l.length ≤ maxLen := by unfold maxLen; omega
    have p2 : (0 + l.length) * 56 ≤ 140737488355328 := by omega
    have HONE := Lib.hid hone; have HLN := Lib.hid hln; have HNL := Lib.hid hnl; have HNEWS := Lib.hid hnews; have P1 := Lib.hid p1; have P2 := Lib.hid p2; have HCELL := Lib.hid hcell; have HRV := Lib.hid hrv
    clear hone hln hnl hnews p1 p2 hcell hrv
    go_enter Tryz.func23, Tryz.ntmps23
    go_wp2_with (at_builtin; refine wpList_append_new _ rfl _ _ 22 rfl w.heap.size 51 i0_r (.agg #[.string ⟨#[]⟩, .int .i64 0, .int .i64 0, .int .i64 0, .string ⟨#[]⟩]) 5 56 Tryz.underlying22 HI_r.out HZ_r.out HZ1_r.out HZ2_r.out rfl (by decide) _ _ _ rfl HNL.out ⟨b, off, none⟩ l.length cap (recsC l) rfl HLN.out HNEWS.out HONE.out P1.out P2.out (Nat.le_refl _) ?_)
    intro v0 w0 hown0 hg0 hnn0
    have HB0 := Lib.hid ((Below.refl w.heap.size w).grown hg0 (Nat.le_refl _) (fun j hj => by cases hj))
    have hz0 := HB0.out.size
    have HOWN0 := Lib.hid (show w0.ownsRow w.heap.size 51 5 v0 l.length (recsC l) from by simpa using hown0)
    clear hown0 hg0 hnn0 P1 P2 HNEWS
    go_wp2_with fail
    refine (spare_any _).mono ?_
    rintro e ws1 ⟨rfl, hBs1⟩
    have HBs := Lib.hid (Below.trans (B := w.heap.size) (a := w) HB0.out (hBs1.mono hz0))
    have hzs := HBs.out.size
    have HOs := Lib.hid (ownsRow_below HOWN0.out hBs1)
    clear hBs1
    go_wp2_with fail
    refine (spare_any _).mono ?_
    rintro e ws2 ⟨rfl, hBs2⟩
    have HBs2 := Lib.hid (HBs.out.trans (hBs2.mono hzs))
    have hzs2 := HBs2.out.size
    have HOs2 := Lib.hid (ownsRow_below HOs.out hBs2)
    clear hBs2
    have HBs3 := Lib.hid (HBs2.out.alloc hzs2 (.cells (recsC [spareR, spareR]).toArray 51))
    have HOs3 := Lib.hid (ownsRow_keepOne HOs2.out fun b hb => Below.heap_alloc ws2 (.cells (recsC [spareR, spareR]).toArray 51) b (HOs2.out.lt b hb).2)
    have HNEWS := Lib.hid (news_at ws2 (recsC [spareR, spareR]) 51)
    have P1 := Lib.hid (show l.length + 2 ≤ maxLen from by unfold maxLen; omega)
    have P2 := Lib.hid (show (l.length + 2) * 56 ≤ 140737488355328 from by omega)
    have P3 := Lib.hid (show w.heap.size ≤ (ws2.alloc (.cells (recsC [spareR, spareR]).toArray 51)).heap.size from by simp; omega)
    have ONE2 := Lib.hid (recs_one [spareR, spareR])
    go_wp2_with (at_builtin; refine wpList_append_new _ rfl _ _ 22 rfl w.heap.size 51 i0_r (.agg #[.string ⟨#[]⟩, .int .i64 0, .int .i64 0, .int .i64 0, .string ⟨#[]⟩]) 5 56 Tryz.underlying22 HI_r.out HZ_r.out HZ1_r.out HZ2_r.out rfl (by decide) _ _ _ rfl HOs3.out ⟨ws2.heap.size, 0, none⟩ 2 2 (recsC [spareR, spareR]) rfl rfl HNEWS.out ONE2.out P1.out P2.out P3.out ?_)
    intro v' w10 hown10 hg10 hnn10
    have HB10 := Lib.hid (HBs3.out.grown hg10 P3.out (fun j hj => (HOs3.out.lt j hj).1))
    obtain ⟨g, cap, rfl, hcg, _⟩ := hown10.form (by omega)
    obtain ⟨_, cap', hv, hcap⟩ := ownsRow_len hown10
    simp only [Value.slice.injEq, true_and] at hv
    obtain ⟨rfl, rfl⟩ := hv
    have hcap2 : l.length ≤ cap := by omega
    have HOWN10 := Lib.hid hown10
    clear hown10 hg10 hnn10 hcg
    go_wp2_with fail
    go_ret
    refine ⟨g, cap, rfl, HB10.out, ?_, hcap⟩
    have h := HOWN10.out
    rw [recsC_apps]
    exact h
set_option maxRecDepth 100000 in
set_option maxHeartbeats 2000000 in
theorem whole_any (base g cap : Nat) (l : List Rec) (hl : l.length ≤ 1000000000000) (lv : Value) (w : World) (hown : w.ownsRow base 51 5 (.slice (some ⟨g, 0, none⟩) (l.length + 2) cap) (l.length + 2) (recsC (l ++ [spareR, spareR]))) (hcap : l.length + 2 ≤ cap) (hlv : RecsAt w lv l) :
    Calls Tryz.prog 40 #[.slice (some ⟨g, 0, none⟩) l.length cap, lv] w fun e w' => e = .returned (.bool true) ∧ Below w.heap.size w w' := by
  obtain ⟨a, c, rfl, hc, _⟩ := id hlv
  have hfull : RecsAt w (.slice (some ⟨g, 0, none⟩) (l.length + 2) cap) (l ++ [spareR, spareR]) := owns_recs (base := base) (by rw [List.length_append]; exact hown)
  have hown2 : RecsAt w (.slice (some ⟨g, 0, none⟩) l.length cap) l := by
    have := recsAt_take (k := l.length) hfull (by rw [List.length_append]; omega)
    rw [List.take_left] at this
    exact this
  have e1 : (l ++ [spareR, spareR])[l.length]'(by rw [List.length_append]; simp) = spareR := by simp
  have e2 : (l ++ [spareR, spareR])[l.length + 1]'(by rw [List.length_append]; simp) = spareR := by simp
  obtain ⟨_, p0, p1, p2, p3, p4⟩ := cells_at hfull (j := l.length) (by rw [List.length_append]; simp)
  obtain ⟨_, q0, q1, q2, q3, q4⟩ := cells_at hfull (j := l.length + 1) (by rw [List.length_append]; simp)
  rw [e1] at p0 p1 p2 p3 p4
  rw [e2] at q0 q1 q2 q3 q4
  rw [Nat.zero_add] at p0 p1 p2 p3 p4 q0 q1 q2 q3 q4
  have g0 := gw_cell p0
  have g1 := gw_cell p1
  have g2 := gw_cell p2
  have g3 := gw_cell p3
  have g4 := gw_cell p4
  have k0 := gw_cell q0
  have k1 := gw_cell q1
  have k2 := gw_cell q2
  have k3 := gw_cell q3
  have k4 := gw_cell q4
  have CS : Hid (∀ p, Calls Tryz.prog 14 #[.slice (some ⟨g, 0, none⟩) l.length cap, .slice a l.length c] (gw w p) fun e w'' => e = .returned (.bool true) ∧ ∃ p', w'' = gw w p') := Lib.hid fun p => calls_gw (by
    have := same_any l l hl _ _ (gw w p) (hown2.below (gw_below w p)) (hlv.below (gw_below w p))
    rw [decide_eq_true rfl] at this
    exact this)
  have CP : Hid (∀ p, Calls Tryz.prog 66 #[] (gw w p) fun e w'' => e = .returned (recV spareR) ∧ ∃ p', w'' = gw w p') := Lib.hid fun p => calls_gw (spare_any _)
  have hcap' : (l.length : Int) + 2 ≤ (cap : Int) := by omega
  have hw1 : IntKind.i64.wrap ((l.length : Int) + 1) = (l.length : Int) + 1 := IntWalk.i64_in _ (by omega)
  have hw2 : ((l.length : Int) + 2).toNat = l.length + 2 := by omega
  have hb1 : (0 : Int) ≤ (l.length : Int) := by omega
  have hb2 : (l.length : Int) < (l.length : Int) + 2 := by omega
  have hb3 : (0 : Int) ≤ (l.length : Int) + 1 := by omega
  have hb4 : (l.length : Int) + 1 < (l.length : Int) + 2 := by omega
  have hb5 : ((l.length : Int) + 1).toNat = l.length + 1 := by omega
  have HOWN := Lib.hid hown; have HLV := Lib.hid hlv; have HFULL := Lib.hid hfull; have HOWN2 := Lib.hid hown2
  clear hown hlv hfull hown2
  clear e1 e2 p0 p1 p2 p3 p4 q0 q1 q2 q3 q4
  go_enter Tryz.func40, Tryz.ntmps40
  go_wp2_with fail
  refine wp_region_gw (by kernel_rfl) (by kernel_rfl) ?_
  repeat (with_reducible refine wpQuiet_step (fun K hK => ?_); go_simp; (try simp only [undef]); first | (with_reducible refine hK _ ?_; clear hK K) | (apply Exists.intro; refine ⟨fun _ => ?_, hK _ ?_⟩; (first | (go_at_call 14; with_reducible exact CS.out _) | (go_at_call 66; with_reducible exact CP.out _)); clear hK K) | (with_reducible refine ⟨fun _ h => (by cases h), ?_⟩; with_reducible refine hK _ ?_; clear hK K))
  refine wpQuiet_nil ?_
  (try simp only [show Value.tuple #[] = undef from rfl])
  intro W hW
  have hBW : Below w.heap.size w W := by obtain ⟨g, rfl⟩ := hW; exact gw_below _ g
  clear hW
  go_wp2_with fail
  go_ret
  exact ⟨rfl, hBW⟩
end Go.Proofs.YtdjjemajfphjaaaGreat

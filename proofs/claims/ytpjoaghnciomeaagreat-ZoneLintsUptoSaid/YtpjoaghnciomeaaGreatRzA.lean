/-
  The reference's zone: Set, There, stands.
-/
import Derived.Test.YtpjoaghnciomeaaGreatRefY
import Derived.Test.YtpjoaghnciomeaaGreatZoneV
import Derived.Test.YtpjoaghnciomeaaGreatSerial
namespace Go.Proofs.YtpjoaghnciomeaaGreat
open Go.RowKit Go.Shelf Go.Proofs.YtpjoaghnciomeaaGreat.nm Go.Proofs.YtpjoaghnciomeaaGreat.od

namespace zn
theorem rows_filter {L : List Rec} (hn : Named L) (n : ByteArray) (t : Int) : L.filter (fun r => decide (r.typ = t) && equalB r.owner n) = rowsS L (foldS n, t) := by
  unfold rowsS
  apply List.filter_congr
  intro r hr
  cases hc : checkB n
  · have h1 : equalB r.owner n = false := by unfold equalB; rw [hc]; simp
    have h2 : foldS n = ByteArray.empty := fold_none hc
    rw [h1, Bool.and_false]
    symm
    rw [decide_eq_false_iff_not]
    unfold keyR
    simp only [Prod.mk.injEq]
    rintro ⟨e, _⟩
    obtain ⟨x, hx⟩ := rows_check (hn r hr)
    have h3 := rows_fold hx
    rw [e, h2] at h3
    have := check_of h3
    rw [empty_check] at this
    cases this
  · unfold keyR
    rw [Bool.eq_iff_iff]
    simp only [Bool.and_eq_true, decide_eq_true_eq, Prod.mk.injEq]
    rw [equal_fold (hn r hr) hc]
    exact And.comm
/-- Is a name there, by the definition? -/
def rthereB (L : List Rec) (n : ByteArray) : Bool := L.any fun r => !signsB r && withinB r.owner n
theorem rthere_iff {L : List Rec} {n : ByteArray} : rthereB L n = true ↔ ∃ r ∈ L, signsB r = false ∧ withinB r.owner n = true := by
  unfold rthereB
  rw [List.any_eq_true]
  simp
theorem filter_next {α : Type} {L : List α} {k : Nat} (h : k < L.length) (p : α → Bool) : (L.take (k + 1)).filter p = if p L[k] = true then (L.take k).filter p ++ [L[k]] else (L.take k).filter p := by
  rw [List.take_succ_eq_append_getElem h, List.filter_append]
  by_cases hp : p L[k] = true
  · rw [if_pos hp, List.filter_cons, if_pos hp]; rfl
  · rw [if_neg hp, List.filter_cons, if_neg hp]; simp
theorem filter_take_le {α : Type} (L : List α) (k : Nat) (p : α → Bool) : ((L.take k).filter p).length ≤ L.length := Nat.le_trans (List.length_filter_le _ _) (by rw [List.length_take]; omega)
end zn

/-- A record of a zone's list, in a later world. -/
theorem rz_cells {w w' : World} {z : Nat} {apex : ByteArray} {L : List Rec} {g cap : Nat} (hz : w.heap[z]? = some (.cells #[.string apex, .slice (some ⟨g, 0, none⟩) L.length cap] 35 (0, 0))) (hr : RecsAt w (.slice (some ⟨g, 0, none⟩) L.length cap) L) (hB : Below w.heap.size w w') :
    w'.cell? ⟨z, 0, none⟩ = some (.string apex) ∧ w'.cell? ⟨z, 1, none⟩ = some (.slice (some ⟨g, 0, none⟩) L.length cap) ∧ (∀ k (hk : k < L.length), RecAt w' g (k * 5) L[k]) ∧ L.length ≤ cap := by
  have h1 := (hB.block z (heap_lt hz)).trans hz
  refine ⟨by rw [heap_cell h1]; rfl, by rw [heap_cell h1]; rfl, fun k hk => ?_, ?_⟩
  · have := (cells_at (hr.below hB) hk).2
    rw [Nat.zero_add] at this
    exact this
  · obtain ⟨a, c, hv, hc, _⟩ := hr
    simp only [Value.slice.injEq] at hv
    omega

set_option maxRecDepth 100000 in
set_option maxHeartbeats 2000000 in
theorem rset_any (z : Nat) (apex : ByteArray) (L : List Rec) (hL : L.length ≤ 2000) (hnm : zn.Named L) (n : ByteArray) (hn : n.size ≤ 1099511627776) (t : Int) (w : World) (hz : RZone w z apex L) :
    Calls Tryz.prog 25 #[.pointer (some ⟨z, 0, none⟩), .string n, .int .i64 t] w fun e w' => NewRecs (zn.rowsS L (foldS n, t)) w e w' := by
  obtain ⟨g, cap, hzc, hrec⟩ := hz
  have hall := zn.rows_filter hnm n t
  obtain ⟨p, hp⟩ : ∃ p : Rec → Bool, p = fun r => decide (r.typ = t) && equalB r.owner n := ⟨_, rfl⟩
  rw [← hp] at hall
  have hsz : ∀ k (hk : k < L.length), L[k].owner.size ≤ 1099511627776 := fun k hk => by have := checkB_size (hnm _ (List.getElem_mem hk)); omega
  have HC := Lib.hid (fun W (hB : Below w.heap.size w W) => rz_cells hzc hrec hB)
  obtain ⟨q0, q1, _, hcap⟩ := rz_cells hzc hrec (Below.refl _ _)
  obtain ⟨i0_r, hi_r, hz_r, hz1_r, hz2_r⟩ := info_parts info_rec
  have HI_r := Lib.hid hi_r; have HZ_r := Lib.hid hz_r; have HZ1_r := Lib.hid hz1_r; have HZ2_r := Lib.hid hz2_r
  clear hi_r hz_r hz1_r hz2_r
  have HZC := Lib.hid hzc; have HREC := Lib.hid hrec; have HALL := Lib.hid hall; have HP := Lib.hid hp; have HSZ := Lib.hid hsz; have HNM := Lib.hid hnm
  clear hzc hrec hall hp hsz hnm
  go_enter Tryz.func25, Tryz.ntmps25
  go_wp2_with fail
  clear q0 q1
  go_loopw [15, 7, 9] (fun kv v _ wr => ∃ k : Nat, k ≤ L.length ∧ kv = .int .i64 (k : Int) ∧ wr.ownsRow w.heap.size 53 5 v ((L.take k).filter p).length (recsC ((L.take k).filter p)) ∧ Below w.heap.size w wr) (fun kv _ _ _ => L.length - (intOf kv).toNat)
  case atStart => exact ⟨0, Nat.zero_le _, rfl, World.ownsRow_nil _ _ _ _, Below.refl _ _⟩
  case round =>
    obtain ⟨k, hk, rfl, hown, hB⟩ := hrel
    obtain ⟨a, c, rfl, _⟩ := ownsRow_len hown
    have hsr := hB.size
    have hln := zn.filter_take_le L k p
    have HOWN := Lib.hid hown; have HB := Lib.hid hB
    clear hown hB
    by_cases hlt : k < L.length
    · obtain ⟨c0, c1, c2, c3, c4⟩ := (HC.out wr HB.out).2.2.1 k hlt
      have hki : (k : Int) < (L.length : Int) := by omega
      obtain ⟨hBA0, _, hx⟩ := rec_new wr _ L[k] rfl
      have HBA := Lib.hid (HB.out.trans (hBA0.mono hsr))
      have HROWA := Lib.hid (ownsRow_below HOWN.out hBA0)
      have hso := HSZ.out k hlt
      have hnx := zn.filter_next hlt p
      obtain ⟨wa, hwa⟩ : ∃ W, W = wr.alloc (.cells (recC L[k]).toArray 53) := ⟨_, rfl⟩
      rw [← hwa] at HBA HROWA hx
      have hsa := HBA.out.size
      have ltb : wr.heap.size < wa.heap.size := by rw [hwa]; simp
      clear hBA0
      obtain ⟨x0, x1, x2, x3, x4⟩ := id hx
      by_cases ht : L[k].typ = t
      · have bt : (L[k].typ == t) = true := by rw [beq_iff_eq]; exact ht
        cases he : equalB L[k].owner n
        · have hpk : p L[k] = false := by rw [HP.out]; simp [he]
          rw [hpk, if_neg (by simp)] at hnx
          have HT := Lib.hid ht; have HE := Lib.hid he; have HPK := Lib.hid hpk; have HNX := Lib.hid hnx; have HX := Lib.hid hx; have HWA := Lib.hid hwa
          clear ht he hpk hnx hx hwa
          go_wp2_with fail
          rw [← HWA.out]
          refine (requal_any _ _ hso hn _).mono ?_
          rintro e w2 ⟨rfl, hB2⟩
          rw [HE.out]
          have HB2 := Lib.hid (HBA.out.trans (hB2.mono HBA.out.size))
          have HROW2 := Lib.hid (ownsRow_below HROWA.out hB2)
          clear hB2
          go_wp2_with fail
          go_roundw
          case rel => exact ⟨k + 1, by omega, by go_num, by rw [HNX.out]; exact HROW2.out, HB2.out⟩
          case measure => simp [intOf]; omega
        · have hpk : p L[k] = true := by rw [HP.out]; simp [he, ht]
          rw [hpk, if_pos rfl] at hnx
          have HT := Lib.hid ht; have HE := Lib.hid he; have HPK := Lib.hid hpk; have HNX := Lib.hid hnx; have HX := Lib.hid hx; have HWA := Lib.hid hwa
          clear ht he hpk hnx hx hwa
          clear c0 c1 c2 c3 c4
          obtain ⟨c0, c1, c2, c3, c4⟩ := (HC.out wr HB.out).2.2.1 k hlt
          go_wp2_with fail
          rw [← HWA.out]
          refine (requal_any _ _ hso hn _).mono ?_
          rintro e w2 ⟨rfl, hB2⟩
          rw [HE.out]
          obtain ⟨y0, y1, y2, y3, y4⟩ := HX.out.keep (hB2.block _ ltb)
          have HB2 := Lib.hid (HBA.out.trans (hB2.mono HBA.out.size))
          have HROW2 := Lib.hid (ownsRow_below HROWA.out hB2)
          clear hB2 x0 x1 x2 x3 x4 c0 c1 c2 c3 c4
          obtain ⟨F, hF⟩ : ∃ F, F = (L.take k).filter p := ⟨_, rfl⟩
          rw [← hF] at HROW2 HNX hln ⊢
          have HF := Lib.hid hF
          clear hF
          have HB_a := Lib.hid (HB2.out.alloc HB2.out.size (.cells (recC L[k]).toArray 53))
          have HO_a := Lib.hid (ownsRow_keepOne HROW2.out fun b hb => Below.heap_alloc w2 (.cells (recC L[k]).toArray 53) b (HROW2.out.lt b hb).2)
          have P1_a := Lib.hid (show F.length + 1 ≤ maxLen from by unfold maxLen; omega)
          have P2_a := Lib.hid (show (F.length + 1) * 56 ≤ 140737488355328 from by omega)
          have P3_a := Lib.hid (show w.heap.size ≤ (w2.alloc (.cells (recC L[k]).toArray 53)).heap.size from by have := HB2.out.size; simp; omega)
          have HNEWS_ := Lib.hid (news_at w2 (recC L[k]) 53)
          go_wp2_with (at_builtin; refine wpList_append_new _ rfl _ _ 22 rfl w.heap.size 53 i0_r (.agg #[.string ⟨#[]⟩, .int .i64 0, .int .i64 0, .int .i64 0, .string ⟨#[]⟩]) 5 56 Tryz.underlying22 HI_r.out HZ_r.out HZ1_r.out HZ2_r.out rfl (by decide) _ _ _ rfl HO_a.out ⟨w2.heap.size, 0, none⟩ 1 1 (recC L[k]) rfl rfl HNEWS_.out (by simp [Value.oneCell']) P1_a.out P2_a.out P3_a.out ?_)
          intro v' w10 hown10 hg10 hnn10
          have HB10 := Lib.hid (HB_a.out.grown hg10 P3_a.out (fun j hj => (HO_a.out.lt j hj).1))
          have HOWN10 := Lib.hid hown10; have HG10 := Lib.hid hg10; have HNN10 := Lib.hid hnn10
          clear hown10 hg10 hnn10 HB_a HO_a P1_a P2_a P3_a HNEWS_
          go_wp2_with fail
          go_roundw
          case rel =>
            refine ⟨k + 1, by omega, by go_num, ?_, HB10.out⟩
            have h := HOWN10.out
            rw [HNX.out, List.length_append, recsC_app]
            exact h
          case measure => simp [intOf]; omega
      · have bt : (L[k].typ == t) = false := by rw [beq_eq_false_iff_ne]; exact ht
        have hpk : p L[k] = false := by rw [HP.out]; simp [ht]
        rw [hpk, if_neg (by simp)] at hnx
        have HT := Lib.hid ht; have HPK := Lib.hid hpk; have HNX := Lib.hid hnx; have HX := Lib.hid hx; have HWA := Lib.hid hwa
        clear ht hpk hnx hx hwa
        go_wp2_with fail
        go_roundw
        case rel => exact ⟨k + 1, by omega, by go_num, by rw [HNX.out, ← HWA.out]; exact HROWA.out, by rw [← HWA.out]; exact HBA.out⟩
        case measure => simp [intOf]; omega
    · obtain rfl : k = L.length := by omega
      have hfin : (L.take L.length).filter p = zn.rowsS L (foldS n, t) := by rw [List.take_length]; exact HALL.out
      have HFIN := Lib.hid hfin
      clear hfin
      go_wp2_with fail
      go_ret
      exact ⟨_, rfl, HB.out, by rw [← HFIN.out]; exact HOWN.out⟩

set_option maxRecDepth 100000 in
set_option maxHeartbeats 2000000 in
theorem rthere_any (z : Nat) (apex : ByteArray) (L : List Rec) (hL : L.length ≤ 2000) (hnm : zn.Named L) (n : ByteArray) (hn : n.size ≤ 1099511627776) (w : World) (hz : RZone w z apex L) :
    Calls Tryz.prog 64 #[.pointer (some ⟨z, 0, none⟩), .string n] w fun e w' => e = .returned (.bool (zn.rthereB L n)) ∧ Below w.heap.size w w' := by
  obtain ⟨g, cap, hzc, hrec⟩ := hz
  obtain ⟨p, hp⟩ : ∃ p : Rec → Bool, p = fun r => !zn.signsB r && withinB r.owner n := ⟨_, rfl⟩
  have hres : zn.rthereB L n = L.any p := by rw [hp]; rfl
  have hsz : ∀ k (hk : k < L.length), L[k].owner.size ≤ 1099511627776 := fun k hk => by have := checkB_size (hnm _ (List.getElem_mem hk)); omega
  have HC := Lib.hid (fun W (hB : Below w.heap.size w W) => rz_cells hzc hrec hB)
  obtain ⟨q0, q1, _, hcap⟩ := rz_cells hzc hrec (Below.refl _ _)
  rw [hres]
  have HZC := Lib.hid hzc; have HREC := Lib.hid hrec; have HP := Lib.hid hp; have HSZ := Lib.hid hsz; have HNM := Lib.hid hnm; have HRES := Lib.hid hres
  clear hzc hrec hp hsz hnm hres
  go_enter Tryz.func64, Tryz.ntmps64
  go_wp2_with fail
  clear q0 q1
  go_loopw [12, 6] (fun kv _ wr => ∃ k : Nat, k ≤ L.length ∧ kv = .int .i64 (k : Int) ∧ (L.take k).any p = false ∧ Below w.heap.size w wr) (fun kv _ _ => L.length - (intOf kv).toNat)
  case atStart => exact ⟨0, Nat.zero_le _, rfl, rfl, Below.refl _ _⟩
  case round =>
    obtain ⟨k, hk, rfl, hno, hB⟩ := hrel
    have hsr := hB.size
    have HB := Lib.hid hB
    clear hB
    by_cases hlt : k < L.length
    · obtain ⟨c0, c1, c2, c3, c4⟩ := (HC.out wr HB.out).2.2.1 k hlt
      have hki : (k : Int) < (L.length : Int) := by omega
      obtain ⟨hBA0, _, hx⟩ := rec_new wr _ L[k] rfl
      have HBA := Lib.hid (HB.out.trans (hBA0.mono hsr))
      have hso := HSZ.out k hlt
      have hnx : (L.take (k + 1)).any p = p L[k] := by rw [List.take_succ_eq_append_getElem hlt, List.any_append, hno]; simp
      obtain ⟨wa, hwa⟩ : ∃ W, W = wr.alloc (.cells (recC L[k]).toArray 53) := ⟨_, rfl⟩
      rw [← hwa] at HBA hx
      have hsa := HBA.out.size
      have ltb : wr.heap.size < wa.heap.size := by rw [hwa]; simp
      clear hBA0
      obtain ⟨x0, x1, x2, x3, x4⟩ := id hx
      cases hs : zn.signsB L[k]
      · cases hw : withinB L[k].owner n
        · have hpk : p L[k] = false := by rw [HP.out]; simp [hw]
          rw [hpk] at hnx
          have HS := Lib.hid hs; have HW := Lib.hid hw; have HPK := Lib.hid hpk; have HNX := Lib.hid hnx; have HX := Lib.hid hx; have HWA := Lib.hid hwa; have HNO := Lib.hid hno
          clear hs hw hpk hnx hx hwa hno
          go_wp2_with fail
          rw [← HWA.out]
          refine (rcounts_any _ _).mono ?_
          rintro e w2 ⟨rfl, hB2⟩
          rw [HS.out]
          obtain ⟨y0, y1, y2, y3, y4⟩ := HX.out.keep (hB2.block _ ltb)
          have HB2 := Lib.hid (HBA.out.trans (hB2.mono HBA.out.size))
          clear hB2 x0 x1 x2 x3 x4 c0 c1 c2 c3 c4
          go_wp2_with fail
          refine (rwithin_any _ _ hso hn _).mono ?_
          rintro e w3 ⟨rfl, hB3⟩
          rw [HW.out]
          have HB3 := Lib.hid (HB2.out.trans (hB3.mono HB2.out.size))
          clear hB3
          go_wp2_with fail
          go_roundw
          case rel => exact ⟨k + 1, by omega, by go_num, HNX.out, HB3.out⟩
          case measure => simp [intOf]; omega
        · have hpk : p L[k] = true := by rw [HP.out]; simp [hw, hs]
          have hany : L.any p = true := by rw [List.any_eq_true]; exact ⟨_, List.getElem_mem hlt, hpk⟩
          have HS := Lib.hid hs; have HW := Lib.hid hw; have HPK := Lib.hid hpk; have HNX := Lib.hid hnx; have HX := Lib.hid hx; have HWA := Lib.hid hwa; have HNO := Lib.hid hno; have HANY := Lib.hid hany
          clear hs hw hpk hnx hx hwa hno hany
          go_wp2_with fail
          rw [← HWA.out]
          refine (rcounts_any _ _).mono ?_
          rintro e w2 ⟨rfl, hB2⟩
          rw [HS.out]
          obtain ⟨y0, y1, y2, y3, y4⟩ := HX.out.keep (hB2.block _ ltb)
          have HB2 := Lib.hid (HBA.out.trans (hB2.mono HBA.out.size))
          clear hB2 x0 x1 x2 x3 x4 c0 c1 c2 c3 c4
          go_wp2_with fail
          refine (rwithin_any _ _ hso hn _).mono ?_
          rintro e w3 ⟨rfl, hB3⟩
          rw [HW.out]
          have HB3 := Lib.hid (HB2.out.trans (hB3.mono HB2.out.size))
          clear hB3
          go_wp2_with fail
          go_ret
          exact ⟨ret_b HANY.out.symm, HB3.out⟩
      · have hpk : p L[k] = false := by rw [HP.out]; simp [hs]
        rw [hpk] at hnx
        have HS := Lib.hid hs; have HPK := Lib.hid hpk; have HNX := Lib.hid hnx; have HX := Lib.hid hx; have HWA := Lib.hid hwa; have HNO := Lib.hid hno
        clear hs hpk hnx hx hwa hno
        go_wp2_with fail
        rw [← HWA.out]
        refine (rcounts_any _ _).mono ?_
        rintro e w2 ⟨rfl, hB2⟩
        rw [HS.out]
        have HB2 := Lib.hid (HBA.out.trans (hB2.mono HBA.out.size))
        clear hB2 x0 x1 x2 x3 x4 c0 c1 c2 c3 c4
        go_wp2_with fail
        go_roundw
        case rel => exact ⟨k + 1, by omega, by go_num, HNX.out, HB2.out⟩
        case measure => simp [intOf]; omega
    · obtain rfl : k = L.length := by omega
      have hany : L.any p = false := by rw [List.take_length] at hno; exact hno
      have HNO := Lib.hid hno; have HANY := Lib.hid hany
      clear hno hany
      go_wp2_with fail
      go_ret
      exact ⟨ret_b HANY.out.symm, HB.out⟩
end Go.Proofs.YtpjoaghnciomeaaGreat
/-
  The reference's zone: stands, Serial.
-/
namespace Go.Proofs.YtpjoaghnciomeaaGreat
open Go.RowKit Go.Shelf Go.Proofs.YtpjoaghnciomeaaGreat.nm Go.Proofs.YtpjoaghnciomeaaGreat.od

namespace zn
theorem at_filter {L : List Rec} (hn : Named L) (h255 : ∀ r ∈ L, r.typ ≠ 255) (n : ByteArray) (t : Int) : L.filter (fun r => equalB r.owner n && (decide (r.typ = t) || (decide (t = 255) && !signsB r))) = atL L n t := by
  unfold atL
  by_cases ht : t = 255
  · subst ht
    rw [if_pos rfl]
    apply List.filter_congr
    intro r hr
    rw [decide_eq_false (h255 r hr)]
    simp
  · rw [if_neg ht, ← rows_filter hn n t]
    apply List.filter_congr
    intro r _
    rw [decide_eq_false ht]
    simp [Bool.and_comm]
theorem valid_types {apex : ByteArray} {L : List Rec} (hv : Valid apex L) : ∀ r ∈ L, r.typ ≠ 255 := fun r hr => (type_of (hv.each r hr).2.1).2.2
end zn

/-- What stands answers. -/
def RStands (f : zn.Fnd) (w : World) (e : Ending) (w' : World) : Prop := ∃ v, e = .returned (.tuple #[.int .i64 f.kind, v]) ∧ Below w.heap.size w w' ∧ w'.ownsRow w.heap.size 53 5 v f.recs.length (recsC f.recs)


set_option maxRecDepth 100000 in
set_option maxHeartbeats 4000000 in
theorem rstands_any (z : Nat) (apex : ByteArray) (L : List Rec) (hva : zn.Valid apex L) (n : ByteArray) (hn : n.size ≤ 1099511627776) (t : Int) (o e0 : ByteArray) (wl : Bool) (w : World) (hz : RZone w z apex L) :
    Calls Tryz.prog 65 #[.pointer (some ⟨z, 0, none⟩), .string n, .int .i64 t] w fun e w' => RStands (zn.standsR L n t o e0 wl) w e w' := by
  have hL := hva.small
  have hnm := hva.named
  have hset := rset_any z apex L hL hnm n hn 5 w hz
  obtain ⟨g, cap, hzc, hrec⟩ := hz
  have hall := zn.at_filter hnm (zn.valid_types hva) n t
  obtain ⟨p, hp⟩ : ∃ p : Rec → Bool, p = fun r => equalB r.owner n && (decide (r.typ = t) || (decide (t = 255) && !zn.signsB r)) := ⟨_, rfl⟩
  rw [← hp] at hall
  have hsz : ∀ k (hk : k < L.length), L[k].owner.size ≤ 1099511627776 := fun k hk => by have := checkB_size (hnm _ (List.getElem_mem hk)); omega
  have HC := Lib.hid (fun W (hB : Below w.heap.size w W) => rz_cells hzc hrec hB)
  have h5 : zn.atL L n 5 = zn.rowsS L (foldS n, 5) := atL_type (by decide)
  obtain ⟨al, hal⟩ : ∃ b, b = (decide (0 < (zn.rowsS L (foldS n, 5)).length) && !decide (t = 5) && !decide (t = 255)) := ⟨_, rfl⟩
  obtain ⟨i0_r, hi_r, hz_r, hz1_r, hz2_r⟩ := info_parts info_rec
  have HI_r := Lib.hid hi_r; have HZ_r := Lib.hid hz_r; have HZ1_r := Lib.hid hz1_r; have HZ2_r := Lib.hid hz2_r
  clear hi_r hz_r hz1_r hz2_r
  have HZC := Lib.hid hzc; have HREC := Lib.hid hrec; have HALL := Lib.hid hall; have HP := Lib.hid hp; have HSZ := Lib.hid hsz; have HNM := Lib.hid hnm; have HSET := Lib.hid hset; have H5 := Lib.hid h5; have HAL := Lib.hid hal; have HVA := Lib.hid hva
  clear hzc hrec hall hp hsz hnm hset h5 hal hva
  go_enter Tryz.func65, Tryz.ntmps65
  go_wp2_with fail
  refine HSET.out.mono ?_
  rintro e w2 ⟨v2, rfl, hB2, hown2⟩
  obtain ⟨a2, c2, rfl, _⟩ := ownsRow_len hown2
  obtain ⟨m, hm⟩ : ∃ m, m = (zn.rowsS L (foldS n, 5)).length := ⟨_, rfl⟩
  have hHAL := HAL.out
  rw [← hm] at hHAL hown2 ⊢
  have HB2 := Lib.hid hB2; have HOWN2 := Lib.hid hown2; have HM := Lib.hid hm; have HAL2 := Lib.hid hHAL
  have hs2 := hB2.size
  clear hB2 hown2 hm hHAL
  go_upto_region 2 with fail
  go_cut [25] (fun s wx => s = .bool al ∧ wx = w2)
  case first =>
    by_cases h0 : 0 < m
    · have h0' : (0 : Int) < (m : Int) := by omega
      by_cases ht5 : t = 5
      · have b5 : (t != 5) = false := by rw [bne_eq_false_iff_eq]; exact ht5
        have HT5 := Lib.hid ht5
        clear ht5
        go_wp2_with fail
        go_meet
        exact ⟨by rw [HAL2.out, decide_eq_true HT5.out]; simp, rfl⟩
      · have b5 : (t != 5) = true := by rw [bne_iff_ne]; exact ht5
        by_cases ht255 : t = 255
        · have b255 : (t != 255) = false := by rw [bne_eq_false_iff_eq]; exact ht255
          have HT5 := Lib.hid ht5; have HT255 := Lib.hid ht255
          clear ht5 ht255
          go_wp2_with fail
          go_meet
          exact ⟨by rw [HAL2.out, decide_eq_true HT255.out]; simp, rfl⟩
        · have b255 : (t != 255) = true := by rw [bne_iff_ne]; exact ht255
          have HT5 := Lib.hid ht5; have HT255 := Lib.hid ht255
          clear ht5 ht255
          go_wp2_with fail
          go_meet
          exact ⟨by rw [HAL2.out, decide_eq_true h0, decide_eq_false HT5.out, decide_eq_false HT255.out]; rfl, rfl⟩
    · have h0' : (m : Int) ≤ 0 := by omega
      have H0 := Lib.hid h0
      clear h0
      go_wp2_with fail
      go_meet
      exact ⟨by rw [HAL2.out, decide_eq_false H0.out]; rfl, rfl⟩
  case rest =>
  obtain ⟨rfl, hwe⟩ := hcut
  rw [hwe]
  clear hwe
  cases al
  · have hst : zn.standsR L n t o e0 wl = if zn.atL L n t ≠ [] then ⟨1, o, e0, wl, zn.atL L n t⟩ else ⟨5, o, e0, wl, []⟩ := by
      unfold zn.standsR
      rw [if_neg]
      rintro ⟨h1, h2, h3⟩
      have h := HAL2.out
      rw [H5.out] at h1
      rw [decide_eq_true (show 0 < m by rw [HM.out]; exact List.length_pos_iff.2 h1), decide_eq_false h2, decide_eq_false h3] at h
      cases h
    have HST := Lib.hid hst
    clear hst
    obtain ⟨q0, q1, _, hcap⟩ := HC.out w2 HB2.out
    go_wp2_with fail
    clear q0 q1
    go_loopw [32, 9, 11] (fun kv v _ wr => ∃ k : Nat, k ≤ L.length ∧ kv = .int .i64 (k : Int) ∧ wr.ownsRow w2.heap.size 53 5 v ((L.take k).filter p).length (recsC ((L.take k).filter p)) ∧ Below w2.heap.size w2 wr) (fun kv _ _ _ => L.length - (intOf kv).toNat)
    case atStart => exact ⟨0, Nat.zero_le _, rfl, World.ownsRow_nil _ _ _ _, Below.refl _ _⟩
    case round =>
      obtain ⟨k, hk, rfl, hown, hB⟩ := hrel
      obtain ⟨a, c, rfl, _⟩ := ownsRow_len hown
      have hsr := hB.size
      have hln := zn.filter_take_le L k p
      have HOWN := Lib.hid hown; have HB := Lib.hid hB
      clear hown hB
      by_cases hlt : k < L.length
      · obtain ⟨c0, c1, c2, c3, c4⟩ := (HC.out wr (HB2.out.trans (HB.out.mono hs2))).2.2.1 k hlt
        have hki : (k : Int) < (L.length : Int) := by omega
        obtain ⟨hBA0, _, hx⟩ := rec_new wr _ L[k] rfl
        have HBA := Lib.hid (HB.out.trans (hBA0.mono hsr))
        have HROWA := Lib.hid (ownsRow_below HOWN.out hBA0)
        have hso := HSZ.out k hlt
        have hnx := zn.filter_next hlt p
        obtain ⟨wa, hwa⟩ : ∃ W, W = wr.alloc (.cells (recC L[k]).toArray 53) := ⟨_, rfl⟩
        rw [← hwa] at HBA HROWA hx
        have ltb : wr.heap.size < wa.heap.size := by rw [hwa]; simp
        clear hBA0
        obtain ⟨x0, x1, x2, x3, x4⟩ := id hx
        cases he : equalB L[k].owner n
        · have hpk : p L[k] = false := by rw [HP.out]; simp [he]
          rw [hpk, if_neg (by simp)] at hnx
          have HE := Lib.hid he; have HPK := Lib.hid hpk; have HNX := Lib.hid hnx; have HX := Lib.hid hx; have HWA := Lib.hid hwa
          clear he hpk hnx hx hwa
          go_wp2_with fail
          rw [← HWA.out]
          refine (requal_any _ _ hso hn _).mono ?_
          rintro e w3 ⟨rfl, hB3⟩
          rw [HE.out]
          have HB3 := Lib.hid (HBA.out.trans (hB3.mono HBA.out.size))
          have HROW3 := Lib.hid (ownsRow_below HROWA.out hB3)
          clear hB3
          go_wp2_with fail
          go_roundw
          case rel => exact ⟨k + 1, by omega, by go_num, by rw [HNX.out]; exact HROW3.out, HB3.out⟩
          case measure => simp [intOf]; omega
        · by_cases ht : L[k].typ = t
          · have bt : (L[k].typ == t) = true := by rw [beq_iff_eq]; exact ht
            have hpk : p L[k] = true := by rw [HP.out]; simp [he, ht]
            rw [hpk, if_pos rfl] at hnx
            have HE := Lib.hid he; have HT := Lib.hid ht; have HPK := Lib.hid hpk; have HNX := Lib.hid hnx; have HX := Lib.hid hx; have HWA := Lib.hid hwa
            clear he ht hpk hnx hx hwa
            go_wp2_with fail
            rw [← HWA.out]
            refine (requal_any _ _ hso hn _).mono ?_
            rintro e w3 ⟨rfl, hB3⟩
            rw [HE.out]
            obtain ⟨y0, y1, y2, y3, y4⟩ := HX.out.keep (hB3.block _ ltb)
            have HB3 := Lib.hid (HBA.out.trans (hB3.mono HBA.out.size))
            have HROW3 := Lib.hid (ownsRow_below HROWA.out hB3)
            clear hB3 x0 x1 x2 x3 x4 c0 c1 c2 c3 c4
            obtain ⟨F, hF⟩ : ∃ F, F = (L.take k).filter p := ⟨_, rfl⟩
            rw [← hF] at HROW3 HNX hln ⊢
            have HF := Lib.hid hF
            clear hF
            have HB_a := Lib.hid (HB3.out.alloc HB3.out.size (.cells (recC L[k]).toArray 53))
            have HO_a := Lib.hid (ownsRow_keepOne HROW3.out fun b hb => Below.heap_alloc w3 (.cells (recC L[k]).toArray 53) b (HROW3.out.lt b hb).2)
            have P1_a := Lib.hid (show F.length + 1 ≤ maxLen from by unfold maxLen; omega)
            have P2_a := Lib.hid (show (F.length + 1) * 56 ≤ 140737488355328 from by omega)
            have P3_a := Lib.hid (show w2.heap.size ≤ (w3.alloc (.cells (recC L[k]).toArray 53)).heap.size from by have := HB3.out.size; simp; omega)
            have HNEWS_ := Lib.hid (news_at w3 (recC L[k]) 53)
            go_wp2_with (at_builtin; refine wpList_append_new _ rfl _ _ 22 rfl w2.heap.size 53 i0_r (.agg #[.string ⟨#[]⟩, .int .i64 0, .int .i64 0, .int .i64 0, .string ⟨#[]⟩]) 5 56 Tryz.underlying22 HI_r.out HZ_r.out HZ1_r.out HZ2_r.out rfl (by decide) _ _ _ rfl HO_a.out ⟨w3.heap.size, 0, none⟩ 1 1 (recC L[k]) rfl rfl HNEWS_.out (by simp [Value.oneCell']) P1_a.out P2_a.out P3_a.out ?_)
            intro v' w10 hown10 hg10 hnn10
            have HB10 := Lib.hid (HB_a.out.grown hg10 P3_a.out (fun j hj => (HO_a.out.lt j hj).1))
            have HOWN10 := Lib.hid hown10; have HG10 := Lib.hid hg10; have HNN10 := Lib.hid hnn10
            clear hown10 hg10 hnn10 HB_a HO_a P1_a P2_a P3_a HNEWS_
            go_wp2_with fail
            go_roundw
            case rel =>
              refine ⟨k + 1, by omega, by go_num, ?_, HB10.out⟩
              have h := HOWN10.out
              rw [HNX.out, List.length_append, recsC_app]
              exact h
            case measure => simp [intOf]; omega
          · have bt : (L[k].typ == t) = false := by rw [beq_eq_false_iff_ne]; exact ht
            by_cases ht255 : t = 255
            · have b255 : (t == 255) = true := by rw [beq_iff_eq]; exact ht255
              cases hs : zn.signsB L[k]
              · have hpk : p L[k] = true := by rw [HP.out]; simp [he, ht255, hs]
                rw [hpk, if_pos rfl] at hnx
                have HE := Lib.hid he; have HT := Lib.hid ht; have HT255 := Lib.hid ht255; have HS := Lib.hid hs; have HPK := Lib.hid hpk; have HNX := Lib.hid hnx; have HX := Lib.hid hx; have HWA := Lib.hid hwa
                clear he ht ht255 hs hpk hnx hx hwa
                go_wp2_with fail
                rw [← HWA.out]
                refine (requal_any _ _ hso hn _).mono ?_
                rintro e w3 ⟨rfl, hB3⟩
                rw [HE.out]
                obtain ⟨y0, y1, y2, y3, y4⟩ := HX.out.keep (hB3.block _ ltb)
                have HB3 := Lib.hid (HBA.out.trans (hB3.mono HBA.out.size))
                have HROW3 := Lib.hid (ownsRow_below HROWA.out hB3)
                have HX3 := Lib.hid (HX.out.keep (hB3.block _ ltb))
                have ltb3 : wr.heap.size < w3.heap.size := by have := hB3.size; omega
                clear hB3 x0 x1 x2 x3 x4 c0 c1 c2 c3 c4
                go_wp2_with fail
                refine (rcounts_any _ _).mono ?_
                rintro e w4 ⟨rfl, hB4⟩
                rw [HS.out]
                clear y0 y1 y2 y3 y4
                obtain ⟨y0, y1, y2, y3, y4⟩ := HX3.out.keep (hB4.block _ ltb3)
                have HB4 := Lib.hid (HB3.out.trans (hB4.mono HB3.out.size))
                have HROW4 := Lib.hid (ownsRow_below HROW3.out hB4)
                clear hB4
                obtain ⟨F, hF⟩ : ∃ F, F = (L.take k).filter p := ⟨_, rfl⟩
                rw [← hF] at HROW4 HNX hln ⊢
                have HF := Lib.hid hF
                clear hF
                have HB_a := Lib.hid (HB4.out.alloc HB4.out.size (.cells (recC L[k]).toArray 53))
                have HO_a := Lib.hid (ownsRow_keepOne HROW4.out fun b hb => Below.heap_alloc w4 (.cells (recC L[k]).toArray 53) b (HROW4.out.lt b hb).2)
                have P1_a := Lib.hid (show F.length + 1 ≤ maxLen from by unfold maxLen; omega)
                have P2_a := Lib.hid (show (F.length + 1) * 56 ≤ 140737488355328 from by omega)
                have P3_a := Lib.hid (show w2.heap.size ≤ (w4.alloc (.cells (recC L[k]).toArray 53)).heap.size from by have := HB4.out.size; simp; omega)
                have HNEWS_ := Lib.hid (news_at w4 (recC L[k]) 53)
                go_wp2_with (at_builtin; refine wpList_append_new _ rfl _ _ 22 rfl w2.heap.size 53 i0_r (.agg #[.string ⟨#[]⟩, .int .i64 0, .int .i64 0, .int .i64 0, .string ⟨#[]⟩]) 5 56 Tryz.underlying22 HI_r.out HZ_r.out HZ1_r.out HZ2_r.out rfl (by decide) _ _ _ rfl HO_a.out ⟨w4.heap.size, 0, none⟩ 1 1 (recC L[k]) rfl rfl HNEWS_.out (by simp [Value.oneCell']) P1_a.out P2_a.out P3_a.out ?_)
                intro v' w10 hown10 hg10 hnn10
                have HB10 := Lib.hid (HB_a.out.grown hg10 P3_a.out (fun j hj => (HO_a.out.lt j hj).1))
                have HOWN10 := Lib.hid hown10; have HG10 := Lib.hid hg10; have HNN10 := Lib.hid hnn10
                clear hown10 hg10 hnn10 HB_a HO_a P1_a P2_a P3_a HNEWS_
                go_wp2_with fail
                go_roundw
                case rel =>
                  refine ⟨k + 1, by omega, by go_num, ?_, HB10.out⟩
                  have h := HOWN10.out
                  rw [HNX.out, List.length_append, recsC_app]
                  exact h
                case measure => simp [intOf]; omega
              · have hpk : p L[k] = false := by rw [HP.out]; simp [he, ht, hs]
                rw [hpk, if_neg (by simp)] at hnx
                have HE := Lib.hid he; have HT := Lib.hid ht; have HT255 := Lib.hid ht255; have HS := Lib.hid hs; have HPK := Lib.hid hpk; have HNX := Lib.hid hnx; have HX := Lib.hid hx; have HWA := Lib.hid hwa
                clear he ht ht255 hs hpk hnx hx hwa
                go_wp2_with fail
                rw [← HWA.out]
                refine (requal_any _ _ hso hn _).mono ?_
                rintro e w3 ⟨rfl, hB3⟩
                rw [HE.out]
                obtain ⟨y0, y1, y2, y3, y4⟩ := HX.out.keep (hB3.block _ ltb)
                have HB3 := Lib.hid (HBA.out.trans (hB3.mono HBA.out.size))
                have HROW3 := Lib.hid (ownsRow_below HROWA.out hB3)
                clear hB3 x0 x1 x2 x3 x4 c0 c1 c2 c3 c4
                go_wp2_with fail
                refine (rcounts_any _ _).mono ?_
                rintro e w4 ⟨rfl, hB4⟩
                rw [HS.out]
                have HB4 := Lib.hid (HB3.out.trans (hB4.mono HB3.out.size))
                have HROW4 := Lib.hid (ownsRow_below HROW3.out hB4)
                clear hB4
                go_wp2_with fail
                go_roundw
                case rel => exact ⟨k + 1, by omega, by go_num, by rw [HNX.out]; exact HROW4.out, HB4.out⟩
                case measure => simp [intOf]; omega
            · have b255 : (t == 255) = false := by rw [beq_eq_false_iff_ne]; exact ht255
              have hpk : p L[k] = false := by rw [HP.out]; simp [ht, ht255]
              rw [hpk, if_neg (by simp)] at hnx
              have HE := Lib.hid he; have HT := Lib.hid ht; have HT255 := Lib.hid ht255; have HPK := Lib.hid hpk; have HNX := Lib.hid hnx; have HX := Lib.hid hx; have HWA := Lib.hid hwa
              clear he ht ht255 hpk hnx hx hwa
              go_wp2_with fail
              rw [← HWA.out]
              refine (requal_any _ _ hso hn _).mono ?_
              rintro e w3 ⟨rfl, hB3⟩
              rw [HE.out]
              obtain ⟨y0, y1, y2, y3, y4⟩ := HX.out.keep (hB3.block _ ltb)
              have HB3 := Lib.hid (HBA.out.trans (hB3.mono HBA.out.size))
              have HROW3 := Lib.hid (ownsRow_below HROWA.out hB3)
              clear hB3
              go_wp2_with fail
              go_roundw
              case rel => exact ⟨k + 1, by omega, by go_num, by rw [HNX.out]; exact HROW3.out, HB3.out⟩
              case measure => simp [intOf]; omega
      · obtain rfl : k = L.length := by omega
        have hfin : (L.take L.length).filter p = zn.atL L n t := by rw [List.take_length]; exact HALL.out
        have HBE := Lib.hid (HB2.out.trans (HB.out.mono hs2))
        have hown' := HOWN.out
        rw [hfin] at hown' ⊢
        obtain ⟨F, hF⟩ : ∃ F, F = zn.atL L n t := ⟨_, rfl⟩
        rw [← hF] at hown' ⊢
        have hst2 := HST.out
        rw [← hF] at hst2
        have HROWF := Lib.hid (ownsRow_base hown' hs2)
        clear hown'
        by_cases h0 : F.length = 0
        · have b0 : ((F.length : Int) == 0) = true := by rw [beq_iff_eq]; omega
          rw [if_neg (fun h => h (List.eq_nil_of_length_eq_zero h0))] at hst2
          have HFIN := Lib.hid hfin; have HF := Lib.hid hF; have H0 := Lib.hid h0; have HST2 := Lib.hid hst2
          clear hfin hF h0 hst2
          go_wp2_with fail
          go_ret2
          rw [HST2.out]
          exact ⟨_, rfl, HBE.out, World.ownsRow_nil _ _ _ _⟩
        · have b0 : ((F.length : Int) == 0) = false := by rw [beq_eq_false_iff_ne]; omega
          rw [if_pos (fun h => h0 (by rw [h]; rfl))] at hst2
          have HFIN := Lib.hid hfin; have HF := Lib.hid hF; have H0 := Lib.hid h0; have HST2 := Lib.hid hst2
          clear hfin hF h0 hst2
          go_wp2_with fail
          go_ret2
          rw [HST2.out]
          exact ⟨_, rfl, HBE.out, HROWF.out⟩
  · have hst : zn.standsR L n t o e0 wl = ⟨2, o, e0, wl, zn.rowsS L (foldS n, 5)⟩ := by
      unfold zn.standsR
      have h := HAL2.out
      simp only [Bool.true_eq, Bool.and_eq_true, decide_eq_true_eq, Bool.not_eq_true', decide_eq_false_iff_not] at h
      rw [if_pos ⟨by rw [H5.out]; intro e; have := h.1.1; rw [HM.out, e] at this; simp at this, h.1.2, h.2⟩, H5.out]
    have HROWF : Hid (w2.ownsRow w.heap.size 53 5 (.slice a2 m c2) (zn.rowsS L (foldS n, 5)).length (recsC (zn.rowsS L (foldS n, 5)))) := Lib.hid (by have := HOWN2.out; rw [← HM.out]; exact this)
    have HST := Lib.hid hst
    clear hst
    go_wp2_with fail
    go_ret2
    rw [HST.out]
    exact ⟨_, rfl, HB2.out, HROWF.out⟩
end Go.Proofs.YtpjoaghnciomeaaGreat

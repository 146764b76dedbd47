/-
  Data of rewritings, plainly: the service.
-/
import Derived.Test.YtnloommafgnanaaGreatQOrdT
import Derived.Test.YtnloommafgnanaaGreatQNameA
import Derived.Test.YtnloommafgnanaaGreatQOrdA
import Derived.Test.YtnloommafgnanaaGreatQOrdS
namespace Go.Proofs.YtnloommafgnanaaGreat
open Go.RowKit Go.Shelf Go.Proofs.YtnloommafgnanaaGreat.nm Go.Proofs.YtnloommafgnanaaGreat.od

namespace po
/-- The length of the flags, and of the service. -/
def la (d : ByteArray) : Nat := sizeAt d 4
def lb (d : ByteArray) : Nat := sizeAt (d.extract (5 + la d) d.size) 0
/-- The service. -/
def svcS (d : ByteArray) : ByteArray := (d.extract (5 + la d) d.size).extract 1 (1 + lb d)
theorem size_ex (d : ByteArray) (a : Nat) : (d.extract a d.size).size = d.size - a := by rw [ByteArray.size_extract]; omega
theorem nap_data {d : ByteArray} (h : dt.chkI 35 d = 0) : ∃ ps r0, dt.splitF [.num 2, .num 2, .text, .text, .text, .host] d [] = some (ps, r0) ∧ r0.size = 0 ∧ ps.length = 6 ∧ d.size ≤ 65535 ∧ 5 + la d < d.size ∧ 5 + la d + 1 + lb d ≤ d.size ∧ ∃ q : 3 < ps.length, ps[3] = (d.extract (5 + la d) d.size).extract 0 (1 + lb d) := by
  have hfs : dt.formF 35 = some [.num 2, .num 2, .text, .text, .text, .host] := rfl
  unfold dt.chkI at h
  split at h
  · split at h
    · cases h
    · rename_i hs
      split at h
      · rename_i hf
        unfold dt.fits at hf
        rw [hfs] at hf
        simp only at hf
        split at hf
        · rename_i ps r0 hsp
          have hr0 : r0.size = 0 := of_decide_eq_true hf
          have hsp0 := hsp
          simp only [dt.splitF] at hsp
          have ht : ∀ x : ByteArray, dt.takeI (.num 2) x = if (x.size : Int) < 2 then -1 else 2 := fun x => by unfold dt.takeI dt.numI; simp
          have hx : ∀ x : ByteArray, dt.takeI .text x = dt.textI x := fun x => rfl
          have two : (2 : Int).toNat = 2 := rfl
          rw [ht] at hsp
          by_cases h1 : (d.size : Int) < 2
          · rw [if_pos h1] at hsp; simp at hsp
          rw [if_neg h1, if_neg (by omega), two] at hsp
          have e1 := size_ex d 2
          rw [ht] at hsp
          by_cases h2 : ((d.extract 2 d.size).size : Int) < 2
          · rw [if_pos h2] at hsp; simp at hsp
          rw [if_neg h2, if_neg (by omega), two, extract_extract0, hx] at hsp
          have e2 := size_ex d (2 + 2)
          have t1 : 4 < d.size ∧ 4 + sizeAt d 4 < d.size ∧ dt.textI (d.extract (2 + 2) d.size) = 1 + (sizeAt d 4 : Int) := by
            have hs4 : 4 < d.size → sizeAt (d.extract (2 + 2) d.size) 0 = sizeAt d 4 := fun h4 => by
              rw [sizeAt_eq (show 0 < (d.extract (2 + 2) d.size).size by omega), sizeAt_eq h4, ByteArray.getElem_extract]
            by_cases hlt : dt.textI (d.extract (2 + 2) d.size) < 0
            · rw [if_pos hlt] at hsp; simp at hsp
            unfold dt.textI at hlt ⊢
            by_cases hz : (d.extract (2 + 2) d.size).size = 0
            · rw [if_pos hz] at hlt; simp at hlt
            rw [if_neg hz] at hlt ⊢
            rw [hs4 (by omega)] at hlt ⊢
            by_cases hg : (d.extract (2 + 2) d.size).size ≤ sizeAt d 4
            · rw [if_pos hg] at hlt; simp at hlt
            rw [if_neg hg]
            exact ⟨by omega, by omega, rfl⟩
          obtain ⟨t0, t2, t3⟩ := t1
          rw [t3, if_neg (by omega), extract_extract0, hx] at hsp
          have ea : (1 + (sizeAt d 4 : Int)).toNat = 1 + sizeAt d 4 := by omega
          rw [ea, show 2 + 2 + (1 + sizeAt d 4) = 5 + la d by unfold la; omega] at hsp
          have e3 := size_ex d (5 + la d)
          have u1 : 5 + la d < d.size ∧ 5 + la d + lb d < d.size ∧ dt.textI (d.extract (5 + la d) d.size) = 1 + (lb d : Int) := by
            by_cases hlt : dt.textI (d.extract (5 + la d) d.size) < 0
            · rw [if_pos hlt] at hsp; simp at hsp
            unfold dt.textI at hlt ⊢
            by_cases hz : (d.extract (5 + la d) d.size).size = 0
            · rw [if_pos hz] at hlt; simp at hlt
            rw [if_neg hz] at hlt ⊢
            by_cases hg : (d.extract (5 + la d) d.size).size ≤ sizeAt (d.extract (5 + la d) d.size) 0
            · rw [if_pos hg] at hlt; simp at hlt
            rw [if_neg hg]
            unfold lb
            exact ⟨by omega, by omega, rfl⟩
          obtain ⟨u0, u2, u3⟩ := u1
          rw [u3, if_neg (by omega)] at hsp
          have eb : (1 + (lb d : Int)).toNat = 1 + lb d := by omega
          rw [eb] at hsp
          generalize hP : (d.extract (5 + la d) d.size).extract 0 (1 + lb d) = P3 at hsp ⊢
          split at hsp
          · cases hsp
          · split at hsp
            · cases hsp
            · simp only [List.nil_append, List.cons_append, Option.some.injEq, Prod.mk.injEq] at hsp
              obtain ⟨rfl, rfl⟩ := hsp
              exact ⟨_, _, hsp0, hr0, rfl, by omega, u0, by omega, by simp, rfl⟩
        · cases hf
      · cases h
  · cases h
theorem svc_is {d : ByteArray} (h : 5 + la d + 1 + lb d ≤ d.size) : ((d.extract (5 + la d) d.size).extract 0 (1 + lb d)).extract 1 ((d.extract (5 + la d) d.size).extract 0 (1 + lb d)).size = svcS d := by
  unfold svcS
  have hs : ((d.extract (5 + la d) d.size).extract 0 (1 + lb d)).size = 1 + lb d := by rw [ByteArray.size_extract, size_ex]; omega
  rw [hs]
  generalize d.extract (5 + la d) d.size = e
  rw [ByteArray.extract_extract, Nat.zero_add, Nat.zero_add, Nat.min_self]
/-- Does a rewriting count for a service? -/
def keepsB (s : ByteArray) (x : Rec) : Bool := decide (s.size = 0) || (lowS (svcS x.data)).toList == (lowS s).toList
end po
end Go.Proofs.YtnloommafgnanaaGreat

/-
  policy.lower.
-/
namespace Go.Proofs.YtnloommafgnanaaGreat
open Go.RowKit Go.Shelf Go.Proofs.YtnloommafgnanaaGreat.nm

set_option maxRecDepth 100000 in
set_option maxHeartbeats 1000000 in
theorem plower_any (s : ByteArray) (hs : s.size ≤ 140737488355328) (w : World) : Calls Tryz.prog 31 #[.string s] w fun e W' => e = .returned (.string (nm.lowS s)) ∧ Below w.heap.size w W' := by
  obtain ⟨w1, cap, hcv, hsz, hB, hc⟩ := bytes_new (P := Tryz.prog) w 9 85 5 s Tryz.underlying9 Tryz.underlying85 Tryz.underlying5
  have HB := Lib.hid hB
  clear hB
  go_enter Tryz.func31, Tryz.ntmps31
  go_wp2
  go_loopw [10, 4, 5] (fun i _ _ wr => ∃ k : Nat, k ≤ s.size ∧ i = .int .i64 k ∧ (∀ j, j < s.size → wr.cell? ⟨w.heap.size, j, none⟩ = some (.int .u8 ((nm.lowUp s k j).toNat : Int)) ∧ wr.frozen? ⟨w.heap.size, j, none⟩ = false) ∧ Below w.heap.size w wr) (fun i _ _ _ => s.size - (intOf i).toNat)
  case atStart => exact ⟨0, by omega, rfl, fun j hj => by unfold nm.lowUp; rw [if_neg (by omega)]; exact hc j hj, HB.out⟩
  case round =>
    obtain ⟨k, hk, rfl, hrow, hfr⟩ := hrel
    have HFR := Lib.hid hfr
    clear hfr hc hcv
    by_cases hlt : k < s.size
    · have hlt' : (k : Int) < s.size := by omega
      obtain ⟨hk1, hk2⟩ := hrow k hlt
      have hup : nm.lowUp s k k = nm.byteAt s k := by unfold nm.lowUp; rw [if_neg (by omega)]
      rw [hup] at hk1
      have HUP := Lib.hid hup
      clear hup
      obtain ⟨c, hcc⟩ : ∃ c, c = nm.byteAt s k := ⟨_, rfl⟩
      rw [← hcc] at hk1
      have HCC := Lib.hid hcc
      clear hcc
      have hc8 : (c.toNat : Int) < 256 := by have := UInt8.toNat_lt c; omega
      have hc0 : (0 : Int) ≤ c.toNat := by omega
      by_cases ha : 65 ≤ c.toNat
      · by_cases hz : c.toNat ≤ 90
        · have ha' : (65 : Int) ≤ c.toNat := by omega
          have hz' : (c.toNat : Int) ≤ 90 := by omega
          have HROW := Lib.hid hrow
          clear hrow
          go_wp2
          refine ⟨⟨k + 1, by omega, by go_num, fun j hj => ⟨?_, ?_⟩, HFR.out.setCell (p := ⟨w.heap.size, k, none⟩) (Nat.le_refl _) _⟩, by simp only [intOf]; omega⟩
          · by_cases hjk : j = k
            · subst hjk
              rw [World.cell?_setCell_same' _ _ _ (by rw [hk1]; rfl), nm.lowUp_at, ← HCC.out, nm.lowB_yes ha hz]
            · rw [nm.lowUp_else s hjk]
              exact (World.cell?_setCell_other _ _ _ _ (by simp)).trans (HROW.out j hj).1
          · rw [World.frozen?_setCell]; exact (HROW.out j hj).2
        · have ha' : (65 : Int) ≤ c.toNat := by omega
          have hz' : (90 : Int) < c.toNat := by omega
          have HROW := Lib.hid hrow
          clear hrow
          go_wp2
          refine ⟨⟨k + 1, by omega, by go_num, fun j hj => ⟨?_, (HROW.out j hj).2⟩, HFR.out⟩, by simp only [intOf]; omega⟩
          rw [← nm.lowUp_same s (by rw [← HCC.out]; exact nm.lowB_no (by omega)) j]
          exact (HROW.out j hj).1
      · have ha' : (c.toNat : Int) < 65 := by omega
        have HROW := Lib.hid hrow
        clear hrow
        go_wp2
        refine ⟨⟨k + 1, by omega, by go_num, fun j hj => ⟨?_, (HROW.out j hj).2⟩, HFR.out⟩, by simp only [intOf]; omega⟩
        rw [← nm.lowUp_same s (by rw [← HCC.out]; exact nm.lowB_no (by omega)) j]
        exact (HROW.out j hj).1
    · have hke : k = s.size := by omega
      subst hke
      have hb := bytes_back (P := Tryz.prog) wr 85 9 5 w.heap.size cap s Tryz.underlying85 Tryz.underlying5 Tryz.underlying9 hrow
      have HROW := Lib.hid hrow
      clear hrow
      go_wp2
      go_ret
      exact ⟨rfl, HFR.out⟩
end Go.Proofs.YtnloommafgnanaaGreat

/-
  policy.service, walked.
-/
namespace Go.Proofs.YtnloommafgnanaaGreat
open Go.RowKit Go.Shelf Go.Sort Go.Proofs.YtnloommafgnanaaGreat.nm Go.Proofs.YtnloommafgnanaaGreat.od Go.Proofs.YtnloommafgnanaaGreat.sm

set_option maxRecDepth 100000 in
set_option maxHeartbeats 2000000 in
theorem service_any (d : ByteArray) (h1 : 5 + po.la d < d.size) (h2 : 5 + po.la d + 1 + po.lb d ≤ d.size) (hz : d.size ≤ 65535) (w : World) :
    Calls Tryz.prog 32 #[.string d] w fun e w' => e = .returned (.string (po.svcS d)) ∧ w = w' := by
  obtain ⟨d1, hd1⟩ : ∃ x, x = d.extract 4 d.size := ⟨_, rfl⟩
  have s1 : d1.size = d.size - 4 := by rw [hd1, po.size_ex]
  have hp1 : 0 < d1.size := by omega
  have e1 : d1[0].toNat = po.la d := by
    rw [← sizeAt_eq hp1]
    unfold po.la
    rw [sizeAt_eq hp1, sizeAt_eq (show 4 < d.size by omega)]
    simp only [hd1, ByteArray.getElem_extract]
  obtain ⟨d2, hd2⟩ : ∃ x, x = d.extract (5 + po.la d) d.size := ⟨_, rfl⟩
  have s2 : d2.size = d.size - (5 + po.la d) := by rw [hd2, po.size_ex]
  have hp2 : 0 < d2.size := by omega
  have e2 : d2[0].toNat = po.lb d := by
    rw [← sizeAt_eq hp2]
    unfold po.lb
    rw [hd2]
  have ed : d1.extract (1 + d1[0].toNat) d1.size = d2 := by
    rw [e1, hd2, s1, hd1, ByteArray.extract_extract]
    congr 1 <;> omega
  have er : d2.extract 1 (1 + d2[0].toNat) = po.svcS d := by rw [e2, hd2]; rfl
  have x1 : (d1[0].toNat : Int) < 256 := by have := UInt8.toNat_lt d1[0]; omega
  have x2 : (d2[0].toNat : Int) < 256 := by have := UInt8.toNat_lt d2[0]; omega
  have y1 : (1 : Int) + (d1[0].toNat : Int) ≤ (d1.size : Int) := by rw [e1, s1]; omega
  have y2 : (1 : Int) + (d2[0].toNat : Int) ≤ (d2.size : Int) := by rw [e2, s2]; omega
  have y3 : (4 : Int) ≤ (d.size : Int) := by omega
  have HD1 := Lib.hid hd1; have HD2 := Lib.hid ed; have HR := Lib.hid er
  clear hd1 hd2 s1 s2 e1 e2 ed er h1 h2 hz
  go_enter Tryz.func32, Tryz.ntmps32
  go_upto_region 2 with fail
  rw [← HD1.out]
  go_upto_region 3 with fail
  rw [HD2.out]
  go_wp2_with fail
  go_ret
  exact ⟨by rw [HR.out]; rfl, rfl⟩
end Go.Proofs.YtnloommafgnanaaGreat

/-
  How rewritings are compared and kept.
-/
namespace Go.Proofs.YtnloommafgnanaaGreat
open Go.RowKit Go.Shelf Go.Sort Go.Proofs.YtnloommafgnanaaGreat.nm Go.Proofs.YtnloommafgnanaaGreat.od Go.Proofs.YtnloommafgnanaaGreat.sm

set_option maxRecDepth 100000 in
set_option maxHeartbeats 4000000 in
theorem rewCmp_any (r s : Rec) (hr : 4 ≤ r.data.size) (hr2 : r.data.size ≤ 9223372036854775807) (hs : 4 ≤ s.data.size) (hs2 : s.data.size ≤ 9223372036854775807) (w : World) :
    Calls Tryz.prog 33 #[recV r, recV s] w fun e w' => e = .returned (.int .i64 (po.ordB po.n1 r s)) ∧ RowKit.Below w.heap.size w w' := by
  obtain ⟨w1, hw1⟩ : ∃ X, X = w.alloc (.cells (recC r).toArray 42) := ⟨_, rfl⟩
  obtain ⟨w2, hw2⟩ : ∃ X, X = w1.alloc (.cells (recC s).toArray 42) := ⟨_, rfl⟩
  obtain ⟨hB1, hs1, hR1⟩ := rec_new w w1 r hw1
  obtain ⟨hB2, hs3, hS⟩ := rec_new w1 w2 s hw2
  have hR := hR1.keep (hB2.block w.heap.size (by omega))
  obtain ⟨br, hbr⟩ : ∃ x, x = w.heap.size := ⟨_, rfl⟩
  obtain ⟨bs, hbs⟩ : ∃ x, x = w1.heap.size := ⟨_, rfl⟩
  rw [← hbr] at hR
  rw [← hbs] at hS
  have hsz : br < w2.heap.size ∧ bs < w2.heap.size := by omega
  have e1 : w.heap.size + 1 = bs := by omega
  have HALL := Lib.hid (fun (X : World) (hX : RowKit.Below w2.heap.size w2 X) => (⟨hX, hR.keep (hX.block br hsz.1), hS.keep (hX.block bs hsz.2)⟩ : RowKit.Below w2.heap.size w2 X ∧ RecAt X br 0 r ∧ RecAt X bs 0 s))
  have HB := Lib.hid (hB1.trans (hB2.mono hB1.size))
  have HNR : Hid (∀ X, Calls Tryz.prog 24 #[.string r.data, .int .i64 0] X fun e w' => e = .returned (.int .i64 (po.numI r.data 0)) ∧ RowKit.Below X.heap.size X w') := Lib.hid (fun X => number_any r.data 0 (by omega) hr2 X)
  have HNS : Hid (∀ X, Calls Tryz.prog 24 #[.string s.data, .int .i64 0] X fun e w' => e = .returned (.int .i64 (po.numI s.data 0)) ∧ RowKit.Below X.heap.size X w') := Lib.hid (fun X => number_any s.data 0 (by omega) hs2 X)
  have HZR : Hid (∀ X, Calls Tryz.prog 24 #[.string r.data, .int .i64 1] X fun e w' => e = .returned (.int .i64 (po.numI r.data 1)) ∧ RowKit.Below X.heap.size X w') := Lib.hid (fun X => number_any r.data 1 (by omega) hr2 X)
  have HZS : Hid (∀ X, Calls Tryz.prog 24 #[.string s.data, .int .i64 1] X fun e w' => e = .returned (.int .i64 (po.numI s.data 1)) ∧ RowKit.Below X.heap.size X w') := Lib.hid (fun X => number_any s.data 1 (by omega) hs2 X)
  have nr := po.num_bd r.data 0; have ns := po.num_bd s.data 0; have zr := po.num_bd r.data 1; have zs := po.num_bd s.data 1
  obtain ⟨nr, hnr⟩ : ∃ x, x = po.numI r.data 0 := ⟨_, rfl⟩
  obtain ⟨ns, hns⟩ : ∃ x, x = po.numI s.data 0 := ⟨_, rfl⟩
  obtain ⟨zr, hzr⟩ : ∃ x, x = po.numI r.data 1 := ⟨_, rfl⟩
  obtain ⟨zs, hzs⟩ : ∃ x, x = po.numI s.data 1 := ⟨_, rfl⟩
  rw [← hnr] at HNR
  rw [← hns] at HNS
  rw [← hzr] at HZR
  rw [← hzs] at HZS
  have hres : po.ordB po.n1 r s = if nr - ns ≠ 0 then nr - ns else zr - zs := by unfold po.ordB po.n1; rw [hnr, hns, hzr, hzs]
  rw [hres]
  obtain ⟨nr0, nr1⟩ : 0 ≤ nr ∧ nr ≤ 65535 := by rw [hnr]; assumption
  obtain ⟨ns0, ns1⟩ : 0 ≤ ns ∧ ns ≤ 65535 := by rw [hns]; assumption
  obtain ⟨zr0, zr1⟩ : 0 ≤ zr ∧ zr ≤ 65535 := by rw [hzr]; assumption
  obtain ⟨zs0, zs1⟩ : 0 ≤ zs ∧ zs ≤ 65535 := by rw [hzs]; assumption
  obtain ⟨ov, hov⟩ : ∃ ov, ov = (if nr - ns ≠ 0 then nr - ns else zr - zs) := ⟨_, rfl⟩
  rw [← hov]
  have HOV := Lib.hid hov
  have wd : IntKind.i64.wrap (nr - ns) = nr - ns := by rw [IntKind.wrap_i64]; omega
  have we : IntKind.i64.wrap (zr - zs) = zr - zs := by rw [IntKind.wrap_i64]; omega
  have HW1 := Lib.hid hw1; have HW2 := Lib.hid hw2; have HBR := Lib.hid hbr; have HBS := Lib.hid hbs; have E1 := Lib.hid e1
  clear hr hs hr2 hs2 hw1 hw2 hB1 hB2 hs1 hs3 hR1 hR hS hbr hbs hsz e1 hnr hns hzr hzs hres hov
  go_enter Tryz.func33, Tryz.ntmps33
  go_upto_region 2 with fail
  rw [← HW1.out, ← HW2.out, E1.out, ← HBR.out]
  go_cut [4] (fun v wx => v = .int .i64 ov ∧ RowKit.Below w2.heap.size w2 wx)
  case first =>
    go_region_held3 (fun X => RowKit.Below w2.heap.size w2 X ∧ (X.cell? ⟨br, 0, none⟩ = some (.string r.owner) ∧ X.cell? ⟨br, 1, none⟩ = some (.int .i64 r.typ) ∧ X.cell? ⟨br, 2, none⟩ = some (.int .i64 r.cls) ∧ X.cell? ⟨br, 3, none⟩ = some (.int .i64 r.ttl) ∧ X.cell? ⟨br, 4, none⟩ = some (.string r.data)) ∧
        (X.cell? ⟨bs, 0, none⟩ = some (.string s.owner) ∧ X.cell? ⟨bs, 1, none⟩ = some (.int .i64 s.typ) ∧ X.cell? ⟨bs, 2, none⟩ = some (.int .i64 s.cls) ∧ X.cell? ⟨bs, 3, none⟩ = some (.int .i64 s.ttl) ∧ X.cell? ⟨bs, 4, none⟩ = some (.string s.data)))
      (first | (exact HALL.out _ (Below.refl _ _).drew) | (exact HALL.out _ hbN) | (go_split_ands; exact HALL.out _ (RowKit.Below.alloc (by assumption) (RowKit.Below.size (by assumption)) _)))
      (first
        | (go_at_call 24; go_split_ands; (first | (with_reducible refine (HNR.out _).mono ?_) | (with_reducible refine (HNS.out _).mono ?_) | (with_reducible refine (HZR.out _).mono ?_) | (with_reducible refine (HZS.out _).mono ?_)); rintro e wM ⟨rfl, hb⟩; have hbN := RowKit.Below.trans (B := w2.heap.size) (a := w2) (by assumption) (hb.mono (RowKit.Below.size (by assumption))))
        | (go_at_call 25; go_split_ands; (with_reducible refine (cmpOr_any (nr - ns) (zr - zs) _ 0 _ (two_new _ _ _ _).1 (two_new _ _ _ _).2).mono ?_); rintro e wM ⟨rfl, rfl⟩; rw [← HOV.out]))
    all_goals (go_wp2_with fail; go_meet; (exact ⟨rfl, by go_split_ands; assumption⟩))
  case rest =>
    obtain ⟨rfl, hB⟩ := hcut
    have HB2 := Lib.hid (HB.out.trans (hB.mono HB.out.size))
    clear hB
    go_wp2_with fail
    go_ret
    exact ⟨rfl, HB2.out⟩
theorem ordB_swo : SWO (fun a b : {x : Rec × Nat // OkS x.1} => decide (po.ordB po.n1 a.1.1 b.1.1 < 0)) := by
  refine ⟨fun x => ?_, fun x y z h1 h2 => ?_, fun x y z h1 h2 => ?_⟩
  · rw [decide_eq_false_iff_not, po.ordB_lt]; omega
  · rw [decide_eq_true_eq, po.ordB_lt] at *; omega
  · rw [decide_eq_false_iff_not, po.ordB_lt] at *; omega
theorem rewCmp_grow (x y : Rec) (hx : OkS x) (hy : OkS y) (w : World) : Calls Tryz.prog 33 #[recV x, recV y] w fun e w' => e = .returned (.int .i64 (po.ordB po.n1 x y)) ∧ ∃ q os', w' = grow (w.drewN q) os' := by
  refine (calls_val (rewCmp_any x y hx.1 hx.2 hy.1 hy.2 w)).mono ?_
  rintro e w' ⟨rfl, hB, hd⟩
  exact ⟨rfl, grow_of_below hB hd⟩
theorem callFunc_rew2 (args : Array Value) (w : World) : (callFunc 33 args).run Tryz.prog w = .ok (.enter 33 args) w := by kernel_rfl
theorem callFunc_rew1 (args : Array Value) (w : World) : (callFunc 30 args).run Tryz.prog w = .ok (.enter 30 args) w := by kernel_rfl
/-- The rewritings, in their order. -/
theorem sortRew_any (l : List Rec) (hl : l.length ≤ 1000000000000) (hok : ∀ r ∈ l, OkS r) (base b cap : Nat) (w : World) (hrow : w.ownsRow base 42 5 (.slice (some ⟨b, 0, none⟩) l.length cap) l.length (recsC l)) :
    Calls Tryz.prog 21 #[.slice (some ⟨b, 0, none⟩) l.length cap, .func (.func 33) #[] #[]] w fun e w' =>
      e = .returned (.tuple #[]) ∧ w.grownBy w' (some b) ∧ ∃ T, StableOf (po.ordB po.n1) l T ∧ w'.ownsRow base 42 5 (.slice (some ⟨b, 0, none⟩) l.length cap) l.length (recsC (T.map (·.1))) :=
  stableRecs_any OkS (po.ordB po.n1) ordB_swo 33 callFunc_rew2 (fun x y hx hy w => rewCmp_grow x y hx hy w) l hl hok base b cap w hrow
set_option maxRecDepth 100000 in
set_option maxHeartbeats 2000000 in
theorem rewKeep_any (s : ByteArray) (hs : s.size ≤ 140737488355328) (x : Rec) (hx : dt.chkI 35 x.data = 0) (b : Nat) (w : World) (hb : b < w.heap.size) (hc : w.cell? ⟨b, 0, none⟩ = some (.string s)) :
    Calls Tryz.prog 30 #[recV x, .pointer (some ⟨b, 0, none⟩)] w fun e w' => e = .returned (.bool (!po.keepsB s x)) ∧ Below w.heap.size w w' := by
  obtain ⟨_, _, _, _, _, hz, h1, h2, _⟩ := po.nap_data hx
  obtain ⟨wa, hwa⟩ : ∃ W, W = w.alloc (.cells (recC x).toArray 42) := ⟨_, rfl⟩
  obtain ⟨hBa, hsa, hxa⟩ := rec_new w wa x hwa
  obtain ⟨x0, x1, x2, x3, x4⟩ := hxa
  have c1 : wa.cell? ⟨b, 0, none⟩ = some (.string s) := (hBa.cell (p := ⟨b, 0, none⟩) hb).trans hc
  obtain ⟨v, hv⟩ : ∃ v, v = po.svcS x.data := ⟨_, rfl⟩
  have hvs : v.size ≤ 65535 := by
    rw [hv]; unfold po.svcS; rw [ByteArray.size_extract, po.size_ex]; omega
  obtain ⟨lv, hlv⟩ : ∃ lv, lv = lowS v := ⟨_, rfl⟩
  obtain ⟨ls, hls⟩ : ∃ ls, ls = lowS s := ⟨_, rfl⟩
  have CS : Hid (∀ g, Calls Tryz.prog 32 #[.string x.data] (gw wa g) fun e w'' => e = .returned (.string v) ∧ ∃ g', w'' = gw wa g') := Lib.hid fun g => by rw [hv]; exact calls_gw_left (service_any x.data h1 h2 hz _)
  have CV : Hid (∀ g, Calls Tryz.prog 31 #[.string v] (gw wa g) fun e w'' => e = .returned (.string lv) ∧ ∃ g', w'' = gw wa g') := Lib.hid fun g => by rw [hlv]; exact calls_gw (plower_any v (by omega) _)
  have CL : Hid (∀ g, Calls Tryz.prog 31 #[.string s] (gw wa g) fun e w'' => e = .returned (.string ls) ∧ ∃ g', w'' = gw wa g') := Lib.hid fun g => by rw [hls]; exact calls_gw (plower_any s hs _)
  have hres : po.keepsB s x = (decide (s.size = 0) || lv.toList == ls.toList) := by unfold po.keepsB; rw [hlv, hls, hv]
  rw [hres]
  have HWA := Lib.hid hwa; have HBA := Lib.hid hBa
  have k1 := gw_cell c1; have k4 := gw_cell x4
  clear hwa hBa hsa hv hlv hls hres x0 x1 x2 x3 hz h1 h2 hx hc c1 x4
  by_cases h0 : s.size = 0
  · have b0 := str_empty h0
    have e0 : (decide (s.size = 0) || lv.toList == ls.toList) = true := by rw [decide_eq_true h0]; rfl
    rw [e0]
    clear e0 h0
    go_enter Tryz.func30, Tryz.ntmps30
    go_upto_region 1 with fail
    rw [← HWA.out]
    refine wp_region_gw (by kernel_rfl) (by kernel_rfl) ?_
    repeat (with_reducible refine wpQuiet_step (fun K hK => ?_); go_simp; (try simp only [undef]); first | (with_reducible refine hK _ ?_; clear hK K))
    refine wpQuiet_nil ?_
    (try simp only [show Value.tuple #[] = undef from rfl])
    intro W hW
    have hBW : Below wa.heap.size wa W := by obtain ⟨g, rfl⟩ := hW; exact gw_below _ g
    clear hW
    go_wp2_with fail
    go_ret
    exact ⟨rfl, HBA.out.trans (hBW.mono HBA.out.size)⟩
  · have b0 := str_some h0
    obtain ⟨q, hq⟩ : ∃ q, q = (lv.toList == ls.toList) := ⟨_, rfl⟩
    have e0 : (decide (s.size = 0) || lv.toList == ls.toList) = q := by rw [decide_eq_false h0, ← hq]; rfl
    rw [e0]
    have f0 : (lv.toList == ls.toList) = q := hq.symm
    clear e0 h0 hq
    go_enter Tryz.func30, Tryz.ntmps30
    go_upto_region 1 with fail
    rw [← HWA.out]
    refine wp_region_gw (by kernel_rfl) (by kernel_rfl) ?_
    repeat (with_reducible refine wpQuiet_step (fun K hK => ?_); go_simp; (try simp only [undef]); first | (with_reducible refine hK _ ?_; clear hK K) | (apply Exists.intro; refine ⟨fun _ => ?_, hK _ ?_⟩; (first | (go_at_call 32; with_reducible exact CS.out _) | (go_at_call 31; (first | with_reducible exact CV.out _ | with_reducible exact CL.out _))); clear hK K) | (with_reducible refine ⟨fun _ h => (by cases h), ?_⟩; with_reducible refine hK _ ?_; clear hK K))
    refine wpQuiet_nil ?_
    (try simp only [show Value.tuple #[] = undef from rfl])
    intro W hW
    have hBW : Below wa.heap.size wa W := by obtain ⟨g, rfl⟩ := hW; exact gw_below _ g
    clear hW
    go_wp2_with fail
    trace_state
    go_ret
    exact ⟨rfl, HBA.out.trans (hBW.mono HBA.out.size)⟩
end Go.Proofs.YtnloommafgnanaaGreat

/-
  gazetteerlaw11.PolicyTries, walked.
-/
import Derived.Test.YtnloommafgnanaaQTriesP
import Derived.Test.YtnloommafgnanaaQSerial
import Derived.Test.YtnloommafgnanaaQLimL
import Derived.Test.YtnloommafgnanaaQRowP
import Derived.Deep.QuietTactic
namespace Go.Proofs.Ytnloommafgnanaa
open Go.RowKit Go.Shelf Go.Proofs.Ytnloommafgnanaa.nm Go.Proofs.Ytnloommafgnanaa.od
attribute [local go_sem] rec_if

theorem recAt_below {w w' : World} {b off : Nat} {r : Rec} (h : RecAt w b off r) (hB : Below w.heap.size w w') (hb : b < w.heap.size) : RecAt w' b off r :=
  ⟨(hB.cell (p := ⟨b, off, none⟩) hb).trans h.1, (hB.cell (p := ⟨b, off + 1, none⟩) hb).trans h.2.1, (hB.cell (p := ⟨b, off + 2, none⟩) hb).trans h.2.2.1, (hB.cell (p := ⟨b, off + 3, none⟩) hb).trans h.2.2.2.1, (hB.cell (p := ⟨b, off + 4, none⟩) hb).trans h.2.2.2.2⟩
set_option maxRecDepth 100000 in
set_option maxHeartbeats 16000000 in
theorem tries_any (set : List Rec) (hl : set.length ≤ 1048576) (rolls : List Int) (hz : ∀ z ∈ rolls, I64 z) (hrl : rolls.length ≤ 1000000000000) (v rv : Value) (hf : SliceForm v) (w : World) (hv : RecsAt w v set) (hrv : IntsC w rv rolls) :
    Calls Try.prog 4 #[v, rv] w fun e w' => e = .returned (.bool true) ∧ Below w.heap.size w w' := by
  have HV := Lib.hid hv; have HRV := Lib.hid hrv; have HZ := Lib.hid hz; have HF := Lib.hid hf
  obtain ⟨a, cap, rfl, -⟩ := id hv
  obtain ⟨ra, rcap, rfl, -⟩ := id hrv
  clear hv hrv hz hf
  go_enter Try.func4, Try.ntmps4
  go_wp2_with fail
  refine (order_any set (by omega) rolls HZ.out hrl _ _ HF.out w HV.out HRV.out).mono ?_
  rintro e w1 ⟨lv, c, L, rfl, hB1, hres, hown⟩
  have HB1 := Lib.hid hB1; have HRES := Lib.hid hres; have HOWN := Lib.hid hown
  clear hB1 hres hown
  obtain ⟨la, lc, rfl, -⟩ := owns_recs HOWN.out
  go_wp2_with fail
  refine (alive_any w1).mono ?_
  rintro e w2 ⟨rfl, hB2⟩
  have HB2 := Lib.hid (HB1.out.trans (hB2.mono HB1.out.size))
  have HL2 := Lib.hid ((owns_recs HOWN.out).below hB2)
  clear hB2
  by_cases hL0 : 0 < L.length
  · obtain ⟨rfl, hperm, hnd, hsort, hsz⟩ := po.order_list HRES.out hL0
    have hLl : L.length = set.length := hperm.length_eq
    have hL0i : ((L.length : Int) == 0) = false := by rw [beq_eq_false_iff_ne]; omega
    have hLli : ((L.length : Int) == (set.length : Int)) = true := by rw [beq_iff_eq]; omega
    have HPERM := Lib.hid hperm; have HND := Lib.hid hnd; have HSORT := Lib.hid hsort; have HSZ := Lib.hid hsz
    have hLn : L.length ≤ 1048576 := by omega
    have HLL := Lib.hid hLl
    clear hperm hnd hsort hsz hL0 hLl
    go_wp2_with fail
    go_loopw [43] (fun kv wr => ∃ k : Nat, k ≤ L.length ∧ kv = .int .i64 (k : Int) ∧ Below w2.heap.size w2 wr) (fun kv _ => L.length - (intOf kv).toNat)
    case atStart => exact ⟨0, Nat.zero_le _, rfl, Below.refl _ _⟩
    case round =>
      obtain ⟨k, hk, rfl, hB⟩ := hrel
      obtain ⟨wo, hwo⟩ : ∃ X : World, X = wr := ⟨_, rfl⟩
      subst hwo
      have HB3 := Lib.hid (HB2.out.trans (hB.mono HB2.out.size))
      have HL3 := Lib.hid (HL2.out.below hB)
      have HBo := Lib.hid hB
      clear hB
      by_cases hlt : k < L.length
      · have hki : (k : Int) < (L.length : Int) := by omega
        obtain ⟨_, _, hv, _, hr⟩ := id HL3.out
        simp only [Value.slice.injEq, true_and] at hv
        obtain ⟨rfl, rfl⟩ := hv
        obtain ⟨lb, loff, rfl, hlb, c0, c1, c2, c3, c4⟩ := hr k hlt
        obtain ⟨x, hx⟩ : ∃ x, x = L[k] := ⟨_, rfl⟩
        rw [← hx] at c0 c1 c2 c3 c4
        obtain ⟨wa, hwa⟩ : ∃ W, W = wo.alloc (.cells (recC x).toArray 41) := ⟨_, rfl⟩
        obtain ⟨hBa, hsa, hxa⟩ := rec_new wo wa x hwa
        obtain ⟨xb, hxb⟩ : ∃ n, n = wo.heap.size := ⟨_, rfl⟩
        rw [← hxb] at hxa
        have hxs : xb < wa.heap.size := by omega
        have HXA := Lib.hid hxa; have HWA := Lib.hid hwa; have HXB := Lib.hid hxb; have HX := Lib.hid hx
        have HB4 := Lib.hid (HB3.out.trans (hBa.mono HB3.out.size))
        have HL4 := Lib.hid (HL3.out.below hBa)
        have HBa := Lib.hid hBa
        clear hxa hwa hx hBa hsa hr hlb
        go_upto_region 11 with fail
        rw [← HWA.out, ← HXB.out]
        clear c0 c1 c2 c3 c4 hxb
        go_wp2_with fail
        go_loopw [50, 9] (fun jv nv wr => ∃ j : Nat, j ≤ set.length ∧ jv = .int .i64 (j : Int) ∧ nv = .int .i64 (((set.take j).count x : Nat) : Int) ∧ Below wa.heap.size wa wr) (fun jv _ _ => set.length - (intOf jv).toNat)
        case atStart => exact ⟨0, Nat.zero_le _, rfl, by simp, Below.refl _ _⟩
        case round =>
          obtain ⟨j, hj, rfl, rfl, hB⟩ := hrel
          obtain ⟨wq, hwq⟩ : ∃ X : World, X = wr := ⟨_, rfl⟩
          subst hwq
          have HBq := Lib.hid hB
          have HB5 := Lib.hid (HB4.out.trans (hB.mono HB4.out.size))
          obtain ⟨x0, x1, x2, x3, x4⟩ := recAt_below HXA.out hB hxs
          have hxq : xb < wq.heap.size := Nat.lt_of_lt_of_le hxs hB.size
          clear hB
          by_cases hjl : j < set.length
          · have hji : (j : Int) < (set.length : Int) := by omega
            obtain ⟨_, _, hv, _, hr⟩ := id (HV.out.below HB5.out)
            simp only [Value.slice.injEq, true_and] at hv
            obtain ⟨rfl, rfl⟩ := hv
            obtain ⟨sb, soff, rfl, hsb, c0, c1, c2, c3, c4⟩ := hr j hjl
            have hcn := po.cnt_next (x := x) hjl
            obtain ⟨y, hy⟩ : ∃ y, y = set[j] := ⟨_, rfl⟩
            rw [← hy] at c0 c1 c2 c3 c4 hcn
            obtain ⟨wb, hwb⟩ : ∃ W, W = wq.alloc (.cells (recC y).toArray 41) := ⟨_, rfl⟩
            obtain ⟨hBb, hsb2, hyb⟩ := rec_new wq wb y hwb
            obtain ⟨yb, hyb2⟩ : ∃ n, n = wq.heap.size := ⟨_, rfl⟩
            rw [← hyb2] at hyb
            obtain ⟨y0, y1, y2, y3, y4⟩ := hyb
            obtain ⟨z0, z1, z2, z3, z4⟩ := recAt_below ⟨x0, x1, x2, x3, x4⟩ hBb hxq
            obtain ⟨m, hm⟩ : ∃ m, m = (set.take j).count x := ⟨_, rfl⟩
            have hmb : m ≤ set.length := by rw [hm]; exact Nat.le_trans List.count_le_length (by rw [List.length_take]; omega)
            rw [← hm] at hcn ⊢
            have HCN := Lib.hid hcn; have HWB := Lib.hid hwb; have HYB := Lib.hid hyb2
            have HB6 := Lib.hid (HBq.out.trans (hBb.mono HBq.out.size))
            clear hr hsb hy hwb hBb hsb2 hm hcn x0 x1 x2 x3 x4 hxq
            go_upto_region 15 with fail
            rw [← HWB.out, ← HYB.out]
            clear c0 c1 c2 c3 c4 hyb2
            by_cases hxy : x = y
            · have HC2 := Lib.hid (by have := HCN.out; rw [if_pos hxy] at this; exact this : List.count x (List.take (j + 1) set) = m + 1)
              have HXY := Lib.hid hxy
              go_wp2_with fail
              go_roundw
              case rel => exact ⟨j + 1, by omega, by go_num, by rw [HC2.out]; go_num, HB6.out⟩
              case measure => simp [intOf]; omega
            · have HC2 := Lib.hid (by have := HCN.out; rw [if_neg hxy] at this; exact this : List.count x (List.take (j + 1) set) = m)
              go_wp2_with fail
              go_roundw
              case rel => exact ⟨j + 1, by omega, by go_num, by rw [HC2.out], HB6.out⟩
              case measure => simp [intOf]; omega
          · have hji : ¬ (j : Int) < (set.length : Int) := by omega
            have h1 : (set.take j).count x = 1 := by
              rw [List.take_of_length_le (by omega), HND.out.count, if_pos (HPERM.out.subset (by rw [HX.out]; exact List.getElem_mem _))]
            rw [h1]
            have HL6 := Lib.hid (HL4.out.below HBq.out)
            clear h1
            by_cases hk0 : 0 < k
            · obtain ⟨k0, hk0e⟩ : ∃ k0, k0 = k - 1 := ⟨_, rfl⟩
              have hk0l : k0 < L.length := by omega
              have ek : (k : Int) - 1 = (k0 : Int) := by omega
              have ew : IntKind.i64.wrap (k0 : Int) = (k0 : Int) := by rw [IntKind.wrap_i64]; omega
              have kp : (0 : Int) < (k : Int) := by omega
              have kl : (k0 : Int) < (L.length : Int) := by omega
              obtain ⟨_, p0, p1, p2, p3, p4⟩ := cells_at HL6.out hk0l
              obtain ⟨p, hp⟩ : ∃ p, p = L[k0] := ⟨_, rfl⟩
              rw [← hp] at p0 p1 p2 p3 p4
              obtain ⟨s1, s2⟩ := HSZ.out p (by rw [hp]; exact List.getElem_mem _)
              obtain ⟨s3, s4⟩ := HSZ.out x (by rw [HX.out]; exact List.getElem_mem _)
              have hne : ¬ p = x := by
                rw [hp, HX.out]
                intro h
                have := (List.getElem_inj (HPERM.out.symm.nodup HND.out)).1 h
                omega
              have hle : po.numI p.data 0 ≤ po.numI x.data 0 := by
                have := List.pairwise_iff_getElem.1 HSORT.out k0 k hk0l hlt (by omega)
                rw [hp, HX.out]; exact this
              have hg := po.gtr_num (show 2 ≤ p.data.size by omega) (show 2 ≤ x.data.size by omega) hle
              have hgt : (!(Op.bytesLess (p.data.extract 0 2).toList (x.data.extract 0 2).toList || (p.data.extract 0 2).toList == (x.data.extract 0 2).toList)) = false := by
                rcases hg with h | h <;> simp [h]
              have i1 : (2 : Int) ≤ (p.data.size : Int) := by omega
              have i2 : (2 : Int) ≤ (x.data.size : Int) := by omega
              have g0 := gw_cell p0; have g1 := gw_cell p1; have g2 := gw_cell p2; have g3 := gw_cell p3; have g4 := gw_cell p4
              have f0 := gw_cell x0; have f1 := gw_cell x1; have f2 := gw_cell x2; have f3 := gw_cell x3; have f4 := gw_cell x4
              have HG := Lib.hid hg
              clear hp hk0e hle hg s1 s2 s3 s4
              go_upto_region 18 with fail
              refine wp_region_gw (by kernel_rfl) (by kernel_rfl) ?_
              repeat (with_reducible refine wpQuiet_step (fun K hK => ?_); go_simp; (try simp only [undef]); first | (with_reducible refine hK _ ?_; clear hK K))
              refine wpQuiet_nil ?_
              (try simp only [show Value.tuple #[] = undef from rfl])
              intro W hW
              have hBW : Below wq.heap.size wq W := by obtain ⟨g, rfl⟩ := hW; exact gw_below _ g
              clear hW
              have HBW := Lib.hid (HBo.out.trans ((HBa.out.trans ((HBq.out.trans (hBW.mono HBq.out.size)).mono HBa.out.size)).mono HBo.out.size))
              clear hBW p0 p1 p2 p3 p4 x0 x1 x2 x3 x4 g0 g1 g2 g3 g4 f0 f1 f2 f3 f4 hgt hne
              go_wp2_with fail
              go_roundw
              case rel => exact ⟨_, _, _, _, _, .int .i64 ((k + 1 : Nat) : Int), ⟨k + 1, by omega, rfl, HBW.out⟩, rfl, rfl, rfl, rfl, rfl, by go_num⟩
              case measure => simp [intOf]; omega
            · have hk00 : k = 0 := by omega
              subst hk00
              go_upto_region 18 with fail
              refine wp_region_gw (by kernel_rfl) (by kernel_rfl) ?_
              repeat (with_reducible refine wpQuiet_step (fun K hK => ?_); go_simp; (try simp only [undef]); first | (with_reducible refine hK _ ?_; clear hK K))
              refine wpQuiet_nil ?_
              (try simp only [show Value.tuple #[] = undef from rfl])
              intro W hW
              have hBW : Below wq.heap.size wq W := by obtain ⟨g, rfl⟩ := hW; exact gw_below _ g
              clear hW
              have HBW := Lib.hid (HBo.out.trans ((HBa.out.trans ((HBq.out.trans (hBW.mono HBq.out.size)).mono HBa.out.size)).mono HBo.out.size))
              clear hBW x0 x1 x2 x3 x4
              go_wp2_with fail
              go_roundw
              case rel => exact ⟨_, _, _, _, _, .int .i64 ((0 + 1 : Nat) : Int), ⟨0 + 1, by omega, rfl, HBW.out⟩, rfl, rfl, rfl, rfl, rfl, by go_num⟩
              case measure => simp [intOf]; omega
      · have hki : ¬ (k : Int) < (L.length : Int) := by omega
        clear hlt
        go_wp2_with fail
        go_ret
        exact ⟨rfl, HB3.out⟩
  · have hL1 : L.length = 0 := by omega
    have hL0i : ((L.length : Int) == 0) = true := by rw [beq_iff_eq]; omega
    have hc : c = 0 ∨ c = 8 := by
      have h := HRES.out
      cases h with
      | bad h => exact .inr rfl
      | root h hr => exact .inl rfl
      | run h hr T L hT hL => exact .inl rfl
    rw [hL1]
    clear hL1 hL0
    rcases hc with rfl | rfl
    · go_wp2_with fail
      go_ret
      exact ⟨rfl, HB2.out⟩
    · go_wp2_with fail
      go_ret
      exact ⟨rfl, HB2.out⟩
end Go.Proofs.Ytnloommafgnanaa

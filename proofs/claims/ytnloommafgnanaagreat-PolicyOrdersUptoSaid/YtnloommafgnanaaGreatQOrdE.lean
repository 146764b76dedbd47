/-
  policy.Order, walked.
-/
import Derived.Test.YtnloommafgnanaaGreatQOrdC
import Derived.Test.YtnloommafgnanaaGreatQRNum
import Derived.Deep.CutBlock
namespace Go.Proofs.YtnloommafgnanaaGreat
open Go.RowKit Go.Shelf Go.Proofs.YtnloommafgnanaaGreat.nm Go.Proofs.YtnloommafgnanaaGreat.od

/-- Numbers in memory. -/
def IntsC (w : World) (v : Value) (zs : List Int) : Prop :=
  ∃ a cap, v = .slice a zs.length cap ∧ zs.length ≤ cap ∧ ∀ k (h : k < zs.length), ∃ b off, a = some ⟨b, off, none⟩ ∧ b < w.heap.size ∧ w.cell? ⟨b, off + k, none⟩ = some (.int .i64 zs[k])
theorem IntsC.below {w w' : World} {v : Value} {ss : List Int} (h : IntsC w v ss) (hb : Below w.heap.size w w') : IntsC w' v ss := by
  obtain ⟨a, cap, rfl, hc, h⟩ := h
  refine ⟨a, cap, rfl, hc, fun k hk => ?_⟩
  obtain ⟨b, off, rfl, hl, hc⟩ := h k hk
  exact ⟨b, off, rfl, Nat.lt_of_lt_of_le hl hb.size, (hb.cell (p := ⟨b, off + k, none⟩) hl).trans hc⟩
def I64 (z : Int) : Prop := -9223372036854775808 ≤ z ∧ z ≤ 9223372036854775807
namespace po
/-- Is it the one server that says that there is none? -/
def rootB (set : List Rec) : Bool := decide (set.length = 1 ∧ ∀ x ∈ set, (x.data.extract 6 x.data.size).toList = [0])
inductive OrdRes (set : List Rec) (rolls : List Int) : Int → List Rec → Prop
  | bad (h : setB 33 set = false) : OrdRes set rolls 8 []
  | root (h : setB 33 set = true) (hr : rootB set = true) : OrdRes set rolls 0 []
  | run (h : setB 33 set = true) (hr : rootB set = false) (T : List (Rec × Nat)) (L : List Rec) (hT : StableOf ordI set T) (hL : Run (T.map (·.1)) rolls L) : OrdRes set rolls 0 L
def OrdPost (set : List Rec) (rolls : List Int) (w : World) (e : Ending) (w' : World) : Prop :=
  ∃ v c L, e = .returned (.tuple #[v, .int .i64 c]) ∧ Below w.heap.size w w' ∧ OrdRes set rolls c L ∧ w'.ownsRow w.heap.size 42 5 v L.length (recsC L)
theorem set_all {t : Int} {l : List Rec} (h : setB t l = true) : (∀ x ∈ l, goodS t (headO l) x = true) ∧ 0 < l.length ∧ (fds t l []).length = l.length := by
  unfold setB at h
  simp only [Bool.and_eq_true, List.all_eq_true, decide_eq_true_eq] at h
  exact ⟨h.1.1, h.1.2, h.2⟩
theorem good_data {t : Int} {o : ByteArray} {x : Rec} (h : goodS t o x = true) : dt.chkI t x.data = 0 := by
  unfold goodS at h
  simp only [Bool.and_eq_true, decide_eq_true_eq] at h
  exact h.1.2
end po
def sliceN : Value → Nat
  | .slice _ n _ => n
  | _ => 0
/-- What holds at each pick. -/
structure PickI (S : List Rec) (rolls : List Int) (w wr : World) (b2 g cg : Nat) (l O : List Rec) (rs : List Int) (rv ov : Value) : Prop where
  below : Below w.heap.size w wr
  left : wr.ownsRow b2 42 5 (.slice (some ⟨g, 0, none⟩) l.length cg) l.length (recsC l)
  out : wr.ownsRow w.heap.size 42 5 ov O.length (recsC O)
  apart : ov.ownBlock ≠ some g
  ints : IntsC w rv rs
  i64 : ∀ z ∈ rs, I64 z
  rlen : rs.length ≤ 1000000000000
  len : l.length + O.length = S.length
  data : ∀ x ∈ l, dt.chkI 33 x.data = 0
  run : ∀ L, po.Run l rs L → po.Run S rolls (O ++ L)
theorem num_call {x : Rec} (h : dt.chkI 33 x.data = 0) (k : Nat) (hk : k ≤ 1) (X : World) : Calls Tryz.prog 24 #[.string x.data, .int .i64 (k : Int)] X fun e w' => e = .returned (.int .i64 (po.numI x.data k)) ∧ Below X.heap.size X w' := by
  obtain ⟨_, _, _, _, _, _, _, q4, q5, _⟩ := po.srv_data h
  exact number_any x.data k (by omega) (by omega) X
set_option maxRecDepth 100000 in
set_option maxHeartbeats 16000000 in
theorem porder_any (set : List Rec) (hl : set.length * 56 ≤ 1099511627776) (rolls : List Int) (hz : ∀ z ∈ rolls, I64 z) (hrl : rolls.length ≤ 1000000000000) (v rv : Value) (hf : SliceForm v) (w : World) (hv : RecsAt w v set) (hrv : IntsC w rv rolls) :
    Calls Tryz.prog 6 #[v, rv] w fun e w' => po.OrdPost set rolls w e w' := by
  have HV := Lib.hid hv; have HRV := Lib.hid hrv; have HZ := Lib.hid hz; have HF := Lib.hid hf
  obtain ⟨a, cap, rfl, -⟩ := id hv
  obtain ⟨ra, rcap, rfl, -⟩ := id hrv
  obtain ⟨sb, hsb⟩ : ∃ sb, sb = po.setB 33 set := ⟨_, rfl⟩
  have HSB := Lib.hid hsb
  clear hv hrv hz hf
  go_enter Tryz.func6, Tryz.ntmps6
  go_wp2_with fail
  refine (isSet_any 33 set (by omega) _ w HV.out).mono ?_
  rintro e w1 ⟨rfl, hB1⟩
  rw [← hsb]
  have HB1 := Lib.hid hB1
  clear hB1 hsb
  cases sb with
  | false =>
    go_wp2_with fail
    go_ret2
    exact ⟨_, _, [], rfl, HB1.out, .bad HSB.out.symm, World.ownsRow_nil _ _ _ _⟩
  | true =>
    obtain ⟨hgood, h0, -⟩ := po.set_all HSB.out.symm
    have hdata : ∀ x ∈ set, dt.chkI 33 x.data = 0 := fun x hx => po.good_data (hgood x hx)
    have HD := Lib.hid hdata
    obtain ⟨rb, hrb⟩ : ∃ rb, rb = po.rootB set := ⟨_, rfl⟩
    have HRB := Lib.hid hrb
    clear hgood hdata hrb
    go_upto_region 3 with fail
    go_cut [28] (fun t wx => t = .bool rb ∧ Below w1.heap.size w1 wx)
    case first =>
      by_cases h1 : set.length = 1
      · have e1 : ((set.length : Int) == 1) = true := by rw [beq_iff_eq]; omega
        obtain ⟨b, off, cp, hvv, -⟩ := recs_some (HV.out.below HB1.out) h0
        simp only [Value.slice.injEq, true_and] at hvv
        obtain ⟨rfl, rfl⟩ := hvv
        obtain ⟨hb, c0, c1, c2, c3, c4⟩ := cells_at (HV.out.below HB1.out) h0
        simp only [Nat.zero_mul, Nat.add_zero] at c0 c1 c2 c3 c4
        obtain ⟨x, hx⟩ : ∃ x, x = set[0] := ⟨_, rfl⟩
        rw [← hx] at c4
        have hset : set = [x] := by
          obtain ⟨y, hy⟩ := List.length_eq_one_iff.1 h1
          have hy0 : set[0] = y := by simp [hy]
          rw [hx, hy0]
          exact hy
        obtain ⟨fs, ps, r0, s, q1, q2, q3, q4, q5, q6⟩ := po.srv_data (HD.out x (by rw [hset]; exact List.mem_singleton.2 rfl))
        have HN := Lib.hid (dnames_form 33 x.data fs ps r0 (HD.out x (by rw [hset]; exact List.mem_singleton.2 rfl)) q1 q2 q5 w1)
        rw [q3] at HN
        have hrb : rb = decide (s.toList = [0]) := by
          rw [HRB.out, q6]
          unfold po.rootB
          rw [hset]
          simp
        have HRB2 := Lib.hid hrb
        have h0i : (0 : Int) < (set.length : Int) := by omega
        clear c0 c1 c2 c3 hx hset q1 q2 q3 q4 q5 q6 hb hrb h1
        go_wp2_with fail
        refine HN.out.mono ?_
        rintro e w3 ⟨nv, rfl, hB3, hown⟩
        obtain ⟨g, cg, hv, hbg, hgl⟩ := hown.form (by simp)
        subst hv
        have cg0 := hown.cellAt 0 (by simp)
        simp only [List.length_cons, List.length_nil, Nat.zero_add, List.map_cons, List.map_nil, List.getElem?_cons_zero] at cg0 ⊢
        have HB3 := Lib.hid hB3
        clear hB3 hown hbg hgl
        by_cases hs : s.toList = [0]
        · have f1 : (s.toList == [0]) = true := by rw [beq_iff_eq]; exact hs
          have HS := Lib.hid hs
          clear hs
          go_wp2_with fail
          go_meet
          exact ⟨by rw [HRB2.out, decide_eq_true HS.out], HB3.out⟩
        · have f1 : (s.toList == [0]) = false := by rw [beq_eq_false_iff_ne]; exact hs
          have HS := Lib.hid hs
          clear hs
          go_wp2_with fail
          go_meet
          exact ⟨by rw [HRB2.out, decide_eq_false HS.out], HB3.out⟩
      · have e1 : ((set.length : Int) == 1) = false := by rw [beq_eq_false_iff_ne]; omega
        have hrb : rb = false := by
          rw [HRB.out]; unfold po.rootB
          exact decide_eq_false (fun h => h1 h.1)
        have HRB2 := Lib.hid hrb
        clear hrb h1
        go_wp2_with fail
        go_meet
        exact ⟨by rw [HRB2.out], Below.refl _ _⟩
    case rest =>
      obtain ⟨rfl, hB2⟩ := hcut
      have HB2 := Lib.hid (HB1.out.trans (hB2.mono HB1.out.size))
      clear hB2
      cases rb with
      | true =>
        go_wp2_with fail
        go_ret2
        exact ⟨_, _, [], rfl, HB2.out, .root HSB.out.symm HRB.out.symm, World.ownsRow_nil _ _ _ _⟩
      | false =>
        obtain ⟨w2, hw2⟩ : ∃ X : World, X = wc := ⟨_, rfl⟩
        subst hw2
        go_wp2_with fail
        refine (cloneRecs_any set (by omega) _ HF.out w2 (HV.out.below HB2.out)).mono ?_
        rintro e w3 ⟨lv, rfl, hB3, hown3⟩
        obtain ⟨g, cg, hv, hbg, hgl⟩ := hown3.form h0
        subst hv
        have HB3 := Lib.hid (HB2.out.trans (hB3.mono HB2.out.size))
        have HS2 := Lib.hid HB2.out.size
        have hok : ∀ r ∈ set, OkS r := fun r hr => by
          obtain ⟨_, _, _, _, _, _, _, q4, q5, _⟩ := po.srv_data (HD.out r hr)
          exact ⟨by omega, by omega⟩
        have HSORT := Lib.hid (sortServers_any set (by omega) hok w2.heap.size g cg w3 hown3)
        have HGW := Lib.hid (show w2.heap.size ≤ g from hbg)
        clear hok hown3 hB3 hbg hgl
        go_wp2_with fail
        refine HSORT.out.mono ?_
        rintro e w4 ⟨rfl, hg4, T, hT, hown4⟩
        obtain ⟨S, hS⟩ : ∃ S, S = T.map (·.1) := ⟨_, rfl⟩
        rw [← hS] at hown4
        have hSl : S.length = set.length := by rw [hS, List.length_map, hT.1.length_eq, List.length_zipIdx]
        have hSd : ∀ x ∈ S, dt.chkI 33 x.data = 0 := fun x hx => by
          rw [hS] at hx
          obtain ⟨y, hy, rfl⟩ := List.mem_map.1 hx
          have h1 := hT.1.subset hy
          have h2 := List.mem_zipIdx h1
          exact HD.out _ (by rw [h2.2.2]; exact List.getElem_mem _)
        have HT := Lib.hid hT; have HSS := Lib.hid hS; have HSD := Lib.hid hSd
        have HB4 := Lib.hid (HB3.out.grown hg4 HB3.out.size (fun j hj => by simp only [Option.some.injEq] at hj; have := HS2.out; have := HGW.out; omega))
        rw [← hSl] at hown4 ⊢
        have HOWN4 := Lib.hid hown4
        have HSL := Lib.hid hSl
        have hl2 : S.length * 56 ≤ 1099511627776 := by omega
        clear hT hS hSd hg4 hown4 hSl h0 hl HSORT
        go_wp2_with fail
        go_loopw [1, 6, 7] (fun rv lv ov wr => ∃ l O rs, lv = .slice (some ⟨g, 0, none⟩) (l : List Rec).length cg ∧ Hid (PickI S rolls w wr w2.heap.size g cg l O rs rv ov)) (fun _ lv _ _ => sliceN lv)
        case atStart =>
          refine ⟨S, [], rolls, rfl, Lib.hid ⟨HB4.out, HOWN4.out, World.ownsRow_nil _ _ _ _, by simp [Value.ownBlock], HRV.out, HZ.out, hrl, by simp, HSD.out, fun L h => h⟩⟩
        case round =>
          obtain ⟨l, O, rs, rfl, HI⟩ := hrel
          have hlen := HI.out.len
          obtain ⟨ra1, rc1, hrv1, hrc1, -⟩ := HI.out.ints
          subst hrv1
          obtain ⟨wo, hwo⟩ : ∃ X : World, X = wr := ⟨_, rfl⟩
          subst hwo
          by_cases h0 : 0 < l.length
          · have h0i : (0 : Int) < (l.length : Int) := by omega
            have hl3 : l.length * 56 ≤ 1099511627776 := by omega
            have HRV := Lib.hid (owns_recs HI.out.left)
            go_wp2_with fail
            go_loopw [8, 9] (fun nv sv wr => ∃ n : Nat, n ≤ l.length ∧ nv = .int .i64 (n : Int) ∧ sv = .int .i64 (po.cum l n) ∧ Hid (Below wo.heap.size wo wr ∧ ∀ j (hj : j < l.length), j < n → po.numI (l[j]).data 0 = po.numI (l[0]).data 0)) (fun nv _ _ => l.length - (intOf nv).toNat)
            case atStart => exact ⟨0, Nat.zero_le _, rfl, by rw [po.cum_zero], Lib.hid ⟨Below.refl _ _, fun j _ hj => absurd hj (Nat.not_lt_zero _)⟩⟩
            case round =>
              obtain ⟨n, hn, rfl, rfl, HR⟩ := hrel
              obtain ⟨w5, hw5⟩ : ∃ X : World, X = wr := ⟨_, rfl⟩
              subst hw5
              obtain ⟨c, hc⟩ : ∃ c, c = po.cum l n := ⟨_, rfl⟩
              have hcb := po.cum_bd l n
              rw [← hc] at hcb ⊢
              obtain ⟨c0, c1⟩ := hcb
              have c2 : c ≤ 65535000000000000 := by omega
              have HC := Lib.hid hc
              obtain ⟨tb, htb⟩ : ∃ tb, tb = decide (∃ h : n < l.length, po.numI (l[n]).data 0 = po.numI (l[0]).data 0) := ⟨_, rfl⟩
              have HTB := Lib.hid htb
              clear hc htb c1
              go_upto_region 10 with fail
              go_cut [53] (fun t wx => t = .bool tb ∧ Below w5.heap.size w5 wx)
              case first =>
                by_cases hnl : n < l.length
                · obtain ⟨gb, x0, x1, x2, x3, x4⟩ := cells_at (HRV.out.below HR.out.1) hnl
                  obtain ⟨-, y0, y1, y2, y3, y4⟩ := cells_at (HRV.out.below HR.out.1) h0
                  simp only [Nat.zero_add, Nat.zero_mul] at x4 y4
                  obtain ⟨x, hx⟩ : ∃ x, x = l[n] := ⟨_, rfl⟩
                  obtain ⟨y, hy⟩ : ∃ y, y = l[0] := ⟨_, rfl⟩
                  rw [← hx] at x4
                  rw [← hy] at y4
                  have g4 := gw_cell x4; have k4 := gw_cell y4
                  have CX : Hid (∀ p, Calls Tryz.prog 24 #[.string x.data, .int .i64 0] (gw w5 p) fun e w'' => e = .returned (.int .i64 (po.numI x.data 0)) ∧ ∃ p', w'' = gw w5 p') := Lib.hid fun p => calls_gw (num_call (HI.out.data x (by rw [hx]; exact List.getElem_mem _)) 0 (by omega) _)
                  have CY : Hid (∀ p, Calls Tryz.prog 24 #[.string y.data, .int .i64 0] (gw w5 p) fun e w'' => e = .returned (.int .i64 (po.numI y.data 0)) ∧ ∃ p', w'' = gw w5 p') := Lib.hid fun p => calls_gw (num_call (HI.out.data y (by rw [hy]; exact List.getElem_mem _)) 0 (by omega) _)
                  have hni : (n : Int) < (l.length : Int) := by omega
                  have htb : tb = decide (po.numI x.data 0 = po.numI y.data 0) := by
                    rw [HTB.out, hx, hy]
                    exact decide_eq_decide.2 ⟨fun ⟨_, h⟩ => h, fun h => ⟨hnl, h⟩⟩
                  obtain ⟨px, hpx⟩ : ∃ p, p = po.numI x.data 0 := ⟨_, rfl⟩
                  obtain ⟨py, hpy⟩ : ∃ p, p = po.numI y.data 0 := ⟨_, rfl⟩
                  rw [← hpx] at CX htb
                  rw [← hpy] at CY htb
                  have HTB2 := Lib.hid htb
                  clear x0 x1 x2 x3 x4 y0 y1 y2 y3 y4 hx hy htb hpx hpy gb
                  by_cases hp : px = py
                  · have f1 : (px == py) = true := by rw [beq_iff_eq]; exact hp
                    have HP := Lib.hid hp
                    clear hp
                    refine wp_region_gw (by kernel_rfl) (by kernel_rfl) ?_
                    repeat (with_reducible refine wpQuiet_step (fun K hK => ?_); go_simp; (try simp only [undef]); first | (with_reducible refine hK _ ?_; clear hK K) | (apply Exists.intro; refine ⟨fun _ => ?_, hK _ ?_⟩; (first | (go_at_call 24; (first | with_reducible exact CX.out _ | with_reducible exact CY.out _))); clear hK K) | (with_reducible refine ⟨fun _ h => (by cases h), ?_⟩; with_reducible refine hK _ ?_; clear hK K))
                    refine wpQuiet_nil ?_
                    (try simp only [show Value.tuple #[] = undef from rfl])
                    intro W hW
                    have hBW : Below w5.heap.size w5 W := by obtain ⟨g, rfl⟩ := hW; exact gw_below _ g
                    clear hW
                    go_wp2_with fail
                    go_meet
                    exact ⟨by rw [HTB2.out, decide_eq_true HP.out], hBW⟩
                  · have f1 : (px == py) = false := by rw [beq_eq_false_iff_ne]; exact hp
                    have HP := Lib.hid hp
                    clear hp
                    refine wp_region_gw (by kernel_rfl) (by kernel_rfl) ?_
                    repeat (with_reducible refine wpQuiet_step (fun K hK => ?_); go_simp; (try simp only [undef]); first | (with_reducible refine hK _ ?_; clear hK K) | (apply Exists.intro; refine ⟨fun _ => ?_, hK _ ?_⟩; (first | (go_at_call 24; (first | with_reducible exact CX.out _ | with_reducible exact CY.out _))); clear hK K) | (with_reducible refine ⟨fun _ h => (by cases h), ?_⟩; with_reducible refine hK _ ?_; clear hK K))
                    refine wpQuiet_nil ?_
                    (try simp only [show Value.tuple #[] = undef from rfl])
                    intro W hW
                    have hBW : Below w5.heap.size w5 W := by obtain ⟨g, rfl⟩ := hW; exact gw_below _ g
                    clear hW
                    go_wp2_with fail
                    go_meet
                    exact ⟨by rw [HTB2.out, decide_eq_false HP.out], hBW⟩
                · have hni : ¬ (n : Int) < (l.length : Int) := by omega
                  have f1 : decide ((n : Int) < (l.length : Int)) = false := decide_eq_false hni
                  have HNL := Lib.hid hnl
                  clear hnl
                  refine wp_region_gw (by kernel_rfl) (by kernel_rfl) ?_
                  repeat (with_reducible refine wpQuiet_step (fun K hK => ?_); go_simp; (try simp only [undef]); first | (with_reducible refine hK _ ?_; clear hK K))
                  refine wpQuiet_nil ?_
                  (try simp only [show Value.tuple #[] = undef from rfl])
                  intro W hW
                  have hBW : Below w5.heap.size w5 W := by obtain ⟨g, rfl⟩ := hW; exact gw_below _ g
                  clear hW
                  go_wp2_with fail
                  go_meet
                  exact ⟨by rw [HTB.out, decide_eq_false (show ¬ (∃ h : n < l.length, po.numI (l[n]).data 0 = po.numI (l[0]).data 0) from fun h => h.elim fun h _ => HNL.out h)], hBW⟩
              case rest =>
                obtain ⟨rfl, hB6⟩ := hcut
                obtain ⟨w6, hw6⟩ : ∃ X : World, X = wc := ⟨_, rfl⟩
                subst hw6
                have HB6 := Lib.hid (HR.out.1.trans (hB6.mono HR.out.1.size))
                clear hB6
                cases tb with
                | true =>
                  obtain ⟨hnl, hsame⟩ := of_decide_eq_true HTB.out.symm
                  obtain ⟨gb, x0, x1, x2, x3, x4⟩ := cells_at (HRV.out.below HB6.out) hnl
                  simp only [Nat.zero_add] at x4
                  have hcn := po.cum_next hnl
                  obtain ⟨x, hx⟩ : ∃ x, x = l[n] := ⟨_, rfl⟩
                  rw [← hx] at x4 hcn
                  rw [← HC.out] at hcn
                  have hni : (n : Int) < (l.length : Int) := by omega
                  have hnb := po.num_bd x.data 1
                  have CX := Lib.hid (num_call (HI.out.data x (by rw [hx]; exact List.getElem_mem _)) 1 (by omega) w6)
                  obtain ⟨p, hp⟩ : ∃ p, p = po.numI x.data 1 := ⟨_, rfl⟩
                  rw [← hp] at CX hcn hnb
                  obtain ⟨p0, p1⟩ := hnb
                  have HCN := Lib.hid hcn; have HSAME := Lib.hid hsame
                  clear x0 x1 x2 x3 hx hcn hp hsame gb
                  go_wp2_with fail
                  refine CX.out.mono ?_
                  rintro e w7 ⟨rfl, hB7⟩
                  have HB7 := Lib.hid (HB6.out.trans (hB7.mono HB6.out.size))
                  clear hB7 x4
                  go_wp2_with fail
                  go_roundw
                  case rel =>
                    refine ⟨n + 1, by omega, by go_num, by rw [HCN.out], Lib.hid ⟨HB7.out, fun j hj hjn => ?_⟩⟩
                    rcases Nat.lt_or_ge j n with h | h
                    · exact HR.out.2 j hj h
                    · obtain rfl : j = n := by omega
                      exact HSAME.out
                  case measure => simp [intOf]; omega
                | false =>
                  have hG : po.IsGrp l n := ⟨hn, fun j hj _ hjn => HR.out.2 j hj hjn, fun h _ he => (of_decide_eq_false HTB.out.symm) ⟨h, he⟩⟩
                  have hn1 : 0 < n := by
                    rcases Nat.eq_zero_or_pos n with h | h
                    · subst h; exact absurd rfl (hG.stop h0 h0)
                    · exact h
                  have HG := Lib.hid hG
                  clear hG
                  obtain ⟨x0, hx0⟩ : ∃ x, x = rs.headD 0 := ⟨_, rfl⟩
                  have hx0b : I64 x0 := by
                    rw [hx0]
                    cases rs with
                    | nil => exact ⟨by decide, by decide⟩
                    | cons z t => exact HI.out.i64 z (List.mem_cons_self ..)
                  have HX0 := Lib.hid hx0
                  obtain ⟨xl, xh⟩ := hx0b
                  clear hx0
                  go_upto_if 66 with fail
                  go_cut [1, 10] (fun rv xv wx => xv = .int .i64 x0 ∧ IntsC w rv rs.tail ∧ Below w6.heap.size w6 wx)
                  case first =>
                    have hz0 := HI.out.ints
                    have hz := hz0.below (HI.out.below.trans (HB6.out.mono HI.out.below.size))
                    by_cases hpos : 0 < rs.length
                    · obtain ⟨_, _, hv, _, hcells⟩ := id hz0
                      simp only [Value.slice.injEq, true_and] at hv
                      obtain ⟨rfl, rfl⟩ := hv
                      obtain ⟨b, off, rfl, hb, -⟩ := hcells 0 hpos
                      obtain ⟨_, _, hv2, _, hcells2⟩ := hz
                      simp only [Value.slice.injEq, true_and] at hv2
                      obtain ⟨rfl, rfl⟩ := hv2
                      obtain ⟨b2, off2, he2, -, c00⟩ := hcells2 0 hpos
                      simp only [Option.some.injEq, Addr.mk.injEq, and_true] at he2
                      obtain ⟨rfl, rfl⟩ := he2
                      have hx0' : rs[0] = x0 := by
                        rw [HX0.out]
                        cases rs with
                        | nil => simp at hpos
                        | cons z t => rfl
                      rw [hx0', Nat.add_zero] at c00
                      have htl : rs.tail.length = rs.length - 1 := List.length_tail
                      have hposi : (0 : Int) < (rs.length : Int) := by omega
                      have hpos1 : (1 : Int) ≤ (rs.length : Int) := by omega
                      by_cases hone : rc1 = 1
                      · have hl1 : rs.length = 1 := by omega
                        have hend : IntsC w (.slice (some ⟨b, off, none⟩) 0 0) rs.tail := by
                          have : rs.tail = [] := List.eq_nil_of_length_eq_zero (by omega)
                          rw [this]
                          exact ⟨_, 0, rfl, Nat.le_refl _, fun k hk => absurd hk (Nat.not_lt_zero _)⟩
                        have HE := Lib.hid hend
                        have h1c : (1 : Int) = (rc1 : Int) := by omega
                        have HL1 := Lib.hid hl1; have HON := Lib.hid hone
                        clear hend hcells hcells2 hz0 htl hx0' hl1 hone hb
                        go_wp2_with fail
                        go_quiet (fail)
                        clear c00
                        go_wp2_with fail
                        go_meet
                        exact ⟨rfl, HE.out, belowD (Below.refl _ _) nq⟩
                      · have hend : IntsC w (.slice (some ⟨b, off + 1, none⟩) (rs.length - 1) (rc1 - 1)) rs.tail := by
                          rw [← htl]
                          refine ⟨_, rc1 - 1, rfl, by omega, fun k hk => ⟨b, off + 1, rfl, hb, ?_⟩⟩
                          obtain ⟨b', off', he, _, hc⟩ := hcells (k + 1) (by omega)
                          simp only [Option.some.injEq, Addr.mk.injEq, and_true] at he
                          obtain ⟨rfl, rfl⟩ := he
                          rw [List.getElem_tail, Nat.add_assoc, Nat.add_comm 1 k]
                          exact hc
                        have HE := Lib.hid hend
                        have h1c : ¬ (1 : Int) = (rc1 : Int) := by omega
                        have h1d : ¬ rc1 = 1 := hone
                        clear hend hcells hcells2 hz0 htl hx0' hone hb
                        go_wp2_with fail
                        go_quiet (fail)
                        clear c00
                        go_wp2_with fail
                        go_meet
                        exact ⟨rfl, HE.out, belowD (Below.refl _ _) nq⟩
                    · have e0 : rs = [] := List.eq_nil_of_length_eq_zero (by omega)
                      have e1 : x0 = 0 := by rw [HX0.out, e0]; rfl
                      have hposi : ¬ (0 : Int) < (rs.length : Int) := by omega
                      have ht : IntsC w (.slice ra1 rs.length rc1) rs.tail := by
                        have : rs.tail = rs := by rw [e0]; rfl
                        rw [this]; exact hz0
                      have E1 := Lib.hid e1; have HZ0 := Lib.hid ht
                      clear hz hz0 e0 e1 hpos ht
                      go_wp2_with fail
                      go_meet
                      exact ⟨by rw [E1.out], HZ0.out, Below.refl _ _⟩
                  case rest =>
                    obtain ⟨rfl, hi7, hB7⟩ := hcut
                    obtain ⟨w7, hw7⟩ : ∃ X : World, X = wc := ⟨_, rfl⟩
                    subst hw7
                    have HI7 := Lib.hid hi7
                    have HB7 := Lib.hid (HB6.out.trans (hB7.mono HB6.out.size))
                    clear hi7 hB7
                    obtain ⟨xa, hxa⟩ : ∃ xa, xa = if x0 < 0 then -(x0 + 1) else x0 := ⟨_, rfl⟩
                    have xa0 : 0 ≤ xa := by rw [hxa]; split <;> omega
                    have xa1 : xa ≤ 9223372036854775807 := by rw [hxa]; split <;> omega
                    have HXA := Lib.hid hxa
                    clear hxa
                    go_upto_if 73 with fail
                    go_cut [10] (fun v wx => v = .int .i64 xa ∧ w7 = wx)
                    case first =>
                      by_cases hneg : x0 < 0
                      · have he : xa = -(x0 + 1) := by rw [HXA.out, if_pos hneg]
                        have HE := Lib.hid he
                        clear he
                        go_wp2_with fail
                        go_meet
                        exact ⟨by rw [HE.out], rfl⟩
                      · have he : xa = x0 := by rw [HXA.out, if_neg hneg]
                        have HE := Lib.hid he
                        clear he
                        go_wp2_with fail
                        go_meet
                        exact ⟨by rw [HE.out], rfl⟩
                    case rest =>
                      obtain ⟨rfl, rfl⟩ := hcut
                      have hroll : po.rollI rs c = xa % (c + 1) := by
                        unfold po.rollI
                        rw [← HX0.out, ← HXA.out]
                      obtain ⟨r, hr⟩ : ∃ r, r = xa % (c + 1) := ⟨_, rfl⟩
                      rw [← hr] at hroll
                      have r0 : 0 ≤ r := by rw [hr]; exact Int.emod_nonneg _ (by omega)
                      have r1 : r ≤ c := by have := Int.emod_lt_of_pos xa (show 0 < c + 1 by omega); omega
                      have HROLL := Lib.hid hroll
                      clear hroll
                      obtain ⟨gb, y0, y1, y2, y3, y4⟩ := cells_at (HRV.out.below HB7.out) h0
                      simp only [Nat.zero_add, Nat.zero_mul] at y4
                      have hcn := po.cum_next h0
                      rw [po.cum_zero, Int.zero_add] at hcn
                      obtain ⟨y, hy⟩ : ∃ y, y = l[0] := ⟨_, rfl⟩
                      rw [← hy] at y4 hcn
                      have CY := Lib.hid (num_call (HI.out.data y (by rw [hy]; exact List.getElem_mem _)) 1 (by omega) w7)
                      obtain ⟨p, hp⟩ : ∃ p, p = po.numI y.data 1 := ⟨_, rfl⟩
                      have hnb := po.num_bd y.data 1
                      rw [← hp] at CY hcn hnb
                      obtain ⟨p0, p1⟩ := hnb
                      have HCN := Lib.hid hcn
                      clear y0 y1 y2 y3 hy hcn hp gb
                      go_upto_region 19 with fail
                      rw [← hr]
                      have HR1 := Lib.hid hr
                      clear hr
                      go_wp2_with fail
                      refine CY.out.mono ?_
                      rintro e w8 ⟨rfl, hB8⟩
                      have HB8 := Lib.hid (HB7.out.trans (hB8.mono HB7.out.size))
                      clear hB8 y4
                      go_wp2_with fail
                      go_loopw [11, 12] (fun kv sv wr => ∃ k : Nat, k < n ∧ kv = .int .i64 (k : Int) ∧ sv = .int .i64 (po.cum l (k + 1)) ∧ Hid (Below w8.heap.size w8 wr ∧ ∀ j, j < k → po.cum l (j + 1) < r)) (fun kv _ _ => n - (intOf kv).toNat)
                      case atStart => exact ⟨0, hn1, rfl, by rw [HCN.out], Lib.hid ⟨Below.refl _ _, fun j hj => absurd hj (Nat.not_lt_zero _)⟩⟩
                      case round =>
                        obtain ⟨k, hk, rfl, rfl, HK⟩ := hrel
                        obtain ⟨w9, hw9⟩ : ∃ X : World, X = wr := ⟨_, rfl⟩
                        subst hw9
                        obtain ⟨k1, hk1⟩ : ∃ k1, k1 = k + 1 := ⟨_, rfl⟩
                        obtain ⟨s, hs⟩ : ∃ s, s = po.cum l k1 := ⟨_, rfl⟩
                        have hsb := po.cum_bd l k1
                        rw [← hk1]
                        rw [← hs] at hsb ⊢
                        obtain ⟨s0, s1⟩ := hsb
                        have s2 : s ≤ 65535000000000000 := by omega
                        have HSK := Lib.hid hs
                        have HK1 := Lib.hid hk1
                        have hkk : k < l.length := by omega
                        have HB9 := Lib.hid (HB8.out.trans (HK.out.1.mono HB8.out.size))
                        clear hs s1
                        by_cases hlt : s < r
                        · have hkn : k1 < n := by
                            rcases Nat.lt_or_ge k1 n with h | h
                            · exact h
                            · have hh : k1 = n := by omega
                              have h2 := HSK.out
                              rw [hh, ← HC.out] at h2
                              omega
                          have hkl : k1 < l.length := by omega
                          have hkli : (k1 : Int) < (l.length : Int) := by omega
                          have ek : (k : Int) + 1 = (k1 : Int) := by omega
                          obtain ⟨gb, x0, x1, x2, x3, x4⟩ := cells_at (HRV.out.below HB9.out) hkl
                          simp only [Nat.zero_add] at x4
                          have hcn := po.cum_next hkl
                          obtain ⟨x, hx⟩ : ∃ x, x = l[k1] := ⟨_, rfl⟩
                          rw [← hx] at x4 hcn
                          rw [← HSK.out] at hcn
                          have hnb := po.num_bd x.data 1
                          have CX := Lib.hid (num_call (HI.out.data x (by rw [hx]; exact List.getElem_mem _)) 1 (by omega) w9)
                          obtain ⟨q, hq⟩ : ∃ q, q = po.numI x.data 1 := ⟨_, rfl⟩
                          rw [← hq] at CX hcn hnb
                          obtain ⟨q0, q1⟩ := hnb
                          have HCN2 := Lib.hid hcn; have HLT := Lib.hid hlt
                          clear x0 x1 x2 x3 hx hcn hq gb hk1
                          go_wp2_with fail
                          refine CX.out.mono ?_
                          rintro e w10 ⟨rfl, hB10⟩
                          have HB10 := Lib.hid (HK.out.1.trans (hB10.mono HK.out.1.size))
                          clear hB10 x4
                          go_wp2_with fail
                          go_roundw
                          case rel =>
                            refine ⟨k1, hkn, by go_num, by rw [HCN2.out], Lib.hid ⟨HB10.out, fun j hj => ?_⟩⟩
                            rcases Nat.lt_or_ge j k with h | h
                            · exact HK.out.2 j h
                            · obtain rfl : j = k := by have := HK1.out; omega
                              have h2 := HLT.out
                              rw [HSK.out, HK1.out] at h2
                              exact h2
                          case measure => have := HK1.out; simp [intOf]; omega
                        · have HP := Lib.hid (show po.PickAt l n r k from ⟨hk, HK.out.2, by rw [← hk1, ← HSK.out]; omega⟩)
                          have HB9w := Lib.hid (HI.out.below.trans (HB9.out.mono HI.out.below.size))
                          have HROWO := Lib.hid (ownsRow_below HI.out.out HB9.out)
                          have hleft := ownsRow_below HI.out.left HB9.out
                          have hkli : (k : Int) < (l.length : Int) := by omega
                          obtain ⟨gb, x0, x1, x2, x3, x4⟩ := cells_at (HRV.out.below HB9.out) hkk
                          simp only [Nat.zero_add] at x0 x1 x2 x3 x4
                          obtain ⟨x, hx⟩ : ∃ x, x = l[k] := ⟨_, rfl⟩
                          rw [← hx] at x0 x1 x2 x3 x4
                          have HX := Lib.hid hx
                          have hO : O.length * 56 ≤ 1099511627776 := by omega
                          have HLA := Lib.hid (ownsRow_keepOne hleft fun b hb => Below.heap_alloc w9 (.cells (recC x).toArray 42) b (hleft.lt b hb).2)
                          clear hx hk1 gb hleft
                          obtain ⟨i0_r, hi_r, hz_r, hz1_r, hz2_r⟩ := info_parts info_rec
                          have HI_r := Lib.hid hi_r; have HZ_r := Lib.hid hz_r; have HZ1_r := Lib.hid hz1_r; have HZ2_r := Lib.hid hz2_r
                          clear hi_r hz_r hz1_r hz2_r
                          go_upto_region 23 with fail
                          have HB_a := Lib.hid (HB9w.out.alloc HB9w.out.size (.cells (recC x).toArray 42))
                          have HO_a := Lib.hid (ownsRow_keepOne HROWO.out fun b hb => Below.heap_alloc w9 (.cells (recC x).toArray 42) b (HROWO.out.lt b hb).2)
                          have P1_a := Lib.hid (show O.length + 1 ≤ maxLen from by unfold maxLen; omega)
                          have P2_a := Lib.hid (show (O.length + 1) * 56 ≤ 140737488355328 from by omega)
                          have P3_a := Lib.hid (show w.heap.size ≤ (w9.alloc (.cells (recC x).toArray 42)).heap.size from by have := HB9w.out.size; simp; omega)
                          have HNEWS_ := Lib.hid (news_at w9 (recC x) 42)
                          go_wp2_with (at_builtin; refine wpList_append_new _ rfl _ _ 22 rfl w.heap.size 42 i0_r (.agg #[.string ⟨#[]⟩, .int .i64 0, .int .i64 0, .int .i64 0, .string ⟨#[]⟩]) 5 56 Tryz.underlying22 HI_r.out HZ_r.out HZ1_r.out HZ2_r.out rfl (by decide) _ _ _ rfl HO_a.out ⟨w9.heap.size, 0, none⟩ 1 1 (recC x) rfl rfl HNEWS_.out (by simp [Value.oneCell']) P1_a.out P2_a.out P3_a.out ?_)
                          intro v' w10 hown10 hg10 hnn10
                          have HB10 := Lib.hid (HB_a.out.grown hg10 P3_a.out (fun j hj => (HO_a.out.lt j hj).1))
                          have HOWN10 := Lib.hid hown10; have HG10 := Lib.hid hg10; have HNN10 := Lib.hid hnn10
                          clear hown10 hg10 hnn10 HB_a HO_a P1_a P2_a P3_a HNEWS_
                          have HNG := Lib.hid (show v'.ownBlock ≠ some g from fun e => by
                            rcases HNN10.out g e with h | h
                            · exact HI.out.apart h
                            · have h2 := (HLA.out.lt g rfl).2
                              first | exact absurd h (Nat.not_le_of_lt h2) | (simp at h h2; omega))
                          have HL10 := Lib.hid (ownsRow_keepOne HLA.out fun b hb => HG10.out.block b (HLA.out.lt b hb).2 (by
                            obtain rfl : g = b := by simpa [Value.ownBlock] using hb
                            first | exact HI.out.apart | exact fun e => HI.out.apart e.symm | exact fun e => HI.out.apart e))
                          have hdel := delete_any l (by omega) k hkk w2.heap.size g cg w10 HL10.out
                          rw [show ((k + 1 : Nat) : Int) = (k : Int) + 1 by omega] at hdel
                          have HDEL := Lib.hid hdel
                          clear x0 x1 x2 x3 x4 hdel
                          go_wp2_with fail
                          refine HDEL.out.mono ?_
                          rintro e w11 ⟨rfl, hg11, hown11⟩
                          have HG11 := Lib.hid hg11; have HOWN11 := Lib.hid hown11
                          clear hg11 hown11
                          go_wp2_with fail
                          have hel : (l.eraseIdx k).length = l.length - 1 := List.length_eraseIdx_of_lt hkk
                          go_roundw
                          case rel =>
                            refine ⟨l.eraseIdx k, O ++ [x], rs.tail, by rw [hel], Lib.hid ⟨HB10.out.grown HG11.out HB10.out.size (fun j hj => by simp only [Option.some.injEq] at hj; have := HS2.out; have := HGW.out; omega), by rw [hel]; exact HOWN11.out, ?_, HNG.out, HI7.out, fun z hz => HI.out.i64 z (List.mem_of_mem_tail hz), by rw [List.length_tail]; have := HI.out.rlen; omega, by rw [hel, List.length_append, List.length_singleton]; omega, fun y hy => HI.out.data y (List.mem_of_mem_eraseIdx hy), fun L hL => ?_⟩⟩
                            · rw [List.length_append, List.length_singleton, recsC_apps]
                              have h1 := ownsRow_keepOne HOWN10.out fun b hb => HG11.out.block b (HOWN10.out.lt b hb).2 (by
                                intro e
                                first | exact HNG.out (hb.trans e.symm) | exact HNG.out (hb.trans e))
                              simpa [recsC] using h1
                            · have h1 := po.Run.next l rs n k L hkk HG.out (by rw [← HC.out, HROLL.out]; exact HP.out) hL
                              rw [← HX.out] at h1
                              have h2 := HI.out.run _ h1
                              rw [List.append_assoc]
                              exact h2
                          case measure => simp [sliceN]; omega
          · have h0i : ¬ (0 : Int) < (l.length : Int) := by omega
            have HL0 := Lib.hid (show l = [] from List.eq_nil_of_length_eq_zero (by omega))
            clear h0
            go_wp2_with fail
            go_ret2
            have hr := HI.out.run [] (by rw [HL0.out]; exact .done rs)
            rw [List.append_nil] at hr
            exact ⟨_, _, O, rfl, HI.out.below, .run HSB.out.symm HRB.out.symm T O HT.out (by rw [← HSS.out]; exact hr), HI.out.out⟩
end Go.Proofs.YtnloommafgnanaaGreat

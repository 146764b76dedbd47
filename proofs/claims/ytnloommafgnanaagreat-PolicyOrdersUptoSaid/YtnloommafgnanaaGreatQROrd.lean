/-
  gazetteerref11.Order, walked.
-/
import Derived.Test.YtnloommafgnanaaGreatQRSetY
import Derived.Test.YtnloommafgnanaaGreatQRNum
import Derived.Test.YtnloommafgnanaaGreatQOrdE
import Derived.Test.YtnloommafgnanaaGreatQOrdT
import Derived.Test.YtnloommafgnanaaGreatQRzE
import Derived.Test.YtnloommafgnanaaGreatQStepN
import Derived.Deep.CutBlock
namespace Go.Proofs.YtnloommafgnanaaGreat
open Go.RowKit Go.Shelf Go.Proofs.YtnloommafgnanaaGreat.nm Go.Proofs.YtnloommafgnanaaGreat.od

namespace po
inductive ROrdRes (set : List Rec) (rolls : List Int) : Int → List Rec → Prop
  | bad (h : setB 33 set = false) : ROrdRes set rolls 8 []
  | root (h : setB 33 set = true) (hr : rootB set = true) : ROrdRes set rolls 0 []
  | run (h : setB 33 set = true) (hr : rootB set = false) (L : List Rec) (hL : RRun set rolls L) : ROrdRes set rolls 0 L
theorem ord_eq {set : List Rec} {rolls : List Int} {c d : Int} {L M : List Rec} (h1 : OrdRes set rolls c L) (h2 : ROrdRes set rolls d M) : c = d ∧ L = M := by
  cases h1 with
  | bad h =>
    cases h2 with
    | bad h' => exact ⟨rfl, rfl⟩
    | root h' _ => rw [h] at h'; cases h'
    | run h' _ L hL => rw [h] at h'; cases h'
  | root h hr =>
    cases h2 with
    | bad h' => rw [h] at h'; cases h'
    | root h' _ => exact ⟨rfl, rfl⟩
    | run h' hr' L hL => rw [hr] at hr'; cases hr'
  | run h hr T L hT hL =>
    cases h2 with
    | bad h' => rw [h] at h'; cases h'
    | root h' hr' => rw [hr] at hr'; cases hr'
    | run h' hr' M hM => exact ⟨rfl, order_same hT hL hM⟩
def ROrdPost (set : List Rec) (rolls : List Int) (w : World) (e : Ending) (w' : World) : Prop :=
  ∃ v c L, e = .returned (.tuple #[v, .int .i64 c]) ∧ Below w.heap.size w w' ∧ ROrdRes set rolls c L ∧ w'.ownsRow w.heap.size 42 5 v L.length (recsC L)
end po
namespace po
/-- The rows behind so many passes. -/
def rowsAt (l : List Rec) (m : Int) : Nat → List (Rec × Nat)
  | 0 => []
  | 1 => l.zipIdx.filter (inRow m true)
  | _ => l.zipIdx.filter (inRow m true) ++ l.zipIdx.filter (inRow m false)
def sumR (R : List (Rec × Nat)) : Int := (R.map fun y => numI y.1.data 1).sum
theorem sumR_snoc (R : List (Rec × Nat)) (y : Rec × Nat) : sumR (R ++ [y]) = sumR R + numI y.1.data 1 := by
  unfold sumR; rw [List.map_append, List.sum_append]; simp
theorem sumR_bd : ∀ R : List (Rec × Nat), 0 ≤ sumR R ∧ sumR R ≤ 65535 * (R.length : Int)
  | [] => by simp [sumR]
  | y :: R => by
    have ih := sumR_bd R
    have hb := num_bd y.1.data 1
    have e : sumR (y :: R) = numI y.1.data 1 + sumR R := by unfold sumR; simp
    rw [e, List.length_cons]
    omega
theorem rows_len (l : List Rec) (m : Int) (p : Nat) : (rowsAt l m p).length ≤ p * l.length := by
  have h : ∀ z, (l.zipIdx.filter (inRow m z)).length ≤ l.length := fun z => Nat.le_trans (List.length_filter_le _ _) (by rw [List.length_zipIdx]; exact Nat.le_refl _)
  have a := h true; have b := h false
  match p with
  | 0 => simp [rowsAt]
  | 1 => simpa [rowsAt] using a
  | k + 2 =>
    have : 2 * l.length ≤ (k + 2) * l.length := Nat.mul_le_mul_right _ (by omega)
    simp only [rowsAt, List.length_append]
    omega
theorem rows_next (l : List Rec) (m : Int) {p : Nat} (h : p < 2) : rowsAt l m (p + 1) = rowsAt l m p ++ l.zipIdx.filter (inRow m (decide (p = 0))) := by
  match p with
  | 0 => simp [rowsAt]
  | 1 => simp [rowsAt]
theorem filt_next (l : List Rec) (q : Rec × Nat → Bool) {j : Nat} (h : j < l.length) : (l.zipIdx.take (j + 1)).filter q = (l.zipIdx.take j).filter q ++ if q (l[j], j) = true then [(l[j], j)] else [] := by
  rw [List.take_succ_eq_append_getElem (by rw [List.length_zipIdx]; exact h), List.filter_append, List.getElem_zipIdx, Nat.zero_add]
  by_cases hq : q (l[j], j) = true
  · rw [if_pos hq, List.filter_cons_of_pos hq, List.filter_nil]
  · rw [if_neg hq, List.filter_cons_of_neg hq, List.filter_nil]
theorem row_at {l : List Rec} {i : Nat} (h : i < (rowP l).length) : ∃ hk : (rowP l)[i].2 < l.length, l[(rowP l)[i].2] = (rowP l)[i].1 := by
  have hm : (rowP l)[i] ∈ l.zipIdx := by
    have h1 := List.getElem_mem h
    have h3 : ∀ y ∈ rowP l, y ∈ l.zipIdx := fun y hy => by
      unfold rowP at hy
      rcases List.mem_append.1 hy with h | h <;> exact (List.mem_filter.1 h).1
    exact h3 _ h1
  generalize (rowP l)[i] = q at hm
  obtain ⟨qa, qi⟩ := q
  have hz := List.mem_zipIdx hm
  exact ⟨by simp only; omega, hz.2.2.symm⟩
theorem row_pos {l : List Rec} (h : 0 < l.length) : 0 < (rowP l).length := by
  obtain ⟨h1, h2, h3⟩ := leastF_props l 65536
  have hx0 := h2 _ (List.getElem_mem h)
  have hb := num_bd (l[0]).data 0
  rcases h3 with h3 | ⟨x, hx, h3⟩
  · omega
  · obtain ⟨j, hj, rfl⟩ := List.getElem_of_mem hx
    have hm : (l[j], j) ∈ l.zipIdx := by
      have := List.getElem_mem (l := l.zipIdx) (n := j) (by rw [List.length_zipIdx]; exact hj)
      rw [List.getElem_zipIdx, Nat.zero_add] at this
      exact this
    refine List.length_pos_of_mem (a := (l[j], j)) ?_
    unfold rowP
    rw [List.mem_append, List.mem_filter, List.mem_filter]
    by_cases hw : numI (l[j]).data 1 = 0
    · exact .inl ⟨hm, by simp [inRow, h3, hw]⟩
    · exact .inr ⟨hm, by simp [inRow, h3, hw]⟩
theorem sum_cum (R : List (Rec × Nat)) : sumR R = cum (R.map (·.1)) R.length := by
  unfold sumR cum
  rw [List.take_of_length_le (by rw [List.length_map]; exact Nat.le_refl _), List.map_map]
  rfl
def ints (R : List (Rec × Nat)) : List Value := R.map fun y => .int .i64 (y.2 : Int)
end po
/-- What holds at each pick. -/
structure RPickI (S : List Rec) (rolls : List Int) (w wr : World) (l O : List Rec) (rs : List Int) (lv rv ov : Value) : Prop where
  below : Below w.heap.size w wr
  left : wr.ownsRow w.heap.size 42 5 lv l.length (recsC l)
  out : wr.ownsRow w.heap.size 42 5 ov O.length (recsC O)
  apart : ∀ b, ov.ownBlock = some b → lv.ownBlock ≠ some b
  ints : IntsC w rv rs
  i64 : ∀ z ∈ rs, I64 z
  rlen : rs.length ≤ 1000000000000
  len : l.length + O.length = S.length
  data : ∀ x ∈ l, dt.chkI 33 x.data = 0
  run : ∀ L, po.RRun l rs L → po.RRun S rolls (O ++ L)
/-- One more pick. -/
theorem rpick_next {S : List Rec} {rolls : List Int} {w wo : World} {l O : List Rec} {rs : List Int} {lv rv ov : Value} (HI : RPickI S rolls w wo l O rs lv rv ov)
    {R0 : List (Rec × Nat)} {C : List Rec} {s0 r : Int} {i k k1 n2 : Nat} {x : Rec} (hRP : R0 = po.rowP l) (hC : C = R0.map (·.1)) (hs : s0 = po.cum C R0.length) (hr : po.rollI rs s0 = r)
    (hil : i < R0.length) (hpk : po.PickAt C R0.length r i) (hk : k = (R0[i]).2) (hx : x = (R0[i]).1) (hk1 : k1 = k + 1) (hkl : k < l.length) (hn2 : n2 = (l.eraseIdx k).length)
    {w10 w11 w12 : World} {v1 vn ov' rv' : Value} (hB : Below w.heap.size w w10) (hout : w10.ownsRow w.heap.size 42 5 ov' (O.length + 1) (recsC O ++ recC x)) (hrv : IntsC w rv' rs.tail)
    (hg11 : w10.drew.grownBy w11 none) (hn11 : ∀ b, v1.ownBlock = some b → none = some b ∨ w10.drew.heap.size ≤ b)
    (ho12 : w12.ownsRow w10.drew.heap.size 42 5 vn n2 ([] ++ recsC (l.take k) ++ recsC (l.drop k1)))
    (hg12 : w11.grownBy w12 v1.ownBlock) : RPickI S rolls w w12 (l.eraseIdx k) (O ++ [x]) rs.tail vn rv' ov' := by
  have hv1 : ∀ b, v1.ownBlock = some b → w10.heap.size ≤ b := fun b hb => by
    rcases hn11 b hb with h | h
    · cases h
    · exact h
  have hs0 := hB.size
  have hs1 : w10.heap.size ≤ w11.heap.size := hg11.size
  have hB11 : Below w.heap.size w w11 := hB.drew.grown hg11 hs0 (fun j hj => by cases hj)
  have hB12 : Below w.heap.size w w12 := hB11.grown hg12 (Nat.le_trans hs0 hs1) (fun j hj => Nat.le_trans hs0 (hv1 j hj))
  have hel : l.eraseIdx k = l.take k ++ l.drop k1 := by rw [List.eraseIdx_eq_take_drop_succ, hk1]
  subst hk1
  refine ⟨hB12, ?_, ?_, ?_, hrv, fun z hz => HI.i64 z (List.mem_of_mem_tail hz), ?_, ?_, fun y hy => HI.data y (List.mem_of_mem_eraseIdx hy), fun L hL => ?_⟩
  · rw [← hn2, hel, recsC_cat]
    exact ownsRow_base ho12 hs0
  · rw [List.length_append, List.length_singleton, recsC_cat, show recsC [x] = recC x by simp [recsC]]
    refine ownsRow_keepOne hout fun b hb => ?_
    have hlt := (hout.lt b hb).2
    refine (hg12.block b (Nat.lt_of_lt_of_le hlt hs1) (fun e => absurd (hv1 b e.symm) (Nat.not_le_of_lt hlt))).trans (hg11.block b hlt (by simp))
  · intro b hb hb2
    have h1 := (hout.lt b hb).2
    have h2 : w10.heap.size ≤ b := (ho12.lt b hb2).1
    omega
  · rw [List.length_tail]; have := HI.rlen; omega
  · have := HI.len
    rw [List.length_eraseIdx, if_pos hkl, List.length_append, List.length_singleton]
    omega
  · rw [List.append_assoc]
    refine HI.run _ ?_
    subst hC hRP
    have hn := po.RRun.next l rs i L hil (by rw [← hs, hr]; exact hpk) (by rw [← hk]; exact hL)
    rw [hx]
    exact hn
theorem rnum_call {x : Rec} (h : dt.chkI 33 x.data = 0) (k : Nat) (hk : k ≤ 1) (X : World) : Calls Tryz.prog 28 #[.string x.data, .int .i64 (k : Int)] X fun e w' => e = .returned (.int .i64 (po.numI x.data k)) ∧ X = w' := by
  obtain ⟨_, _, _, _, _, _, _, q4, q5, _⟩ := po.srv_data h
  exact rnumber_any x.data k (by omega) (by omega) X
set_option maxRecDepth 100000 in
set_option maxHeartbeats 16000000 in
theorem rorder_any (set : List Rec) (hl : set.length * 56 ≤ 1099511627776) (hn : ∀ x ∈ set, x.owner.size ≤ 1099511627776) (rolls : List Int) (hz : ∀ z ∈ rolls, I64 z) (hrl : rolls.length ≤ 1000000000000) (v rv : Value) (hf : SliceForm v) (w : World) (hv : RecsAt w v set) (hrv : IntsC w rv rolls) :
    Calls Tryz.prog 7 #[v, rv] w fun e w' => po.ROrdPost set rolls w e w' := by
  have HV := Lib.hid hv; have HRV := Lib.hid hrv; have HZ := Lib.hid hz; have HF := Lib.hid hf; have HN := Lib.hid hn
  obtain ⟨a, cap, rfl, -⟩ := id hv
  obtain ⟨ra, rcap, rfl, -⟩ := id hrv
  obtain ⟨sb, hsb⟩ : ∃ sb, sb = po.setB 33 set := ⟨_, rfl⟩
  have HSB := Lib.hid hsb
  clear hv hrv hz hf hn
  obtain ⟨i0_r, hi_r, hz_r, hz1_r, hz2_r⟩ := info_parts info_rec
  have HI_r := Lib.hid hi_r; have HZ_r := Lib.hid hz_r; have HZ1_r := Lib.hid hz1_r; have HZ2_r := Lib.hid hz2_r
  clear hi_r hz_r hz1_r hz2_r
  obtain ⟨i0_i, hi_i, hz_i, hz1_i, hz2_i⟩ := info_parts info_int
  have HI_i := Lib.hid hi_i; have HZ_i := Lib.hid hz_i; have HZ1_i := Lib.hid hz1_i; have HZ2_i := Lib.hid hz2_i
  clear hi_i hz_i hz1_i hz2_i
  go_enter Tryz.func7, Tryz.ntmps7
  go_wp2_with fail
  refine (rsetT_any 33 (by decide) set (by omega) HN.out _ w HV.out).mono ?_
  rintro e w1 ⟨rfl, hB1⟩
  rw [← hsb]
  have HB1 := Lib.hid hB1
  clear hB1 hsb
  cases sb with
  | false =>
    go_wp2_with fail
    go_ret2
    exact ⟨_, _, [], rfl, HB1.out, .bad HSB.out.symm, World.ownsRow_nil _ _ _ _⟩
  | true =>
    obtain ⟨hgood, h0, -⟩ := po.set_all HSB.out.symm
    have hdata : ∀ x ∈ set, dt.chkI 33 x.data = 0 := fun x hx => po.good_data (hgood x hx)
    have HD := Lib.hid hdata
    obtain ⟨rb, hrb⟩ : ∃ rb, rb = po.rootB set := ⟨_, rfl⟩
    have HRB := Lib.hid hrb
    clear hgood hdata hrb
    go_upto_region 3 with fail
    go_cut [35] (fun t wx => t = .bool rb ∧ w1 = wx)
    case first =>
      by_cases h1 : set.length = 1
      · have e1 : ((set.length : Int) == 1) = true := by rw [beq_iff_eq]; omega
        obtain ⟨b, off, cp, hvv, -⟩ := recs_some (HV.out.below HB1.out) h0
        simp only [Value.slice.injEq, true_and] at hvv
        obtain ⟨rfl, rfl⟩ := hvv
        obtain ⟨_, c0, c1, c2, c3, c4⟩ := cells_at (HV.out.below HB1.out) h0
        simp only [Nat.zero_mul, Nat.add_zero] at c4
        obtain ⟨x, hx⟩ : ∃ x, x = set[0] := ⟨_, rfl⟩
        rw [← hx] at c4
        have hset : set = [x] := by
          obtain ⟨y, hy⟩ := List.length_eq_one_iff.1 h1
          have hy0 : set[0] = y := by simp [hy]
          rw [hx, hy0]
          exact hy
        obtain ⟨_, _, _, _, _, _, _, q4, q5, _⟩ := po.srv_data (HD.out x (by rw [hset]; exact List.mem_singleton.2 rfl))
        have hrb : rb = decide ((x.data.extract 6 x.data.size).toList = [0]) := by
          rw [HRB.out]
          unfold po.rootB
          rw [hset]
          simp
        have HRB2 := Lib.hid hrb
        have h0i : (0 : Int) < (set.length : Int) := by omega
        have q6 : (6 : Int) ≤ (x.data.size : Int) := by omega
        clear c0 c1 c2 c3 hx hset hrb h1
        by_cases hs : (x.data.extract 6 x.data.size).toList = [0]
        · have f1 : ((x.data.extract 6 x.data.size).toList == [0]) = true := by rw [beq_iff_eq]; exact hs
          have HS := Lib.hid hs
          clear hs
          go_wp2_with fail
          go_meet
          exact ⟨by rw [HRB2.out, decide_eq_true HS.out], rfl⟩
        · have f1 : ((x.data.extract 6 x.data.size).toList == [0]) = false := by rw [beq_eq_false_iff_ne]; exact hs
          have HS := Lib.hid hs
          clear hs
          go_wp2_with fail
          go_meet
          exact ⟨by rw [HRB2.out, decide_eq_false HS.out], rfl⟩
      · have e1 : ((set.length : Int) == 1) = false := by rw [beq_eq_false_iff_ne]; omega
        have hrb : rb = false := by
          rw [HRB.out]; unfold po.rootB
          exact decide_eq_false (fun h => h1 h.1)
        have HRB2 := Lib.hid hrb
        clear hrb h1
        go_wp2_with fail
        go_meet
        exact ⟨by rw [HRB2.out], rfl⟩
    case rest =>
      obtain ⟨rfl, rfl⟩ := hcut
      cases rb with
      | true =>
        go_wp2_with fail
        go_ret2
        exact ⟨_, _, [], rfl, HB1.out, .root HSB.out.symm HRB.out.symm, World.ownsRow_nil _ _ _ _⟩
      | false =>
        obtain ⟨b, off, cp, hvv, -⟩ := recs_some (HV.out.below HB1.out) h0
        simp only [Value.slice.injEq, true_and] at hvv
        obtain ⟨rfl, rfl⟩ := hvv
        obtain ⟨hsn, hcell⟩ := recs_cells (HV.out.below HB1.out)
        have hone := recs_one set
        have hln := recsC_len set
        have hnl : World.ownsRow w1 w1.heap.size 42 5 (.slice none 0 0) 0 [] := World.ownsRow_nil _ _ _ _
        have hnews : ∀ j u, (recsC set)[j]? = some u → w1.cell? ((⟨b, off, none⟩ : Addr).add j) = some u := fun j u hu => by rw [Addr.add_lit]; exact hcell j u hu
        have p1 : 0 + set.length ≤ maxLen := by unfold maxLen; omega
        have p2 : (0 + set.length) * 56 ≤ 140737488355328 := by omega
        have HONE := Lib.hid hone; have HLN := Lib.hid hln; have HNL := Lib.hid hnl; have HNEWS := Lib.hid hnews; have P1 := Lib.hid p1; have P2 := Lib.hid p2; have HCELL := Lib.hid hcell; have HSN := Lib.hid hsn
        clear hone hln hnl hnews p1 p2 hcell hsn
        go_wp2_with (at_builtin; refine wpList_append_new _ rfl _ _ 22 rfl w1.heap.size 42 i0_r (.agg #[.string ⟨#[]⟩, .int .i64 0, .int .i64 0, .int .i64 0, .string ⟨#[]⟩]) 5 56 Tryz.underlying22 HI_r.out HZ_r.out HZ1_r.out HZ2_r.out rfl (by decide) _ _ _ rfl HNL.out ⟨b, off, none⟩ set.length cap (recsC set) rfl HLN.out HNEWS.out HONE.out P1.out P2.out (Nat.le_refl _) ?_)
        intro v0 w2 hown2 hg2 hnn2
        have HB2 := Lib.hid (HB1.out.trans (((Below.refl w1.heap.size w1).grown hg2 (Nat.le_refl _) (fun j hj => by cases hj)).mono HB1.out.size))
        have HOWN2 := Lib.hid (ownsRow_base (show w2.ownsRow w1.heap.size 42 5 v0 set.length (recsC set) from by simpa using hown2) HB1.out.size)
        obtain ⟨lva, lcap, hlv, -⟩ := owns_recs HOWN2.out
        subst hlv
        clear hown2 hg2 hnn2 P1 P2 HNEWS HCELL h0
        go_wp2_with fail
        go_loopw [1, 6, 7] (fun rv lv ov wr => ∃ l O rs la lc, lv = .slice la (l : List Rec).length lc ∧ Hid (RPickI set rolls w wr l O rs lv rv ov)) (fun _ lv _ _ => sliceN lv)
        case atStart =>
          exact ⟨set, [], rolls, _, _, rfl, Lib.hid ⟨HB2.out, HOWN2.out, World.ownsRow_nil _ _ _ _, fun b hb => by simp [Value.ownBlock] at hb, HRV.out, HZ.out, hrl, by simp, HD.out, fun L h => h⟩⟩
        case round =>
          obtain ⟨l, O, rs, la, lc, rfl, HI⟩ := hrel
          have hlen := HI.out.len
          obtain ⟨ra1, rc1, hrv1, hrc1, -⟩ := HI.out.ints
          subst hrv1
          obtain ⟨wo, hwo⟩ : ∃ X : World, X = wr := ⟨_, rfl⟩
          subst hwo
          by_cases h0 : 0 < l.length
          · obtain ⟨g, cg, hlv, -, -⟩ := HI.out.left.form h0
            simp only [Value.slice.injEq, true_and] at hlv
            obtain ⟨rfl, rfl⟩ := hlv
            have h0i : (0 : Int) < (l.length : Int) := by omega
            have hl3 : l.length * 56 ≤ 1099511627776 := by omega
            have HRL := Lib.hid (owns_recs HI.out.left)
            go_wp2_with fail
            go_loopw [43, 8] (fun jv mv wr => ∃ j : Nat, j ≤ l.length ∧ jv = .int .i64 (j : Int) ∧ mv = .int .i64 (po.leastF (l.take j) 65536) ∧ Hid (Below wo.heap.size wo wr)) (fun jv _ _ => l.length - (intOf jv).toNat)
            case atStart => exact ⟨0, Nat.zero_le _, rfl, rfl, Lib.hid (Below.refl _ _)⟩
            case round =>
              obtain ⟨j, hj, rfl, rfl, HB3⟩ := hrel
              obtain ⟨w3, hw3⟩ : ∃ X : World, X = wr := ⟨_, rfl⟩
              subst hw3
              obtain ⟨m, hm⟩ : ∃ m, m = po.leastF (l.take j) 65536 := ⟨_, rfl⟩
              have HM := Lib.hid hm
              rw [← hm]
              clear hm
              by_cases hlt : j < l.length
              · have hji : (j : Int) < (l.length : Int) := by omega
                obtain ⟨_, c0, c1, c2, c3, c4⟩ := cells_at (HRL.out.below HB3.out) hlt
                simp only [Nat.zero_add] at c0 c1 c2 c3 c4
                obtain ⟨x, hx⟩ : ∃ x, x = l[j] := ⟨_, rfl⟩
                rw [← hx] at c0 c1 c2 c3 c4
                obtain ⟨wa, hwa⟩ : ∃ W, W = w3.alloc (.cells (recC x).toArray 42) := ⟨_, rfl⟩
                obtain ⟨hBa, hsa, hxa⟩ := rec_new w3 wa x hwa
                obtain ⟨x0, x1, x2, x3, x4⟩ := hxa
                have CX := Lib.hid (rnum_call (HI.out.data x (by rw [hx]; exact List.getElem_mem _)) 0 (by omega) wa)
                obtain ⟨p, hp⟩ : ∃ p, p = po.numI x.data 0 := ⟨_, rfl⟩
                rw [← hp] at CX
                have hnx : po.leastF (l.take (j + 1)) 65536 = if p < m then p else m := by
                  rw [List.take_succ_eq_append_getElem hlt, po.leastF_snoc, ← HM.out, ← hx, ← hp]
                have HWA := Lib.hid hwa; have HNX := Lib.hid hnx
                have HB4 := Lib.hid (HB3.out.trans (hBa.mono HB3.out.size))
                clear hwa hnx hBa hsa hx hp x0 x1 x2 x3
                go_upto_region 12 with fail
                rw [← HWA.out]
                clear c0 c1 c2 c3 c4
                go_wp2_with fail
                refine CX.out.mono ?_
                rintro e w4 ⟨rfl, rfl⟩
                clear x4
                by_cases hpm : p < m
                · have HN2 := Lib.hid (HNX.out.trans (if_pos hpm))
                  go_wp2_with fail
                  go_roundw
                  case rel => exact ⟨j + 1, by omega, by go_num, by rw [HN2.out], HB4⟩
                  case measure => simp [intOf]; omega
                · have HN2 := Lib.hid (HNX.out.trans (if_neg hpm))
                  go_wp2_with fail
                  go_roundw
                  case rel => exact ⟨j + 1, by omega, by go_num, by rw [HN2.out], HB4⟩
                  case measure => simp [intOf]; omega
              · obtain rfl : l.length = j := by omega
                have HM2 := Lib.hid (show m = po.leastF l 65536 by rw [HM.out, List.take_length])
                clear hlt hj
                go_wp2_with fail
                go_loopw [14, 12, 13] (fun pv rw sv wr => ∃ p : Nat, p ≤ 2 ∧ pv = .int .i64 (p : Int) ∧ sv = .int .i64 (po.sumR (po.rowsAt l m p)) ∧ Hid (Below wo.heap.size wo wr ∧ wr.ownsRow wo.heap.size 3 1 rw (po.rowsAt l m p).length (po.ints (po.rowsAt l m p)))) (fun pv _ _ _ => 2 - (intOf pv).toNat)
                case atStart => exact ⟨0, by omega, rfl, rfl, Lib.hid ⟨HB3.out, World.ownsRow_nil _ _ _ _⟩⟩
                case round =>
                  obtain ⟨p, hp, rfl, rfl, HP⟩ := hrel
                  obtain ⟨w5, hw5⟩ : ∃ X : World, X = wr := ⟨_, rfl⟩
                  subst hw5
                  obtain ⟨R0, hR0⟩ : ∃ R0, R0 = po.rowsAt l m p := ⟨_, rfl⟩
                  have hRl := po.rows_len l m p
                  rw [← hR0] at hRl
                  have HR0 := Lib.hid hR0
                  rw [← hR0]
                  obtain ⟨s0, hs0⟩ : ∃ s0, s0 = po.sumR R0 := ⟨_, rfl⟩
                  have HS0 := Lib.hid hs0
                  rw [← hs0]
                  have HROW0 := Lib.hid (show w5.ownsRow wo.heap.size 3 1 _ R0.length (po.ints R0) from by rw [HR0.out]; exact HP.out.2)
                  clear hR0 hs0
                  by_cases hp2 : p < 2
                  · have hpi : (p : Int) < 2 := by omega
                    have hRl2 : R0.length ≤ 2 * l.length := Nat.le_trans hRl (Nat.mul_le_mul_right _ hp)
                    obtain ⟨z, hz⟩ : ∃ z, z = decide (p = 0) := ⟨_, rfl⟩
                    have fz : ((p : Int) == 0) = z := by rw [hz]; by_cases h : p = 0 <;> simp [h]
                    have HZ2 := Lib.hid hz
                    clear hz hRl
                    go_wp2_with fail
                    go_loopw [61, 12, 13] (fun jv rw sv wr => ∃ (j : Nat) (R : List (Rec × Nat)), j ≤ l.length ∧ R.length ≤ 2 * l.length + j ∧ jv = .int .i64 (j : Int) ∧ sv = .int .i64 (po.sumR R) ∧ Hid (R = R0 ++ (l.zipIdx.take j).filter (po.inRow m z) ∧ Below wo.heap.size wo wr ∧ wr.ownsRow wo.heap.size 3 1 rw R.length (po.ints R))) (fun jv _ _ _ => l.length - (intOf jv).toNat)
                    case atStart => exact ⟨0, R0, Nat.zero_le _, by omega, rfl, by rw [HS0.out], Lib.hid ⟨by simp, HP.out.1, HROW0.out⟩⟩
                    case round =>
                      obtain ⟨j, R, hj, hRj, rfl, rfl, HJ⟩ := hrel
                      obtain ⟨w6, hw6⟩ : ∃ X : World, X = wr := ⟨_, rfl⟩
                      subst hw6
                      obtain ⟨s1, hs1⟩ : ∃ s1, s1 = po.sumR R := ⟨_, rfl⟩
                      have HS1 := Lib.hid hs1
                      have hsb := po.sumR_bd R
                      rw [← hs1] at hsb ⊢
                      obtain ⟨sb0, sb1⟩ := hsb
                      have sb2 : s1 ≤ 6553500000000000000 := by omega
                      clear hs1 sb1
                      by_cases hlt : j < l.length
                      · have hji : (j : Int) < (l.length : Int) := by omega
                        obtain ⟨_, c0, c1, c2, c3, c4⟩ := cells_at (HRL.out.below HJ.out.2.1) hlt
                        simp only [Nat.zero_add] at c0 c1 c2 c3 c4
                        obtain ⟨x, hx⟩ : ∃ x, x = l[j] := ⟨_, rfl⟩
                        rw [← hx] at c0 c1 c2 c3 c4
                        obtain ⟨wa, hwa⟩ : ∃ W, W = w6.alloc (.cells (recC x).toArray 42) := ⟨_, rfl⟩
                        obtain ⟨hBa, hsa, hxa⟩ := rec_new w6 wa x hwa
                        obtain ⟨x0, x1, x2, x3, x4⟩ := hxa
                        have hxd := HI.out.data x (by rw [hx]; exact List.getElem_mem _)
                        have CX := Lib.hid (rnum_call hxd 0 (by omega) wa)
                        have CW := Lib.hid (rnum_call hxd 1 (by omega) wa)
                        obtain ⟨q, hq⟩ : ∃ q, q = po.numI x.data 0 := ⟨_, rfl⟩
                        obtain ⟨v, hv⟩ : ∃ v, v = po.numI x.data 1 := ⟨_, rfl⟩
                        have hvb := po.num_bd x.data 1
                        rw [← hq] at CX
                        rw [← hv] at CW hvb
                        obtain ⟨v0, v1⟩ := hvb
                        obtain ⟨bv, hbv⟩ : ∃ bv, bv = (v == 0) := ⟨_, rfl⟩
                        obtain ⟨bq, hbq⟩ : ∃ bq, bq = (q == m) := ⟨_, rfl⟩
                        obtain ⟨bz, hbz⟩ : ∃ bz, bz = (bv == z) := ⟨_, rfl⟩
                        have fv : (v == 0) = bv := hbv.symm
                        have fq : (q == m) = bq := hbq.symm
                        have fb : (bv == z) = bz := hbz.symm
                        have hin : po.inRow m z (l[j], j) = (bq && bz) := by
                          unfold po.inRow
                          simp only
                          rw [← hx, ← hq, ← hv, hbz, hbv, hbq]
                          congr 1
                        have hnx := po.filt_next l (po.inRow m z) hlt
                        rw [hin] at hnx
                        have HX := Lib.hid hx; have HWA := Lib.hid hwa; have HNX := Lib.hid hnx; have HV2 := Lib.hid hv
                        have HBa := Lib.hid (HJ.out.2.1.trans (hBa.mono HJ.out.2.1.size))
                        have HROWa := Lib.hid (ownsRow_below HJ.out.2.2 hBa)
                        have HPZ := Lib.hid (show (l.zipIdx.take j).filter (po.inRow m z) = (l.zipIdx.take j).filter (po.inRow m z) from rfl)
                        clear hwa hnx hBa hsa hx hq hv hbv hbq hbz hin hxd x0 x1 x2 x3
                        go_upto_region 24 with fail
                        rw [← HWA.out]
                        clear c0 c1 c2 c3 c4
                        go_wp2_with fail
                        refine CW.out.mono ?_
                        rintro e w7 ⟨rfl, rfl⟩
                        go_wp2_with fail
                        refine CX.out.mono ?_
                        rintro e w7 ⟨rfl, rfl⟩
                        clear x4
                        cases bq with
                        | false =>
                          have HN2 := Lib.hid (show (l.zipIdx.take (j + 1)).filter (po.inRow m z) = (l.zipIdx.take j).filter (po.inRow m z) by rw [HNX.out]; simp)
                          go_wp2_with fail
                          go_roundw
                          case rel => exact ⟨j + 1, R, by omega, by omega, by go_num, by rw [HS1.out], Lib.hid ⟨by rw [HN2.out]; exact HJ.out.1, HBa.out, HROWa.out⟩⟩
                          case measure => simp [intOf]; omega
                        | true =>
                          cases bz with
                          | false =>
                            have HN2 := Lib.hid (show (l.zipIdx.take (j + 1)).filter (po.inRow m z) = (l.zipIdx.take j).filter (po.inRow m z) by rw [HNX.out]; simp)
                            go_wp2_with fail
                            go_roundw
                            case rel => exact ⟨j + 1, R, by omega, by omega, by go_num, by rw [HS1.out], Lib.hid ⟨by rw [HN2.out]; exact HJ.out.1, HBa.out, HROWa.out⟩⟩
                            case measure => simp [intOf]; omega
                          | true =>
                            have HN2 := Lib.hid (show (l.zipIdx.take (j + 1)).filter (po.inRow m z) = (l.zipIdx.take j).filter (po.inRow m z) ++ [(x, j)] by rw [HNX.out, ← HX.out]; simp)
                            have HB_a := Lib.hid (HBa.out.alloc HBa.out.size (.cells #[.int .i64 (j:Int)] 3))
                            have HO_a := Lib.hid (ownsRow_keepOne HROWa.out fun b hb => Below.heap_alloc wa (.cells #[.int .i64 (j:Int)] 3) b (HROWa.out.lt b hb).2)
                            have P1_a := Lib.hid (show R.length + 1 ≤ maxLen from by unfold maxLen; omega)
                            have P2_a := Lib.hid (show (R.length + 1) * 8 ≤ 140737488355328 from by omega)
                            have P3_a := Lib.hid (show wo.heap.size ≤ (wa.alloc (.cells #[.int .i64 (j:Int)] 3)).heap.size from by have := HBa.out.size; simp; omega)
                            go_wp2_with (at_builtin; refine wpList_append_new _ rfl _ _ 23 rfl wo.heap.size 3 i0_i (.int .i64 0) 1 8 Tryz.underlying23 HI_i.out HZ_i.out HZ1_i.out HZ2_i.out rfl (by decide) _ _ _ rfl HO_a.out ⟨wa.heap.size, 0, none⟩ 1 1 [.int .i64 (j:Int)] rfl rfl (cell_one_new _ _ _) (by simp [Value.oneCell']) P1_a.out P2_a.out P3_a.out ?_)
                            intro v' w10 hown10 hg10 hnn10
                            have HB10 := Lib.hid (HB_a.out.grown hg10 P3_a.out (fun j hj => (HO_a.out.lt j hj).1))
                            have HOWN10 := Lib.hid hown10; have HG10 := Lib.hid hg10; have HNN10 := Lib.hid hnn10
                            clear hown10 hg10 hnn10 HB_a HO_a P1_a P2_a P3_a
                            go_wp2_with fail
                            go_roundw
                            case rel =>
                              refine ⟨j + 1, R ++ [(x, j)], by omega, by rw [List.length_append, List.length_singleton]; omega, by go_num, ?_, Lib.hid ⟨by rw [HN2.out, HJ.out.1, List.append_assoc], HB10.out, ?_⟩⟩
                              · rw [po.sumR_snoc, ← HS1.out, ← HV2.out]
                              · rw [List.length_append, List.length_singleton]
                                have h1 : po.ints (R ++ [(x, j)]) = po.ints R ++ [.int .i64 (j : Int)] := by unfold po.ints; simp
                                rw [h1]
                                exact HOWN10.out
                            case measure => simp [intOf]; omega
                      · obtain rfl : l.length = j := by omega
                        have HRR := Lib.hid (show R = po.rowsAt l m (p + 1) by
                          rw [HJ.out.1, HR0.out, po.rows_next l m hp2, ← HZ2.out, List.take_of_length_le (by rw [List.length_zipIdx]; exact Nat.le_refl _)])
                        clear hlt
                        go_wp2_with fail
                        go_roundw
                        case rel => exact ⟨p + 1, by omega, by go_num, by rw [← HRR.out, HS1.out], Lib.hid ⟨HJ.out.2.1, by rw [← HRR.out]; exact HJ.out.2.2⟩⟩
                        case measure => simp [intOf]; omega
                  · obtain rfl : p = 2 := by omega
                    have hRP : R0 = po.rowP l := by
                      rw [HR0.out, HM2.out]; rfl
                    have HRP := Lib.hid hRP
                    have hsb := po.sumR_bd R0
                    rw [← HS0.out] at hsb
                    obtain ⟨c0, c1⟩ := hsb
                    have c2 : s0 ≤ 6553500000000000000 := by omega
                    obtain ⟨rwa, rwc, hrw, hrwc⟩ := ownsRow_len HROW0.out
                    subst hrw
                    have HBP := Lib.hid HP.out.1
                    clear hp2 hp hRP HP c1
                    obtain ⟨x0, hx0⟩ : ∃ x, x = rs.headD 0 := ⟨_, rfl⟩
                    have hx0b : I64 x0 := by
                      rw [hx0]
                      cases rs with
                      | nil => exact ⟨by decide, by decide⟩
                      | cons z t => exact HI.out.i64 z (List.mem_cons_self ..)
                    have HX0 := Lib.hid hx0
                    obtain ⟨xl, xh⟩ := hx0b
                    clear hx0
                    go_upto_if 91 with fail
                    go_cut [1, 18] (fun rv xv wx => xv = .int .i64 x0 ∧ IntsC w rv rs.tail ∧ w5 = wx)
                    case first =>
                      have hz0 := HI.out.ints
                      have hz := hz0.below (HI.out.below.trans (HBP.out.mono HI.out.below.size))
                      by_cases hpos : 0 < rs.length
                      · obtain ⟨_, _, hv, _, hcells⟩ := id hz0
                        simp only [Value.slice.injEq, true_and] at hv
                        obtain ⟨rfl, rfl⟩ := hv
                        obtain ⟨b2, off2, rfl, hb, -⟩ := hcells 0 hpos
                        obtain ⟨_, _, hv2, _, hcells2⟩ := hz
                        simp only [Value.slice.injEq, true_and] at hv2
                        obtain ⟨rfl, rfl⟩ := hv2
                        obtain ⟨b3, off3, he2, -, c00⟩ := hcells2 0 hpos
                        simp only [Option.some.injEq, Addr.mk.injEq, and_true] at he2
                        obtain ⟨rfl, rfl⟩ := he2
                        have hx0' : rs[0] = x0 := by
                          rw [HX0.out]
                          cases rs with
                          | nil => simp at hpos
                          | cons z t => rfl
                        rw [hx0', Nat.add_zero] at c00
                        have htl : rs.tail.length = rs.length - 1 := List.length_tail
                        have hposi : (0 : Int) < (rs.length : Int) := by omega
                        have hpos1 : (1 : Int) ≤ (rs.length : Int) := by omega
                        by_cases hone : rc1 = 1
                        · have hl1 : rs.length = 1 := by omega
                          have hend : IntsC w (.slice (some ⟨b2, off2, none⟩) 0 0) rs.tail := by
                            have : rs.tail = [] := List.eq_nil_of_length_eq_zero (by omega)
                            rw [this]
                            exact ⟨_, 0, rfl, Nat.le_refl _, fun k hk => absurd hk (Nat.not_lt_zero _)⟩
                          have HE := Lib.hid hend
                          have h1c : (1 : Int) = (rc1 : Int) := by omega
                          have HL1 := Lib.hid hl1; have HON := Lib.hid hone
                          clear hend hcells hcells2 hz0 htl hx0' hl1 hone hb
                          go_wp2_with fail
                          go_meet
                          exact ⟨rfl, HE.out, rfl⟩
                        · have hend : IntsC w (.slice (some ⟨b2, off2 + 1, none⟩) (rs.length - 1) (rc1 - 1)) rs.tail := by
                            rw [← htl]
                            refine ⟨_, rc1 - 1, rfl, by omega, fun k hk => ⟨b2, off2 + 1, rfl, hb, ?_⟩⟩
                            obtain ⟨b', off', he, _, hc⟩ := hcells (k + 1) (by omega)
                            simp only [Option.some.injEq, Addr.mk.injEq, and_true] at he
                            obtain ⟨rfl, rfl⟩ := he
                            rw [List.getElem_tail, Nat.add_assoc, Nat.add_comm 1 k]
                            exact hc
                          have HE := Lib.hid hend
                          have h1c : ¬ (1 : Int) = (rc1 : Int) := by omega
                          have h1d : ¬ rc1 = 1 := hone
                          clear hend hcells hcells2 hz0 htl hx0' hone hb
                          go_wp2_with fail
                          go_meet
                          exact ⟨rfl, HE.out, rfl⟩
                      · have e0 : rs = [] := List.eq_nil_of_length_eq_zero (by omega)
                        have e1 : x0 = 0 := by rw [HX0.out, e0]; rfl
                        have hposi : ¬ (0 : Int) < (rs.length : Int) := by omega
                        have ht : IntsC w (.slice ra1 rs.length rc1) rs.tail := by
                          have : rs.tail = rs := by rw [e0]; rfl
                          rw [this]; exact hz0
                        have E1 := Lib.hid e1; have HZ0 := Lib.hid ht
                        clear hz hz0 e0 e1 hpos ht
                        go_wp2_with fail
                        go_meet
                        exact ⟨by rw [E1.out], HZ0.out, rfl⟩
                    case rest =>
                      obtain ⟨rfl, hi7, rfl⟩ := hcut
                      have HI7 := Lib.hid hi7
                      clear hi7
                      obtain ⟨xa, hxa⟩ : ∃ xa, xa = if x0 < 0 then -(x0 + 1) else x0 := ⟨_, rfl⟩
                      have xa0 : 0 ≤ xa := by rw [hxa]; split <;> omega
                      have xa1 : xa ≤ 9223372036854775807 := by rw [hxa]; split <;> omega
                      have HXA := Lib.hid hxa
                      clear hxa
                      go_upto_if 98 with fail
                      go_cut [18] (fun v wx => v = .int .i64 xa ∧ w5 = wx)
                      case first =>
                        by_cases hneg : x0 < 0
                        · have he : xa = -(x0 + 1) := by rw [HXA.out, if_pos hneg]
                          have HE := Lib.hid he
                          clear he
                          go_wp2_with fail
                          go_meet
                          exact ⟨by rw [HE.out], rfl⟩
                        · have he : xa = x0 := by rw [HXA.out, if_neg hneg]
                          have HE := Lib.hid he
                          clear he
                          go_wp2_with fail
                          go_meet
                          exact ⟨by rw [HE.out], rfl⟩
                      case rest =>
                        obtain ⟨rfl, rfl⟩ := hcut
                        have hroll : po.rollI rs s0 = xa % (s0 + 1) := by
                          unfold po.rollI
                          rw [← HX0.out, ← HXA.out]
                        obtain ⟨r, hr⟩ : ∃ r, r = xa % (s0 + 1) := ⟨_, rfl⟩
                        rw [← hr] at hroll
                        have r0 : 0 ≤ r := by rw [hr]; exact Int.emod_nonneg _ (by omega)
                        have r1 : r ≤ s0 := by have := Int.emod_lt_of_pos xa (show 0 < s0 + 1 by omega); omega
                        have HROLL := Lib.hid hroll
                        clear hroll
                        go_upto_region 36 with fail
                        rw [← hr]
                        have HR1 := Lib.hid hr
                        clear hr
                        obtain ⟨C, hC⟩ : ∃ C, C = R0.map (·.1) := ⟨_, rfl⟩
                        have HC := Lib.hid hC
                        have hCl : C.length = R0.length := by rw [hC, List.length_map]
                        have HS2 := Lib.hid (show s0 = po.cum C R0.length by rw [HS0.out, po.sum_cum, ← hC])
                        have HRN := Lib.hid (show 0 < R0.length by rw [HRP.out]; exact po.row_pos h0)
                        have HCL := Lib.hid hCl
                        clear hC hCl
                        go_wp2_with fail
                        go_loopw [6, 7, 108, 19] (fun lv ov iv sv wr => ∃ i : Nat, i ≤ R0.length ∧ lv = .slice (some ⟨g, 0, none⟩) l.length lc ∧ ov = u7 ∧ iv = .int .i64 (i : Int) ∧ sv = .int .i64 (po.cum C i) ∧ Hid (w5 = wr ∧ ∀ j, j < i → po.cum C (j + 1) < r)) (fun _ _ iv _ _ => R0.length - (intOf iv).toNat)
                        case atStart => exact ⟨0, Nat.zero_le _, rfl, rfl, rfl, by rw [po.cum_zero], Lib.hid ⟨rfl, fun j hj => absurd hj (Nat.not_lt_zero _)⟩⟩
                        case round =>
                          obtain ⟨i, hi, rfl, rfl, rfl, rfl, HK⟩ := hrel
                          have hwr := HK.out.1
                          subst hwr
                          obtain ⟨so, hso⟩ : ∃ so, so = po.cum C i := ⟨_, rfl⟩
                          have hcb := po.cum_bd C i
                          rw [← hso] at hcb ⊢
                          obtain ⟨t0, t1⟩ := hcb
                          have t2 : so ≤ 6553500000000000000 := by omega
                          have HSO := Lib.hid hso
                          clear hso t1
                          by_cases hil : i < R0.length
                          · have hili : (i : Int) < (R0.length : Int) := by omega
                            obtain ⟨k, hk⟩ : ∃ k, k = (R0[i]).2 := ⟨_, rfl⟩
                            obtain ⟨x, hx⟩ : ∃ x, x = (R0[i]).1 := ⟨_, rfl⟩
                            have hat : ∃ hkl : k < l.length, l[k] = x := by
                              have := po.row_at (l := l) (i := i) (by rw [← HRP.out]; exact hil)
                              obtain ⟨a1, a2⟩ := this
                              have e1 : (po.rowP l)[i]'(by rw [← HRP.out]; exact hil) = R0[i] := by simp only [HRP.out]
                              simp only [e1] at a1 a2
                              rw [hk, hx]
                              exact ⟨a1, a2⟩
                            obtain ⟨hkl, hkx⟩ := hat
                            have hkli : (k : Int) < (l.length : Int) := by omega
                            obtain ⟨ga, gc, hgv, hgi⟩ : ∃ b off, rwa = some ⟨b, off, none⟩ ∧ w5.cell? ⟨b, off + i, none⟩ = some (.int .i64 (k : Int)) := by
                              obtain ⟨gg, gcap, hform, -, -⟩ := HROW0.out.form (by omega)
                              have hform2 := hform
                              simp only [Value.slice.injEq, true_and] at hform2
                              have hrow := HROW0.out
                              rw [hform] at hrow
                              have hcc := hrow.cellAt i (by rw [Nat.mul_one]; exact hil)
                              refine ⟨gg, 0, hform2.1, ?_⟩
                              rw [Nat.zero_add, hcc]
                              unfold po.ints
                              rw [List.getElem?_map, List.getElem?_eq_getElem hil, Option.map_some, hk]
                            subst hgv
                            obtain ⟨_, x0', x1', x2', x3', x4'⟩ := cells_at (HRL.out.below HBP.out) hkl
                            simp only [Nat.zero_add] at x0' x1' x2' x3' x4'
                            rw [hkx] at x0' x1' x2' x3' x4'
                            have CX := Lib.hid (rnum_call (HI.out.data x (by rw [← hkx]; exact List.getElem_mem _)) 1 (by omega) w5)
                            have hnx : po.cum C (i + 1) = so + po.numI x.data 1 := by
                              have := po.cum_next (l := C) (k := i) (by rw [HCL.out]; exact hil)
                              rw [this, ← HSO.out]
                              have e2 : C[i]'(by rw [HCL.out]; exact hil) = x := by simp only [HC.out, List.getElem_map]; exact hx.symm
                              rw [e2]
                            have hvb := po.num_bd x.data 1
                            obtain ⟨v, hv⟩ : ∃ v, v = po.numI x.data 1 := ⟨_, rfl⟩
                            rw [← hv] at CX hnx hvb
                            obtain ⟨v0, v1⟩ := hvb
                            have HNX := Lib.hid hnx; have HK2 := Lib.hid hk; have HX := Lib.hid hx; have HKX := Lib.hid hkx
                            clear hnx hk hx hv hkx
                            go_wp2_with fail
                            refine CX.out.mono ?_
                            rintro e w6 ⟨rfl, rfl⟩
                            by_cases hge : r ≤ so + v
                            · have HGE := Lib.hid hge
                              have HPK := Lib.hid (show po.PickAt C R0.length r i from ⟨hil, HK.out.2, by rw [HNX.out]; exact hge⟩)
                              have HB5w := Lib.hid (HI.out.below.trans (HBP.out.mono HI.out.below.size))
                              have HROWO := Lib.hid (ownsRow_below HI.out.out HBP.out)
                              have hleft := ownsRow_below HI.out.left HBP.out
                              have hO : O.length * 56 ≤ 1099511627776 := by omega
                              have HLA := Lib.hid (ownsRow_keepOne hleft fun b hb => Below.heap_alloc w5 (.cells (recC x).toArray 42) b (hleft.lt b hb).2)
                              clear hleft hgi
                              go_upto_region 42 with fail
                              have HB_a := Lib.hid (HB5w.out.alloc HB5w.out.size (.cells (recC x).toArray 42))
                              have HO_a := Lib.hid (ownsRow_keepOne HROWO.out fun b hb => Below.heap_alloc w5 (.cells (recC x).toArray 42) b (HROWO.out.lt b hb).2)
                              have P1_a := Lib.hid (show O.length + 1 ≤ maxLen from by unfold maxLen; omega)
                              have P2_a := Lib.hid (show (O.length + 1) * 56 ≤ 140737488355328 from by omega)
                              have P3_a := Lib.hid (show w.heap.size ≤ (w5.alloc (.cells (recC x).toArray 42)).heap.size from by have := HB5w.out.size; simp; omega)
                              have HNEWS_ := Lib.hid (news_at w5 (recC x) 42)
                              go_wp2_with (at_builtin; refine wpList_append_new _ rfl _ _ 22 rfl w.heap.size 42 i0_r (.agg #[.string ⟨#[]⟩, .int .i64 0, .int .i64 0, .int .i64 0, .string ⟨#[]⟩]) 5 56 Tryz.underlying22 HI_r.out HZ_r.out HZ1_r.out HZ2_r.out rfl (by decide) _ _ _ rfl HO_a.out ⟨w5.heap.size, 0, none⟩ 1 1 (recC x) rfl rfl HNEWS_.out (by simp [Value.oneCell']) P1_a.out P2_a.out P3_a.out ?_)
                              intro v' w10 hown10 hg10 hnn10
                              have HB10 := Lib.hid (HB_a.out.grown hg10 P3_a.out (fun j hj => (HO_a.out.lt j hj).1))
                              have HOWN10 := Lib.hid hown10; have HG10 := Lib.hid hg10; have HNN10 := Lib.hid hnn10
                              clear hown10 hg10 hnn10 HB_a HO_a P1_a P2_a P3_a HNEWS_
                              have HNG := Lib.hid (show v'.ownBlock ≠ some g from fun e => by
                                rcases HNN10.out g e with h | h
                                · exact HI.out.apart g h rfl
                                · have h2 := (HLA.out.lt g rfl).2
                                  first | exact absurd h (Nat.not_le_of_lt h2) | (simp at h h2; omega))
                              have HL10 := Lib.hid (ownsRow_keepOne HLA.out fun b hb => HG10.out.block b (HLA.out.lt b hb).2 (by
                                obtain rfl : g = b := by simpa [Value.ownBlock] using hb
                                first | exact fun e => HI.out.apart g e rfl | exact fun e => HI.out.apart g e.symm rfl))
                              clear x0' x1' x2' x3' x4'
                              obtain ⟨_, _, hv0, hlc⟩ := ownsRow_len HL10.out
                              simp only [Value.slice.injEq, true_and] at hv0
                              obtain ⟨rfl, rfl⟩ := hv0
                              obtain ⟨k1, hk1⟩ : ∃ k1, k1 = k + 1 := ⟨_, rfl⟩
                              have ek : (k : Int) + 1 = (k1 : Int) := by omega
                              have ew : IntKind.i64.wrap (k1 : Int) = (k1 : Int) := by rw [IntKind.wrap_i64]; omega
                              have b1 : (k : Int) ≤ (lc : Int) := by omega
                              have b2 : (k1 : Int) ≤ (l.length : Int) := by omega
                              have b3 : (0 : Int) ≤ (k : Int) := by omega
                              have b4 : (0 : Int) ≤ (k1 : Int) := by omega
                              have b5 : (l.length : Int) ≤ (lc : Int) := by omega
                              have b6 : (k1 : Int) ≤ (lc : Int) := by omega
                              have HK1 := Lib.hid hk1
                              have HNIL := Lib.hid (show w10.drew.ownsRow w10.drew.heap.size 42 5 (.slice none 0 0) 0 [] from World.ownsRow_nil _ _ _ _)
                              have S1 := Lib.hid (show (recsC (l.take k)).length = k * 5 by rw [recsC_len, List.length_take]; omega)
                              have S2 := Lib.hid (recs_one (l.take k))
                              have N1 := Lib.hid (show ∀ j u, (recsC (l.take k))[j]? = some u → w10.drew.cell? ((⟨g, 0, none⟩ : Addr).add j) = some u from fun j u hu => by
                                have hj := (List.getElem?_eq_some_iff.1 hu).1
                                rw [S1.out] at hj
                                have h5 := Nat.mul_le_mul_right 5 (show k ≤ l.length by omega)
                                rw [Addr.add_lit, Nat.zero_add]
                                show w10.cell? _ = _
                                rw [HL10.out.cellAt j (by omega), ← hu, ← recsC_take, List.getElem?_take, if_pos hj])
                              have S3 := Lib.hid (show (recsC (l.drop k1)).length = (l.length - k1) * 5 by rw [recsC_len, List.length_drop])
                              have S4 := Lib.hid (recs_one (l.drop k1))
                              have EN := Lib.hid (show 0 + k + (l.length - k1) = (l.eraseIdx k).length by rw [List.length_eraseIdx, if_pos hkl]; omega)
                              have HMS := Lib.hid (show (l.eraseIdx k).length < l.length by rw [List.length_eraseIdx, if_pos hkl]; omega)
                              clear hk1
                              by_cases hcc : lc = k1
                              · subst hcc
                                have D0 := Lib.hid (show l.length = lc from by omega)
                                have S0 := Lib.hid (show (recsC (l.drop lc)).length = 0 * 5 by have := S3.out; omega)
                                have EN2 := Lib.hid (show 0 + k + 0 = (l.eraseIdx k).length by have := EN.out; omega)
                                have NEWS := Lib.hid (fun (W : World) => (fun j u hu => by
                                  have hj := (List.getElem?_eq_some_iff.1 hu).1
                                  rw [S0.out] at hj
                                  omega : ∀ j u, (recsC (l.drop lc))[j]? = some u → W.cell? ((⟨g, 0, none⟩ : Addr).add j) = some u))
                                go_upto_region 43 with fail
                                go_region_law (first
                                  | (refine step_append_new rfl (.const (.slice none 0 0)) (.tmp 132) 22 rfl w10.drew.heap.size 42 i0_r (.agg #[.string ⟨#[]⟩, .int .i64 0, .int .i64 0, .int .i64 0, .string ⟨#[]⟩]) 5 56 Tryz.underlying22 HI_r.out HZ_r.out HZ1_r.out HZ2_r.out rfl (by decide) (.slice none 0 0) 0 [] (by simp [Act.eval]) HNIL.out ⟨g, 0, none⟩ k lc (recsC (l.take k)) (by simp [Act.eval, Act.put]) S1.out N1.out S2.out (by unfold maxLen; omega) (by omega) (Nat.le_refl _) ?_; intro v1 w11 hown11 hg11 hnn11)
                                  | (refine step_append_new rfl (.tmp 133) (.tmp 137) 22 rfl w10.drew.heap.size 42 i0_r (.agg #[.string ⟨#[]⟩, .int .i64 0, .int .i64 0, .int .i64 0, .string ⟨#[]⟩]) 5 56 Tryz.underlying22 HI_r.out HZ_r.out HZ1_r.out HZ2_r.out rfl (by decide) v1 (0 + k) ([] ++ recsC (l.take k)) (by simp [Act.eval]) hown11 ⟨g, 0, none⟩ 0 0 (recsC (l.drop lc)) (by simp [Act.eval]) S0.out (NEWS.out _) S4.out (by unfold maxLen; omega) (by omega) hg11.size ?_; intro v2 w12 hown12 hg12 hnn12))
                                rw [EN2.out] at hown12
                                obtain ⟨va, vc, hv2, -⟩ := ownsRow_len hown12
                                subst hv2
                                have HNXT := Lib.hid (rpick_next HI.out HRP.out HC.out HS2.out HROLL.out hil HPK.out HK2.out HX.out HK1.out hkl rfl HB10.out HOWN10.out HI7.out hg11 hnn11 hown12 hg12)
                                clear hown12 hg12 hnn12 hown11 hg11 hnn11
                                go_wp2_with fail
                                go_roundw
                                case rel =>
                                  repeat apply Exists.intro
                                  refine And.intro ?_ ?_
                                  rotate_left
                                  · repeat (first | exact rfl | refine And.intro rfl ?_)
                                  exact ⟨_, _, _, _, _, rfl, HNXT⟩
                                case measure => exact HMS.out
                              · have hcd : ¬ (k1 : Int) = (lc : Int) := by omega
                                go_upto_region 43 with fail
                                have KEEP := Lib.hid (fun (W : World) (hW : w10.drew.grownBy W none) => ownsRow_keepOne (show w10.drew.ownsRow w.heap.size 42 5 (.slice (some ⟨g, 0, none⟩) l.length lc) l.length (recsC l) from HL10.out) fun b hb => hW.block b (HL10.out.lt b hb).2 (by simp))
                                have NEWS := Lib.hid (fun (W : World) (hW : w10.drew.grownBy W none) => (fun j u hu => by
                                  have hj := (List.getElem?_eq_some_iff.1 hu).1
                                  rw [S3.out, Nat.sub_mul] at hj
                                  rw [Addr.add_lit, (KEEP.out W hW).cellAt (k1 * 5 + j) (by omega), ← hu, ← recsC_drop, List.getElem?_drop] : ∀ j u, (recsC (l.drop k1))[j]? = some u → W.cell? ((⟨g, k1 * 5, none⟩ : Addr).add j) = some u))
                                go_region_law (first
                                  | (refine step_append_new rfl (.const (.slice none 0 0)) (.tmp 132) 22 rfl w10.drew.heap.size 42 i0_r (.agg #[.string ⟨#[]⟩, .int .i64 0, .int .i64 0, .int .i64 0, .string ⟨#[]⟩]) 5 56 Tryz.underlying22 HI_r.out HZ_r.out HZ1_r.out HZ2_r.out rfl (by decide) (.slice none 0 0) 0 [] (by simp [Act.eval]) HNIL.out ⟨g, 0, none⟩ k lc (recsC (l.take k)) (by simp [Act.eval, Act.put]) S1.out N1.out S2.out (by unfold maxLen; omega) (by omega) (Nat.le_refl _) ?_; intro v1 w11 hown11 hg11 hnn11)
                                  | (refine step_append_new rfl (.tmp 133) (.tmp 137) 22 rfl w10.drew.heap.size 42 i0_r (.agg #[.string ⟨#[]⟩, .int .i64 0, .int .i64 0, .int .i64 0, .string ⟨#[]⟩]) 5 56 Tryz.underlying22 HI_r.out HZ_r.out HZ1_r.out HZ2_r.out rfl (by decide) v1 (0 + k) ([] ++ recsC (l.take k)) (by simp [Act.eval]) hown11 ⟨g, k1 * 5, none⟩ (l.length - k1) (lc - k1) (recsC (l.drop k1)) (by simp [Act.eval]) S3.out (NEWS.out _ hg11) S4.out (by unfold maxLen; omega) (by omega) hg11.size ?_; intro v2 w12 hown12 hg12 hnn12))
                                rw [EN.out] at hown12
                                obtain ⟨va, vc, hv2, -⟩ := ownsRow_len hown12
                                subst hv2
                                have HNXT := Lib.hid (rpick_next HI.out HRP.out HC.out HS2.out HROLL.out hil HPK.out HK2.out HX.out HK1.out hkl rfl HB10.out HOWN10.out HI7.out hg11 hnn11 hown12 hg12)
                                clear hown12 hg12 hnn12 hown11 hg11 hnn11
                                go_wp2_with fail
                                go_roundw
                                case rel =>
                                  repeat apply Exists.intro
                                  refine And.intro ?_ ?_
                                  rotate_left
                                  · repeat (first | exact rfl | refine And.intro rfl ?_)
                                  exact ⟨_, _, _, _, _, rfl, HNXT⟩
                                case measure => exact HMS.out
                            · have HGE := Lib.hid hge
                              clear x0' x1' x2' x3' x4' hgi
                              go_wp2_with fail
                              go_roundw
                              case rel =>
                                repeat apply Exists.intro
                                refine And.intro ?_ ?_
                                rotate_left
                                · repeat (first | exact rfl | refine And.intro rfl ?_)
                                refine ⟨i + 1, by omega, rfl, rfl, by go_num, by rw [HNX.out], Lib.hid ⟨by trivial, fun j hj => ?_⟩⟩
                                rcases Nat.lt_or_ge j i with h | h
                                · exact HK.out.2 j h
                                · obtain rfl : j = i := by omega
                                  have := HGE.out
                                  rw [HNX.out]
                                  omega
                              case measure => simp [intOf]; omega
                          · exfalso
                            have hn := HRN.out
                            have h2 := HK.out.2 (R0.length - 1) (by omega)
                            rw [show R0.length - 1 + 1 = R0.length by omega, ← HS2.out] at h2
                            omega
          · have h0i : ¬ (0 : Int) < (l.length : Int) := by omega
            have HL0 := Lib.hid (show l = [] from List.eq_nil_of_length_eq_zero (by omega))
            clear h0
            go_wp2_with fail
            go_ret2
            have hr := HI.out.run [] (by rw [HL0.out]; exact .done rs)
            rw [List.append_nil] at hr
            exact ⟨_, _, O, rfl, HI.out.below, .run HSB.out.symm HRB.out.symm O hr, HI.out.out⟩
end Go.Proofs.YtnloommafgnanaaGreat

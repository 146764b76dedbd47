/-
  policy.Order: numbers of data, how servers are compared.
-/
import Derived.Test.YtnloommafgnanaaGreatQSymE
import Derived.Test.YtnloommafgnanaaGreatQDataK
import Derived.Test.YtnloommafgnanaaGreatQRefU
import Derived.Deep.RegionHeld3
import Derived.Deep.QuietTactic
import Derived.BigQuiet
namespace Go.Proofs.YtnloommafgnanaaGreat
open Go.RowKit Go.Shelf Go.Sort Go.Proofs.YtnloommafgnanaaGreat.nm Go.Proofs.YtnloommafgnanaaGreat.od Go.Proofs.YtnloommafgnanaaGreat.sm

namespace po
/-- A number of two bytes. -/
def numI (d : ByteArray) (k : Nat) : Int := ((sizeAt d (2 * k) * 256 + sizeAt d (2 * k + 1) : Nat) : Int)
theorem size_lt (d : ByteArray) (k : Nat) : sizeAt d k < 256 := UInt8.toNat_lt _
theorem num_bd (d : ByteArray) (k : Nat) : 0 ≤ numI d k ∧ numI d k ≤ 65535 := by
  have h1 := size_lt d (2 * k); have h2 := size_lt d (2 * k + 1)
  unfold numI
  omega
def zeroI (d : ByteArray) : Int := min (numI d 1) 1
theorem zero_bd (d : ByteArray) : 0 ≤ zeroI d ∧ zeroI d ≤ 1 := by have := num_bd d 1; unfold zeroI; omega
/-- Which server is ahead. -/
def ordI (a b : Rec) : Int := if numI a.data 0 - numI b.data 0 ≠ 0 then numI a.data 0 - numI b.data 0 else zeroI a.data - zeroI b.data
theorem ord_lt (a b : Rec) : ordI a b < 0 ↔ numI a.data 0 < numI b.data 0 ∨ (numI a.data 0 = numI b.data 0 ∧ zeroI a.data < zeroI b.data) := by
  unfold ordI
  split <;> omega
end po

theorem below_drewN {w w' : World} {b : Nat} (h : RowKit.Below b w w') : ∀ n, RowKit.Below b w (w'.drewN n)
  | 0 => h
  | n + 1 => (below_drewN h n).drew
theorem w64_id (x : Nat) (h : x < 9223372036854775808) : wrap64 (x : Int) = (x : Int) := by
  unfold wrap64
  omega
theorem number_any (d : ByteArray) (k : Nat) (hk : 2 * k + 1 < d.size) (hz : d.size ≤ 9223372036854775807) (w : World) : Calls Tryz.prog 24 #[.string d, .int .i64 (k : Int)] w fun e w' => e = .returned (.int .i64 (po.numI d k)) ∧ Below w.heap.size w w' := by
  obtain ⟨p, hp⟩ : ∃ p, p = 2 * k := ⟨_, rfl⟩
  obtain ⟨q, hq⟩ : ∃ q, q = 2 * k + 1 := ⟨_, rfl⟩
  have hp1 : p < d.size := by omega
  have hq1 : q < d.size := by omega
  have w1 : IntKind.i64.wrap (2 * (k : Int)) = (p : Int) := by rw [IntKind.wrap_i64]; omega
  have w2 : IntKind.i64.wrap ((p : Int) + 1) = (q : Int) := by rw [IntKind.wrap_i64]; omega
  have hor := or_byte d[p].toNat d[q].toNat (by have := UInt8.toNat_lt d[p]; omega) (UInt8.toNat_lt _)
  have e : ((d[p].toNat * 256 + d[q].toNat : Nat) : Int) = po.numI d k := by
    rw [← sizeAt_eq hp1, ← sizeAt_eq hq1, hp, hq]; rfl
  rw [e] at hor
  have HOR := Lib.hid hor
  have hp2 : (p : Int) < (d.size : Int) := by omega
  have hq2 : (q : Int) < (d.size : Int) := by omega
  have HB := Lib.hid (Below.refl w.heap.size w)
  clear hp hq e hor hk
  go_enter Tryz.func24, Tryz.ntmps24
  go_wp2_with fail
  go_quiet (fail)
  rw [w64_id d[p].toNat (by have := UInt8.toNat_lt d[p]; omega), w64_id d[q].toNat (by have := UInt8.toNat_lt d[q]; omega), show ((d[p].toNat : Int) * 256) = ((d[p].toNat * 256 : Nat) : Int) by omega, w64_id (d[p].toNat * 256) (by have := UInt8.toNat_lt d[p]; omega), show ((d[p].toNat * 256 : Nat) : Int) = ((d[p].toNat : Int) * 256) by omega, HOR.out]
  clear w1 w2
  go_wp2_with fail
  go_ret
  exact ⟨rfl, below_drewN HB.out nq⟩
theorem zero_any (r : Rec) (hr : 4 ≤ r.data.size) (hz : r.data.size ≤ 9223372036854775807) (w : World) : Calls Tryz.prog 23 #[recV r] w fun e w' => e = .returned (.int .i64 (po.zeroI r.data)) ∧ RowKit.Below w.heap.size w w' := by
  have HB := Lib.hid ((Below.refl _ w).alloc (Nat.le_refl _) (.cells (recC r).toArray 42))
  obtain ⟨z, hzz⟩ : ∃ z, z = po.zeroI r.data := ⟨_, rfl⟩
  rw [← hzz]
  have hm : min (po.numI r.data 1) 1 = z := hzz.symm
  have hnb := po.num_bd r.data 1
  have HN := Lib.hid (fun W => number_any r.data 1 (by omega) hz W)
  obtain ⟨b0, b1⟩ := hnb
  clear hr hz hzz
  go_enter Tryz.func23, Tryz.ntmps23
  go_wp2_with fail
  refine (HN.out _).mono ?_
  rintro e w' ⟨rfl, hb⟩
  have HB2 := Lib.hid (HB.out.trans (hb.mono (by simp)))
  clear hb
  go_wp2_with fail
  go_ret
  exact ⟨rfl, HB2.out⟩
set_option maxRecDepth 100000 in
set_option maxHeartbeats 1000000 in
theorem cmpOr_any (x y : Int) (b off : Nat) (w : World) (h0 : w.cell? ⟨b, off, none⟩ = some (.int .i64 x)) (h1 : w.cell? ⟨b, off + 1, none⟩ = some (.int .i64 y)) : Calls Tryz.prog 25 #[.slice (some ⟨b, off, none⟩) 2 2] w fun e w' => e = .returned (.int .i64 (if x ≠ 0 then x else y)) ∧ w = w' := by
  obtain ⟨z, hz⟩ : ∃ z, z = (if x ≠ 0 then x else y) := ⟨_, rfl⟩
  rw [← hz]
  have HZ := Lib.hid hz
  clear hz
  go_enter Tryz.func25, Tryz.ntmps25
  go_wp2_with fail
  go_loop [8] (fun kv => ∃ k : Nat, k ≤ 2 ∧ kv = .int .i64 (k : Int) ∧ Hid ((1 ≤ k → x = 0) ∧ (2 ≤ k → y = 0))) (fun kv => 2 - (intOf kv).toNat)
  case atStart => exact ⟨0, by omega, rfl, Lib.hid ⟨fun h => by omega, fun h => by omega⟩⟩
  case round =>
    obtain ⟨k, hk, rfl, HR⟩ := hrel
    match k, hk with
    | 0, _ =>
      by_cases hx : x = 0
      · have hx' : (x != 0) = false := by rw [bne_eq_false_iff_eq]; exact hx
        have HX := Lib.hid hx
        clear hx
        go_wp2_with fail
        go_round
        case rel => exact ⟨1, by omega, rfl, Lib.hid ⟨fun _ => HX.out, fun h => by omega⟩⟩
        case measure => simp [intOf]
      · have hx' : (x != 0) = true := by rw [bne_iff_ne]; exact hx
        have HX := Lib.hid hx
        clear hx
        go_wp2_with fail
        go_ret
        have hz := HZ.out
        rw [if_pos HX.out] at hz
        exact ⟨ret_i hz.symm, rfl⟩
    | 1, _ =>
      have hz : z = y := by rw [HZ.out, if_neg (by have := HR.out.1 (by omega); omega)]
      have HZ2 := Lib.hid hz
      clear hz
      by_cases hx : y = 0
      · have hx' : (y != 0) = false := by rw [bne_eq_false_iff_eq]; exact hx
        have HX := Lib.hid hx
        have HR1 := Lib.hid (HR.out.1 (Nat.le_refl _))
        clear hx
        go_wp2_with fail
        go_round
        case rel => exact ⟨2, by omega, rfl, Lib.hid ⟨fun _ => HR1.out, fun _ => HX.out⟩⟩
        case measure => simp [intOf]
      · have hx' : (y != 0) = true := by rw [bne_iff_ne]; exact hx
        clear hx
        go_wp2_with fail
        go_ret
        exact ⟨ret_i HZ2.out.symm, rfl⟩
    | 2, _ =>
      have hz : z = 0 := by rw [HZ.out, if_neg (by have := HR.out.1 (by omega); omega)]; exact HR.out.2 (Nat.le_refl _)
      have HZ2 := Lib.hid hz
      clear hz
      go_wp2_with fail
      go_ret
      exact ⟨ret_i HZ2.out.symm, rfl⟩
theorem two_new (X : World) (x y : Int) (T : TypeId) : (X.alloc (.cells #[.int .i64 x, .int .i64 y] T)).cell? ⟨X.heap.size, 0, none⟩ = some (.int .i64 x) ∧ (X.alloc (.cells #[.int .i64 x, .int .i64 y] T)).cell? ⟨X.heap.size, 0 + 1, none⟩ = some (.int .i64 y) := by
  constructor <;> (rw [heap_cell (heap_new_at rfl)]; rfl)
set_option maxRecDepth 100000 in
set_option maxHeartbeats 4000000 in
theorem ordCmp_any (r s : Rec) (hr : 4 ≤ r.data.size) (hr2 : r.data.size ≤ 9223372036854775807) (hs : 4 ≤ s.data.size) (hs2 : s.data.size ≤ 9223372036854775807) (w : World) :
    Calls Tryz.prog 22 #[recV r, recV s] w fun e w' => e = .returned (.int .i64 (po.ordI r s)) ∧ RowKit.Below w.heap.size w w' := by
  obtain ⟨w1, hw1⟩ : ∃ X, X = w.alloc (.cells (recC r).toArray 42) := ⟨_, rfl⟩
  obtain ⟨w2, hw2⟩ : ∃ X, X = w1.alloc (.cells (recC s).toArray 42) := ⟨_, rfl⟩
  obtain ⟨hB1, hs1, hR1⟩ := rec_new w w1 r hw1
  obtain ⟨hB2, hs3, hS⟩ := rec_new w1 w2 s hw2
  have hR := hR1.keep (hB2.block w.heap.size (by omega))
  obtain ⟨br, hbr⟩ : ∃ x, x = w.heap.size := ⟨_, rfl⟩
  obtain ⟨bs, hbs⟩ : ∃ x, x = w1.heap.size := ⟨_, rfl⟩
  rw [← hbr] at hR
  rw [← hbs] at hS
  have hsz : br < w2.heap.size ∧ bs < w2.heap.size := by omega
  have e1 : w.heap.size + 1 = bs := by omega
  have HALL := Lib.hid (fun (X : World) (hX : RowKit.Below w2.heap.size w2 X) => (⟨hX, hR.keep (hX.block br hsz.1), hS.keep (hX.block bs hsz.2)⟩ : RowKit.Below w2.heap.size w2 X ∧ RecAt X br 0 r ∧ RecAt X bs 0 s))
  have HB := Lib.hid (hB1.trans (hB2.mono hB1.size))
  have HNR : Hid (∀ X, Calls Tryz.prog 24 #[.string r.data, .int .i64 0] X fun e w' => e = .returned (.int .i64 (po.numI r.data 0)) ∧ RowKit.Below X.heap.size X w') := Lib.hid (fun X => number_any r.data 0 (by omega) hr2 X)
  have HNS : Hid (∀ X, Calls Tryz.prog 24 #[.string s.data, .int .i64 0] X fun e w' => e = .returned (.int .i64 (po.numI s.data 0)) ∧ RowKit.Below X.heap.size X w') := Lib.hid (fun X => number_any s.data 0 (by omega) hs2 X)
  have HZR := Lib.hid (fun X => zero_any r hr hr2 X)
  have HZS := Lib.hid (fun X => zero_any s hs hs2 X)
  have nr := po.num_bd r.data 0; have ns := po.num_bd s.data 0; have zr := po.zero_bd r.data; have zs := po.zero_bd s.data
  obtain ⟨nr, hnr⟩ : ∃ x, x = po.numI r.data 0 := ⟨_, rfl⟩
  obtain ⟨ns, hns⟩ : ∃ x, x = po.numI s.data 0 := ⟨_, rfl⟩
  obtain ⟨zr, hzr⟩ : ∃ x, x = po.zeroI r.data := ⟨_, rfl⟩
  obtain ⟨zs, hzs⟩ : ∃ x, x = po.zeroI s.data := ⟨_, rfl⟩
  rw [← hnr] at HNR
  rw [← hns] at HNS
  rw [← hzr] at HZR
  rw [← hzs] at HZS
  have hres : po.ordI r s = if nr - ns ≠ 0 then nr - ns else zr - zs := by unfold po.ordI; rw [hnr, hns, hzr, hzs]
  rw [hres]
  obtain ⟨nr0, nr1⟩ : 0 ≤ nr ∧ nr ≤ 65535 := by rw [hnr]; assumption
  obtain ⟨ns0, ns1⟩ : 0 ≤ ns ∧ ns ≤ 65535 := by rw [hns]; assumption
  obtain ⟨zr0, zr1⟩ : 0 ≤ zr ∧ zr ≤ 1 := by rw [hzr]; assumption
  obtain ⟨zs0, zs1⟩ : 0 ≤ zs ∧ zs ≤ 1 := by rw [hzs]; assumption
  obtain ⟨ov, hov⟩ : ∃ ov, ov = (if nr - ns ≠ 0 then nr - ns else zr - zs) := ⟨_, rfl⟩
  rw [← hov]
  have HOV := Lib.hid hov
  have wd : IntKind.i64.wrap (nr - ns) = nr - ns := by rw [IntKind.wrap_i64]; omega
  have we : IntKind.i64.wrap (zr - zs) = zr - zs := by rw [IntKind.wrap_i64]; omega
  have HW1 := Lib.hid hw1; have HW2 := Lib.hid hw2; have HBR := Lib.hid hbr; have HBS := Lib.hid hbs; have E1 := Lib.hid e1
  clear hr hs hr2 hs2 hw1 hw2 hB1 hB2 hs1 hs3 hR1 hR hS hbr hbs hsz e1 hnr hns hzr hzs hres hov
  go_enter Tryz.func22, Tryz.ntmps22
  go_upto_region 2 with fail
  rw [← HW1.out, ← HW2.out, E1.out, ← HBR.out]
  go_cut [4] (fun v wx => v = .int .i64 ov ∧ RowKit.Below w2.heap.size w2 wx)
  case first =>
    go_region_held3 (fun X => RowKit.Below w2.heap.size w2 X ∧ (X.cell? ⟨br, 0, none⟩ = some (.string r.owner) ∧ X.cell? ⟨br, 1, none⟩ = some (.int .i64 r.typ) ∧ X.cell? ⟨br, 2, none⟩ = some (.int .i64 r.cls) ∧ X.cell? ⟨br, 3, none⟩ = some (.int .i64 r.ttl) ∧ X.cell? ⟨br, 4, none⟩ = some (.string r.data)) ∧
        (X.cell? ⟨bs, 0, none⟩ = some (.string s.owner) ∧ X.cell? ⟨bs, 1, none⟩ = some (.int .i64 s.typ) ∧ X.cell? ⟨bs, 2, none⟩ = some (.int .i64 s.cls) ∧ X.cell? ⟨bs, 3, none⟩ = some (.int .i64 s.ttl) ∧ X.cell? ⟨bs, 4, none⟩ = some (.string s.data)))
      (first | (exact HALL.out _ (Below.refl _ _).drew) | (exact HALL.out _ hbN) | (go_split_ands; exact HALL.out _ (RowKit.Below.alloc (by assumption) (RowKit.Below.size (by assumption)) _)))
      (first
        | (go_at_call 24; go_split_ands; (first | (with_reducible refine (HNR.out _).mono ?_) | (with_reducible refine (HNS.out _).mono ?_)); rintro e wM ⟨rfl, hb⟩; have hbN := RowKit.Below.trans (B := w2.heap.size) (a := w2) (by assumption) (hb.mono (RowKit.Below.size (by assumption))))
        | (go_at_call 23; go_split_ands; (first | (with_reducible refine (HZR.out _).mono ?_) | (with_reducible refine (HZS.out _).mono ?_)); rintro e wM ⟨rfl, hb⟩; have hbN := RowKit.Below.trans (B := w2.heap.size) (a := w2) (by assumption) (hb.mono (RowKit.Below.size (by assumption))))
        | (go_at_call 25; go_split_ands; (with_reducible refine (cmpOr_any (nr - ns) (zr - zs) _ 0 _ (two_new _ _ _ _).1 (two_new _ _ _ _).2).mono ?_); rintro e wM ⟨rfl, rfl⟩; rw [← HOV.out]))
    all_goals (go_wp2_with fail; go_meet; (exact ⟨rfl, by go_split_ands; assumption⟩))
  case rest =>
    obtain ⟨rfl, hB⟩ := hcut
    have HB2 := Lib.hid (HB.out.trans (hB.mono HB.out.size))
    clear hB
    go_wp2_with fail
    go_ret
    exact ⟨rfl, HB2.out⟩
/-- Records whose data has the two numbers. -/
def OkS (r : Rec) : Prop := 4 ≤ r.data.size ∧ r.data.size ≤ 9223372036854775807
instance : Inhabited {x : Rec × Nat // OkS x.1} := ⟨⟨(⟨⟨#[]⟩, 0, 0, 0, ⟨#[0, 0, 0, 0]⟩⟩, 0), by unfold OkS; decide⟩⟩
theorem ord_swo : SWO (fun a b : {x : Rec × Nat // OkS x.1} => decide (po.ordI a.1.1 b.1.1 < 0)) := by
  refine ⟨fun x => ?_, fun x y z h1 h2 => ?_, fun x y z h1 h2 => ?_⟩
  · rw [decide_eq_false_iff_not, po.ord_lt]; omega
  · rw [decide_eq_true_eq, po.ord_lt] at *; omega
  · rw [decide_eq_false_iff_not, po.ord_lt] at *; omega
theorem ordCmp_grow (x y : Rec) (hx : OkS x) (hy : OkS y) (w : World) : Calls Tryz.prog 22 #[recV x, recV y] w fun e w' => e = .returned (.int .i64 (po.ordI x y)) ∧ ∃ q os', w' = grow (w.drewN q) os' := by
  refine (calls_val (ordCmp_any x y hx.1 hx.2 hy.1 hy.2 w)).mono ?_
  rintro e w' ⟨rfl, hB, hd⟩
  exact ⟨rfl, grow_of_below hB hd⟩
theorem callFunc_ord (args : Array Value) (w : World) : (callFunc 22 args).run Tryz.prog w = .ok (.enter 22 args) w := by kernel_rfl
/-- The servers, in their order. -/
theorem sortServers_any (l : List Rec) (hl : l.length ≤ 1000000000000) (hok : ∀ r ∈ l, OkS r) (base b cap : Nat) (w : World) (hrow : w.ownsRow base 42 5 (.slice (some ⟨b, 0, none⟩) l.length cap) l.length (recsC l)) :
    Calls Tryz.prog 21 #[.slice (some ⟨b, 0, none⟩) l.length cap, .func (.func 22) #[] #[]] w fun e w' =>
      e = .returned (.tuple #[]) ∧ w.grownBy w' (some b) ∧ ∃ T, StableOf po.ordI l T ∧ w'.ownsRow base 42 5 (.slice (some ⟨b, 0, none⟩) l.length cap) l.length (recsC (T.map (·.1))) :=
  stableRecs_any OkS po.ordI ord_swo 22 callFunc_ord (fun x y hx hy w => ordCmp_grow x y hx hy w) l hl hok base b cap w hrow
end Go.Proofs.YtnloommafgnanaaGreat

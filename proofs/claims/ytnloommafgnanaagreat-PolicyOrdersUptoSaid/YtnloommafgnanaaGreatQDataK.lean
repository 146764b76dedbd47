/-
  data.Types, small; kind.take, kinds.take.
-/
import Derived.Test.YtnloommafgnanaaGreatQDataF
import Derived.Test.YtnloommafgnanaaGreatQMarks
import Derived.LoopNIn
import Derived.Maps.AppendAt
namespace Go.Proofs.YtnloommafgnanaaGreat
open Go.RowKit Go.Shelf Go.Proofs.YtnloommafgnanaaGreat.nm

theorem info_int : (Tryz.prog.info? 3).map (fun i => (i.zero, i.size, i.bytes)) = some (some (.int .i64 0), 1, 8) := by kernel_rfl

theorem bit_dec (x e : Nat) (hx : x < 256) : (bits BinOp.and IntKind.u8 ((x : Int) / 2 ^ e) 1 == 1) = decide (x / 2 ^ e % 2 = 1) := by
  have h1 : ((x : Int) / 2 ^ e) = ((x / 2 ^ e : Nat) : Int) := by rw [Int.natCast_ediv, Int.natCast_pow]; rfl
  have hlt : x / 2 ^ e < 256 := Nat.lt_of_le_of_lt (Nat.div_le_self _ _) hx
  rw [h1]
  generalize x / 2 ^ e = y at *
  have h2 : bits BinOp.and IntKind.u8 (y : Int) 1 = ((y % 2 : Nat) : Int) := by
    show IntKind.u8.wrap ((BitVec.ofInt 8 (y : Int) &&& BitVec.ofInt 8 1).toNat : Int) = _
    rw [BitVec.toNat_and, BitVec.ofInt_natCast, BitVec.toNat_ofNat, Nat.mod_eq_of_lt (by omega : y < 2 ^ 8), show (BitVec.ofInt 8 1).toNat = 1 from rfl, Nat.and_one_is_mod, IntKind.wrap_u8]
    omega
  rw [h2]
  by_cases h : y % 2 = 1
  · rw [decide_eq_true h, beq_iff_eq]; omega
  · rw [decide_eq_false h, beq_eq_false_iff_ne]; omega

theorem ownsRow_block {W : World} {base : Nat} {e : TypeId} {size : Nat} {v : Value} {n : Nat} {xs : List Value} (h : W.ownsRow base e size v n xs) {j : Nat} (ej : v.ownBlock = some j) : base ≤ j := by
  rcases h.2 with ⟨rfl, _⟩ | ⟨g, cap, cur, rfl, hbg, _⟩
  · simp [Value.ownBlock] at ej
  · obtain rfl : g = j := by simpa [Value.ownBlock] using ej
    exact hbg

/-- What Types returns. -/
def TypesPost (d : ByteArray) (w : World) (e : Ending) (w' : World) : Prop :=
  (∃ v : Value, e = .returned (.tuple #[v, .int .i64 (if (dt.typesL d).isSome = true then 0 else 7)])) ∧ Below w.heap.size w w'
theorem typesPost_no {d : ByteArray} {w w' : World} (v : Value) (h : dt.typesL d = none) (hb : Below w.heap.size w w') : TypesPost d w (.returned (.tuple #[v, .int .i64 7])) w' := ⟨⟨v, by rw [h]; rfl⟩, hb⟩
theorem typesPost_yes {d : ByteArray} {w w' : World} {l : List Int} (v : Value) (h : dt.typesL d = some l) (hb : Below w.heap.size w w') : TypesPost d w (.returned (.tuple #[v, .int .i64 0])) w' := ⟨⟨v, by rw [h]; rfl⟩, hb⟩
theorem row_cell0 {w : World} {g : Nat} {cur : Array Value} {e : TypeId} {a : Value} {l : List Value} {n : Nat} (hg : w.heap[g]? = some (.cells cur e (0, 0))) (h : cur.toList.take n = a :: l) : w.cell? ⟨g, 0, none⟩ = some a := by
  rw [heap_cell hg]
  have h2 := congrArg (·[0]?) h
  simp only [List.getElem?_cons_zero] at h2
  rw [List.getElem?_take] at h2
  split at h2
  · simpa using h2
  · cases h2

set_option maxRecDepth 100000 in
set_option maxHeartbeats 4000000 in
theorem types_any (d : ByteArray) (hd : d.size ≤ 65535) (w : World) : Calls Tryz.prog 122 #[.string d] w fun e W' => TypesPost d w e W' := by
  obtain ⟨i0, hi, hz0, hz1, hz2⟩ := info_parts info_int
  have HI := Lib.hid hi; have HZ := Lib.hid hz0; have HZ1 := Lib.hid hz1; have HZ2 := Lib.hid hz2
  clear hi hz0 hz1 hz2
  go_enter Tryz.func122, Tryz.ntmps122
  go_wp2
  go_loopw [0, 4, 5, 6] (fun s v l _ wr => ∃ (r : ByteArray) (f : Nat) (last : Int) (acc : List Int), r.size ≤ d.size ∧ r.size < f ∧ -1 ≤ last ∧ last ≤ 255 ∧ s = .string r ∧ l = .int .i64 last ∧
      dt.typesGo (d.size + 1) d (-1) [] = dt.typesGo f r last acc ∧ (acc.length + 8 * r.size ≤ 8 * d.size) ∧ wr.ownsRow w.heap.size 3 1 v acc.length (acc.map (Value.int .i64)) ∧ Below w.heap.size w wr) (fun s _ _ _ _ => match s with | .string r => r.size | _ => 0)
  case atStart => exact ⟨d, d.size + 1, -1, [], Nat.le_refl _, by omega, by omega, by omega, rfl, rfl, rfl, by simp, World.ownsRow_nil _ _ _ _, Below.refl _ _⟩
  case round =>
    obtain ⟨r, f, last, acc, hr, hf, hl1, hl2, rfl, rfl, he, hn, hrow, hb⟩ := hrel
    obtain ⟨f, rfl⟩ : ∃ g, f = g + 1 := ⟨f - 1, by omega⟩
    have HE := Lib.hid he; have HB := Lib.hid hb; have HR := Lib.hid hrow
    clear he hb hrow
    by_cases h0 : r.size = 0
    · have b0 := str_empty h0
      have hgo : dt.typesGo (d.size + 1) d (-1) [] = some acc := by rw [HE.out, dt.typesGo_end h0]
      have HG := Lib.hid hgo
      clear hgo h0
      rcases HR.out with ⟨hln, ⟨rfl, hnil⟩ | ⟨g, cap, cur, rfl, hbg, hg, hnc, hcm, hcs, htake⟩⟩
      · have ha : acc = [] := List.eq_nil_of_length_eq_zero hnil
        subst ha
        have hty : dt.typesL d = some [] := by unfold dt.typesL; rw [HG.out]; simp
        have HT := Lib.hid hty
        clear hty hnil
        go_wp2
        go_ret2
        exact typesPost_yes _ HT.out HB.out
      · have HTK := Lib.hid htake; have HG2 := Lib.hid hg; have HCS := Lib.hid hcs
        clear htake hg hcs
        cases acc with
        | nil =>
          have hty : dt.typesL d = some [] := by unfold dt.typesL; rw [HG.out]; simp
          have HT := Lib.hid hty
          clear hty
          go_wp2
          go_ret2
          exact typesPost_yes _ HT.out HB.out
        | cons a acc =>
          have hc0 : wr.cell? ⟨g, 0, none⟩ = some (.int .i64 a) := row_cell0 HG2.out (by rw [HTK.out]; rfl)
          have hpos : (0 : Int) < ((a :: acc).length : Nat) := by simp
          by_cases h00 : a = 0
          · have b1 : (a == 0) = true := by rw [beq_iff_eq]; exact h00
            have hty : dt.typesL d = none := by unfold dt.typesL; rw [HG.out]; simp [h00]
            have HT := Lib.hid hty
            clear hty h00
            go_wp2
            go_ret2
            exact typesPost_no _ HT.out HB.out
          · have b1 : (a == 0) = false := by rw [beq_eq_false_iff_ne]; exact h00
            have hty : dt.typesL d = some (a :: acc) := by unfold dt.typesL; rw [HG.out]; simp [h00]
            have HT := Lib.hid hty
            clear hty h00
            go_wp2
            go_ret2
            exact typesPost_yes _ HT.out HB.out
    · have b0 := str_some h0
      by_cases hbad : dt.headBad r last
      · have hty : dt.typesL d = none := by unfold dt.typesL; rw [HE.out, dt.typesGo_bad h0 hbad]
        have HT := Lib.hid hty
        clear hty
        unfold dt.headBad at hbad
        by_cases k3 : (r.size : Int) < 3
        · clear hbad
          go_wp2
          go_ret2
          exact typesPost_no _ HT.out HB.out
        · have g0 : 0 < r.size := by omega
          have g1 : 1 < r.size := by omega
          have s0 := sizeAt_eq g0
          have s1 := sizeAt_eq g1
          have k3' : (3 : Int) ≤ r.size := by omega
          have t6 : (r[0].toNat : Int) < 256 := by have := UInt8.toNat_lt r[0]; omega
          have t7 : (r[1].toNat : Int) < 256 := by have := UInt8.toNat_lt r[1]; omega
          have S0 := Lib.hid s0; have S1 := Lib.hid s1
          rw [s1] at hbad
          rw [s0] at hbad
          clear s0 s1
          by_cases k4 : (r[0].toNat : Int) ≤ last
          · clear hbad
            go_wp2
            go_ret2
            exact typesPost_no _ HT.out HB.out
          · by_cases k5 : (r[1].toNat : Int) < 1
            · clear hbad
              go_wp2
              go_ret2
              exact typesPost_no _ HT.out HB.out
            · by_cases k6 : 32 < (r[1].toNat : Int)
              · clear hbad
                go_wp2
                go_ret2
                exact typesPost_no _ HT.out HB.out
              · by_cases k7 : (r.size : Int) < 2 + (r[1].toNat : Int)
                · clear hbad
                  go_wp2
                  go_ret2
                  exact typesPost_no _ HT.out HB.out
                · have g2 : 1 + r[1].toNat < r.size := by omega
                  have s2 := sizeAt_eq g2
                  have b5 : ((r[1 + r[1].toNat].toNat : Int) == 0) = true := by rw [beq_iff_eq]; omega
                  clear hbad s2
                  go_wp2
                  go_ret2
                  exact typesPost_no _ HT.out HB.out
      · have hnext := dt.typesGo_next (f := f) (acc := acc) h0 hbad
        unfold dt.headBad at hbad
        have g0 : 0 < r.size := by omega
        have g1 : 1 < r.size := by omega
        have s0 := sizeAt_eq g0
        have s1 := sizeAt_eq g1
        have g2 : 1 + r[1].toNat < r.size := by omega
        have s2 := sizeAt_eq g2
        rw [s1] at hbad
        rw [s2, s0] at hbad
        have t0 : (3 : Int) ≤ r.size := by omega
        have t1 : last < (r[0].toNat : Int) := by omega
        have t2 : (1 : Int) ≤ (r[1].toNat : Int) := by omega
        have t3 : (r[1].toNat : Int) ≤ 32 := by omega
        have t4 : (2 : Int) + (r[1].toNat : Int) ≤ r.size := by omega
        have t5 : ((r[1 + r[1].toNat].toNat : Int) == 0) = false := by rw [beq_eq_false_iff_ne]; omega
        have t6 : (r[0].toNat : Int) < 256 := by have := UInt8.toNat_lt r[0]; omega
        have t8 : 0 ≤ (r[0].toNat : Int) := by omega
        rw [s1, s0] at hnext
        have HN := Lib.hid hnext; have S0 := Lib.hid s0; have S1 := Lib.hid s1; have S2 := Lib.hid s2
        clear hnext s0 s1 s2 hbad
        go_wp2
        obtain ⟨wo, hwo⟩ : ∃ wo : World, wo = wr := ⟨_, rfl⟩
        subst hwo
        go_loopw [54, 4, 6] (fun c v _ wi => ∃ k : Nat, k ≤ 8 * r[1].toNat ∧ c = .int .i64 k ∧ wi.ownsRow w.heap.size 3 1 v (acc ++ dt.blockL r k).length ((acc ++ dt.blockL r k).map (Value.int .i64)) ∧ Below w.heap.size w wi) (fun c _ _ _ => 8 * r[1].toNat - (intOf c).toNat)
        case atStart => exact ⟨0, by omega, rfl, by simpa [dt.blockL] using HR.out, HB.out⟩
        case round =>
          obtain ⟨k, hk, rfl, hrow, hb⟩ := hrel
          have hlenk := dt.blockL_len r k
          have HR2 := Lib.hid hrow; have HB2 := Lib.hid hb
          clear hrow hb
          by_cases hlt : k < 8 * r[1].toNat
          · have u1 : (k : Int) < 8 * (r[1].toNat : Int) := by omega
            have g3 : 2 + k / 8 < r.size := by omega
            have g4 : (2 : Int) + (k : Int) / 8 < r.size := by omega
            have hs3 := sizeAt_eq g3
            have hbd := bit_dec r[2 + k / 8].toNat (7 - k % 8) (UInt8.toNat_lt _)
            have hbs := dt.blockL_succ r k
            cases hbit : dt.bitB r k
            · have hb2 : (bits BinOp.and IntKind.u8 ((r[2 + k / 8].toNat : Int) / 2 ^ (7 - k % 8)) 1 == 1) = false := by
                rw [hbd, ← hs3]; exact hbit
              rw [hbit] at hbs
              have hrow' : wr.ownsRow w.heap.size 3 1 u4 (acc ++ dt.blockL r (k + 1)).length ((acc ++ dt.blockL r (k + 1)).map (Value.int .i64)) := by
                rw [hbs]; simpa using HR2.out
              have HRW := Lib.hid hrow'
              have HS3 := Lib.hid hs3; have HBD := Lib.hid hbd; have HBS := Lib.hid hbs; have HBI := Lib.hid hbit
              clear hs3 hbd hbs hbit hrow'
              go_wp2
              go_roundw
              case rel => exact ⟨k + 1, by omega, by go_num, HRW.out, HB2.out⟩
              case measure => simp [intOf]; omega
            · have hb2 : (bits BinOp.and IntKind.u8 ((r[2 + k / 8].toNat : Int) / 2 ^ (7 - k % 8)) 1 == 1) = true := by
                rw [hbd, ← hs3]; exact hbit
              rw [hbit, if_pos rfl] at hbs
              have q1 : (acc ++ dt.blockL r k).length + 1 ≤ maxLen := by simp only [maxLen, List.length_append]; omega
              have q2 : ((acc ++ dt.blockL r k).length + 1) * 8 ≤ 140737488355328 := by simp only [List.length_append]; omega
              have Q1 := Lib.hid q1; have Q2 := Lib.hid q2
              have hval : (((sizeAt r 0 * 256 + k : Nat) : Int)) = (r[0].toNat : Int) * 256 + k := by rw [S0.out]; omega
              have HV := Lib.hid hval
              have HS3 := Lib.hid hs3; have HBD := Lib.hid hbd; have HBS := Lib.hid hbs; have HBI := Lib.hid hbit
              clear hs3 hbd hbs hbit q1 q2 hval hlenk
              go_wp2_with (at_builtin; refine wpList_append_own _ rfl _ _ 23 rfl w.heap.size 3 i0 (.int .i64 0) 1 8 Tryz.underlying23 HI.out HZ.out HZ1.out HZ2.out rfl (by decide) _ _ _ rfl (HR2.out.alloc _) ⟨wr.heap.size, 0, none⟩ 1 1 [.int .i64 ((r[0].toNat : Int) * 256 + k)] rfl rfl (cell_one_new _ _ _) (by simp [Value.oneCell']) Q1.out Q2.out (by have := HB2.out.size; simp; omega) ?_; intro v' w1 hown' hgrow _; have HO := Lib.hid hown'; have HG := Lib.hid hgrow; clear hown' hgrow)
              go_roundw
              case rel =>
                refine ⟨k + 1, by omega, by go_num, ?_, ?_⟩
                · have h := HO.out
                  rw [HBS.out, HV.out]
                  simpa [Nat.add_assoc] using h
                · refine (HB2.out.alloc HB2.out.size _).grown HG.out (by have := HB2.out.size; simp; omega) (fun j ej => ?_)
                  exact ownsRow_block HR2.out ej
              case measure => simp [intOf]; omega
          · have hke : k = 8 * r[1].toNat := by omega
            have HKE := Lib.hid hke
            clear hke
            have HNX : Hid (dt.typesGo (d.size + 1) d (-1) [] = dt.typesGo f (r.extract (2 + r[1].toNat) r.size) (r[0].toNat) (acc ++ dt.blockL r k)) := by
              unfold Hid
              rw [HE.out, HN.out, HKE.out]
            have hsx : (r.extract (2 + r[1].toNat) r.size).size = r.size - (2 + r[1].toNat) := dt.size_extract r (by omega)
            have HSX := Lib.hid hsx
            clear hsx
            go_wp2
            go_roundw
            case rel => exact ⟨_, f, _, _, by rw [HSX.out]; omega, by rw [HSX.out]; omega, by omega, by omega, rfl, rfl, HNX.out, by rw [HSX.out, List.length_append]; omega, HR2.out, HB2.out⟩
            case measure => show (r.extract (2 + r[1].toNat) r.size).size < r.size; rw [HSX.out]; omega

theorem kinds_take (d : ByteArray) (hd : d.size ≤ 65535) (w : World) : Calls Tryz.prog 121 #[.agg #[], .string d] w fun e W' => e = .returned (.int .i64 (dt.kindsI d)) ∧ Below w.heap.size w W' := by
  have hB := Lib.hid ((Below.refl _ w).alloc (Nat.le_refl _) (.cells #[] 107))
  cases hc : (dt.typesL d).isSome
  · have HC := Lib.hid hc
    clear hc
    go_enter Tryz.func121, Tryz.ntmps121
    go_wp2_with (go_at_call 122; refine (types_any d hd _).mono ?_; rintro e w1 ⟨⟨v, rfl⟩, hB1⟩; rw [HC.out, if_neg (by simp)])
    go_ret
    exact ⟨ret_i (by rw [dt.kindsI, HC.out]; rfl), hB.out.trans (hB1.mono hB.out.size)⟩
  · have HC := Lib.hid hc
    clear hc
    go_enter Tryz.func121, Tryz.ntmps121
    go_wp2_with (go_at_call 122; refine (types_any d hd _).mono ?_; rintro e w1 ⟨⟨v, rfl⟩, hB1⟩; rw [HC.out, if_pos rfl])
    go_ret
    exact ⟨ret_i (by rw [dt.kindsI, HC.out]; rfl), hB.out.trans (hB1.mono hB.out.size)⟩

end Go.Proofs.YtnloommafgnanaaGreat
/-
  data.small of two bytes; kind.take.
-/
namespace Go.Proofs.YtnloommafgnanaaGreat
open Go.RowKit Go.Shelf Go.Proofs.YtnloommafgnanaaGreat.nm

namespace dt
/-- The first k bytes as a number. -/
def valN (d : ByteArray) : Nat → Nat
  | 0 => 0
  | k + 1 => valN d k * 256 + sizeAt d k
theorem valN_lt (d : ByteArray) (k : Nat) : valN d k < 256 ^ k := by
  induction k with
  | zero => simp [valN]
  | succ k ih =>
    have : sizeAt d k < 256 := UInt8.toNat_lt _
    rw [valN, Nat.pow_succ]
    omega
end dt

theorem ofInt_i64 (a : Nat) (ha : a < 9223372036854775808) : (BitVec.ofInt 64 (a : Int)).toNat = a := by
  rw [BitVec.ofInt_natCast, BitVec.toNat_ofNat]; exact Nat.mod_eq_of_lt (by omega)
/-- 'v<<8 | b'. -/
theorem or_byte (v b : Nat) (hv : v < 1099511627776) (hb : b < 256) : bits BinOp.or IntKind.i64 ((v : Int) * 256) (b : Int) = ((v * 256 + b : Nat) : Int) := by
  have h1 : ((v : Int) * 256) = ((v * 256 : Nat) : Int) := by omega
  rw [h1]
  show IntKind.i64.wrap ((BitVec.ofInt 64 ((v * 256 : Nat) : Int) ||| BitVec.ofInt 64 (b : Int)).toNat : Int) = _
  have h2 : v * 256 ||| b = v * 256 + b := by
    have := Nat.two_pow_add_eq_or_of_lt (i := 8) (b := b) (by omega) v
    rw [show (2 : Nat) ^ 8 = 256 from rfl, Nat.mul_comm] at this
    exact this.symm
  rw [BitVec.toNat_or, ofInt_i64 _ (by omega), ofInt_i64 _ (by omega), h2, IntKind.wrap_i64]
  omega

/-- data.small of some bytes. -/
theorem small_any (d : ByteArray) (h2 : d.size ≤ 6) (w : World) : Calls Tryz.prog 115 #[.string d] w fun e W' => e = .returned (.int .i64 (dt.valN d d.size)) ∧ w = W' := by
  go_enter Tryz.func115, Tryz.ntmps115
  go_wp2
  go_loop [7, 3, 4] (fun c v _ => ∃ k : Nat, k ≤ d.size ∧ c = .int .i64 k ∧ v = .int .i64 (dt.valN d k)) (fun c _ _ => d.size - (intOf c).toNat)
  case atStart => exact ⟨0, Nat.zero_le _, rfl, rfl⟩
  case round =>
    obtain ⟨k, hk, rfl, rfl⟩ := hrel
    by_cases hlt : k < d.size
    · have hv : dt.valN d k < 256 ^ 5 := Nat.lt_of_lt_of_le (dt.valN_lt d k) (Nat.pow_le_pow_right (by omega) (by omega))
      have hv2 : dt.valN d k < 1099511627776 := Nat.lt_of_lt_of_le hv (by decide)
      have hv3 : (dt.valN d k : Int) < 1099511627776 := by omega
      have hs := sizeAt_eq hlt
      have HS := Lib.hid hs
      have HV := Lib.hid hv
      clear hs hv
      have h256 : (d[k].toNat : Int) < 256 := by have := UInt8.toNat_lt d[k]; omega
      have hor := or_byte (dt.valN d k) d[k].toNat hv2 (UInt8.toNat_lt _)
      rw [← HS.out] at hor
      have hnx : (((dt.valN d k * 256 + sizeAt d k : Nat)) : Int) = (dt.valN d (k + 1) : Nat) := rfl
      rw [hnx, HS.out] at hor
      have HOR := Lib.hid hor
      clear hor hnx
      go_wp2
      go_round
      case rel => exact ⟨k + 1, by omega, by go_num, by rw [HOR.out]⟩
      case measure => simp [intOf]; omega
    · have hke : k = d.size := by omega
      subst hke
      go_wp2
      go_ret
      exact ⟨rfl, rfl⟩

theorem kind_take (d : ByteArray) (w : World) : Calls Tryz.prog 114 #[.agg #[], .string d] w fun e W' => e = .returned (.int .i64 (dt.kindI d)) ∧ Below w.heap.size w W' := by
  have hB := Lib.hid ((Below.refl _ w).alloc (Nat.le_refl _) (.cells #[] 105))
  by_cases h : d.size < 2
  · have h' : (d.size : Int) < 2 := by omega
    go_enter Tryz.func114, Tryz.ntmps114
    go_wp2
    go_ret
    exact ⟨ret_i (by rw [dt.kindI, if_pos h]), hB.out⟩
  · have h' : (2 : Int) ≤ d.size := by omega
    have hsx : (d.extract 0 2).size = 2 := by rw [ByteArray.size_extract]; omega
    have e0 : sizeAt (d.extract 0 2) 0 = sizeAt d 0 := by
      unfold sizeAt; rw [extract_list]; simp
    have e1 : sizeAt (d.extract 0 2) 1 = sizeAt d 1 := by
      unfold sizeAt; rw [extract_list]; simp
    have hval : (dt.valN (d.extract 0 2) (d.extract 0 2).size : Int) = (sizeAt d 0 : Int) * 256 + (sizeAt d 1 : Int) := by
      rw [hsx]; simp [dt.valN, e0, e1]
    have HX := Lib.hid hsx; have HV := Lib.hid hval
    clear hsx e0 e1 hval
    by_cases hz : sizeAt d 0 = 0 ∧ sizeAt d 1 = 0
    · have b1 : ((sizeAt d 0 : Int) * 256 + (sizeAt d 1 : Int) == 0) = true := by rw [beq_iff_eq]; omega
      have HZ := Lib.hid hz
      clear hz
      go_enter Tryz.func114, Tryz.ntmps114
      go_wp2_with (go_at_call 115; refine (small_any _ (by rw [HX.out]; omega) _).mono ?_; rintro e w1 ⟨rfl, rfl⟩; rw [HV.out])
      go_ret
      exact ⟨ret_i (by rw [dt.kindI, if_neg h, if_pos HZ.out]), hB.out⟩
    · have b1 : ((sizeAt d 0 : Int) * 256 + (sizeAt d 1 : Int) == 0) = false := by rw [beq_eq_false_iff_ne]; omega
      have HZ := Lib.hid hz
      clear hz
      go_enter Tryz.func114, Tryz.ntmps114
      go_wp2_with (go_at_call 115; refine (small_any _ (by rw [HX.out]; omega) _).mono ?_; rintro e w1 ⟨rfl, rfl⟩; rw [HV.out])
      go_ret
      exact ⟨ret_i (by rw [dt.kindI, if_neg h, if_neg HZ.out]), hB.out⟩
end Go.Proofs.YtnloommafgnanaaGreat

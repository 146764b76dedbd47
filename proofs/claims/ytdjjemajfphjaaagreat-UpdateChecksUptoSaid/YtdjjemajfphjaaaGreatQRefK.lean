import Derived.Test.YtdjjemajfphjaaaGreatQRefH
import Derived.Deep.QuietTactic
import Derived.BigQuiet
namespace Go.Proofs.YtdjjemajfphjaaaGreat
open Go.RowKit Go.Shelf Go.Proofs.YtdjjemajfphjaaaGreat.nm
open dt (Fld)
def RTypes (d : ByteArray) (w : World) (e : Ending) (w' : World) : Prop := Below w.heap.size w w' ∧ match dt.typesL d with
  | some l => ∃ v, e = .returned (.tuple #[v, .int .i64 0]) ∧ w'.ownsRow w.heap.size 3 1 v l.length (l.map (Value.int .i64))
  | none => e = .returned (.tuple #[.slice none 0 0, .int .i64 7])
theorem rtypes_no {d : ByteArray} {w w' : World} (h : dt.typesL d = none) (hb : Below w.heap.size w w') : RTypes d w (.returned (.tuple #[.slice none 0 0, .int .i64 7])) w' := by
  refine ⟨hb, ?_⟩
  rw [h]
theorem rtypes_yes {d : ByteArray} {w w' : World} {l : List Int} {v : Value} (h : dt.typesL d = some l) (hv : w'.ownsRow w.heap.size 3 1 v l.length (l.map (Value.int .i64))) (hb : Below w.heap.size w w') : RTypes d w (.returned (.tuple #[v, .int .i64 0])) w' := by
  refine ⟨hb, ?_⟩
  rw [h]
  exact ⟨v, rfl, hv⟩
theorem dt.sizeAt_extract {r : ByteArray} {a b k : Nat} (_hb : b ≤ r.size) (hk : a + k < b) : sizeAt (r.extract a b) k = sizeAt r (a + k) := by
  unfold sizeAt
  rw [extract_list, List.getElem?_take, if_pos (by omega), List.getElem?_drop]
theorem dt.bit_extract {r : ByteArray} {n k : Nat} (hn : 2 + n ≤ r.size) (hk : k < 8 * n) : dt.bitI (r.extract 2 (2 + n)) k = if dt.bitB r k = true then 1 else 0 := by
  unfold dt.bitI dt.bitB
  rw [dt.sizeAt_extract hn (by omega)]
  have h := Nat.mod_two_eq_zero_or_one (sizeAt r (2 + k / 8) / 2 ^ (7 - k % 8))
  rcases h with h | h <;> simp [h]
def strN : Value → Nat
  | .string s => s.size
  | _ => 0
theorem dt.bitsTo_get {r : ByteArray} {n k : Nat} (hk : k < n) : (dt.bitsTo r n)[k]'(by rw [dt.bitsTo_len]; exact hk) = dt.bitI r k := by unfold dt.bitsTo; simp
set_option maxRecDepth 100000 in
set_option maxHeartbeats 4000000 in
theorem rtypes_any (d : ByteArray) (hd : d.size ≤ 65535) (w : World) : Calls Tryz.prog 165 #[.string d] w fun e w' => RTypes d w e w' := by
  obtain ⟨i0_i, hi_i, hz_i, hz1_i, hz2_i⟩ := info_parts info_int
  have HI_i := Lib.hid hi_i; have HZ_i := Lib.hid hz_i; have HZ1_i := Lib.hid hz1_i; have HZ2_i := Lib.hid hz2_i
  clear hi_i hz_i hz1_i hz2_i
  go_enter Tryz.func165, Tryz.ntmps165
  go_wp2_with fail
  go_loopw [0, 5, 4, 6, 7, 8, 9] (fun s l v _ _ _ _ wr => ∃ (r : ByteArray) (f : Nat) (last : Int) (acc : List Int), r.size ≤ d.size ∧ r.size < f ∧ -1 ≤ last ∧ last ≤ 255 ∧ s = .string r ∧ l = .int .i64 last ∧
      dt.typesGo (d.size + 1) d (-1) [] = dt.typesGo f r last acc ∧ (acc.length + 8 * r.size ≤ 8 * d.size) ∧ wr.ownsRow w.heap.size 3 1 v acc.length (acc.map (Value.int .i64)) ∧ Below w.heap.size w wr) (fun s _ _ _ _ _ _ _ => strN s)
  case atStart => exact ⟨d, d.size + 1, -1, [], Nat.le_refl _, by omega, by omega, by omega, rfl, rfl, rfl, by simp, World.ownsRow_nil _ _ _ _, Below.refl _ _⟩
  case round =>
    obtain ⟨r, f, last, acc, hr, hf, hl1, hl2, rfl, rfl, he, hn, hrow, hb⟩ := hrel
    obtain ⟨f, rfl⟩ : ∃ g, f = g + 1 := ⟨f - 1, by omega⟩
    obtain ⟨a, cap, rfl, hcap⟩ := ownsRow_len hrow
    have hsr := hb.size
    have HE := Lib.hid he; have HB := Lib.hid hb; have HR := Lib.hid hrow
    clear he hb hrow
    by_cases h0 : r.size = 0
    · have b0 := str_empty h0
      have b0' : (!r.toList.isEmpty) = false := by rw [b0]; rfl
      have hgo : dt.typesGo (d.size + 1) d (-1) [] = some acc := by rw [HE.out, dt.typesGo_end h0]
      have HGO := Lib.hid hgo; have H0 := Lib.hid h0
      clear hgo h0
      go_wp2_with fail
      go_loop [78, 11] (fun kv _ => ∃ k : Nat, k ≤ acc.length ∧ kv = .int .i64 (k : Int) ∧ (∀ j (h : j < acc.length), j < k → acc[j] ≠ 0)) (fun kv _ => acc.length - (intOf kv).toNat)
      case atStart => exact ⟨0, Nat.zero_le _, rfl, (fun j h h' => by omega)⟩
      case round =>
        obtain ⟨k, hk, rfl, hnz⟩ := hrel
        have HNZ := Lib.hid hnz
        clear hnz
        by_cases hlt : k < acc.length
        · obtain ⟨g, cap', hv, _, hg⟩ := HR.out.form (by omega)
          simp only [Value.slice.injEq, true_and] at hv
          obtain ⟨rfl, rfl⟩ := hv
          have hc := ownsRow_cells HR.out k (by rw [List.length_map]; exact hlt)
          rw [List.getElem_map] at hc
          by_cases hz : acc[k] = 0
          · have bz : (acc[k] == 0) = true := by rw [beq_iff_eq]; exact hz
            have hty : dt.typesL d = none := by
              unfold dt.typesL
              rw [HGO.out]
              have : acc.head? = some 0 := (dt.typesGo_zero HGO.out).2 (by rw [← hz]; exact List.getElem_mem _)
              simp only [this, if_true]
            have HTY := Lib.hid hty; have HZ := Lib.hid hz
            clear hty hz
            go_wp2_with fail
            go_ret2
            exact rtypes_no HTY.out HB.out
          · have bz : (acc[k] == 0) = false := by rw [beq_eq_false_iff_ne]; exact hz
            have HN2 := Lib.hid (show ∀ j (h : j < acc.length), j < k + 1 → acc[j] ≠ 0 from fun j h h' => by
              rcases Nat.lt_or_ge j k with h'' | h''
              · exact HNZ.out j h h''
              · obtain rfl : j = k := by omega
                exact hz)
            clear hz
            go_wp2_with fail
            go_round
            case rel => exact ⟨k + 1, by omega, by go_num, HN2.out⟩
            case measure => simp [intOf]; omega
        · obtain rfl : k = acc.length := by omega
          have hty : dt.typesL d = some acc := by
            unfold dt.typesL
            rw [HGO.out]
            have : acc.head? ≠ some 0 := fun h => by
              obtain ⟨j, hj, h2⟩ := List.getElem_of_mem ((dt.typesGo_zero HGO.out).1 h)
              exact HNZ.out j hj hj h2
            simp only [this, if_false]
          have HTY := Lib.hid hty
          clear hty
          go_wp2_with fail
          go_ret2
          exact rtypes_yes HTY.out HR.out HB.out
    · have b0 := str_some h0
      have b0' : (!r.toList.isEmpty) = true := by rw [b0]; rfl
      by_cases k2 : r.size < 2
      · have hty : dt.typesL d = none := by unfold dt.typesL; rw [HE.out, dt.typesGo_bad h0 (.inl (by omega))]
        have HTY := Lib.hid hty; have H0 := Lib.hid h0
        clear hty h0
        have k2' : (r.size : Int) < 2 := by omega
        go_wp2_with fail
        go_ret2
        exact rtypes_no HTY.out HB.out
      · have k2' : (2 : Int) ≤ (r.size : Int) := by omega
        have g0 : 0 < r.size := by omega
        have g1 : 1 < r.size := by omega
        have g0' : (0 : Int) < (r.size : Int) := by omega
        have g1' : (1 : Int) < (r.size : Int) := by omega
        have s0 := sizeAt_eq g0
        have s1 := sizeAt_eq g1
        have t6 : (r[0].toNat : Int) < 256 := by have := UInt8.toNat_lt r[0]; omega
        have t7 : (r[1].toNat : Int) < 256 := by have := UInt8.toNat_lt r[1]; omega
        have u6 : (0 : Int) ≤ (r[0].toNat : Int) := by omega
        have u7 : (0 : Int) ≤ (r[1].toNat : Int) := by omega
        by_cases hbad : dt.headBad r last
        · have hty : dt.typesL d = none := by unfold dt.typesL; rw [HE.out, dt.typesGo_bad h0 hbad]
          unfold dt.headBad at hbad
          rw [s1, s0] at hbad
          have HTY := Lib.hid hty; have S0 := Lib.hid s0; have S1 := Lib.hid s1; have H0 := Lib.hid h0
          clear hty s0 s1 h0
          by_cases k4 : (r[0].toNat : Int) ≤ last
          · clear hbad
            go_wp2_with fail
            go_quiet (fail)
            go_wp2_with fail
            go_ret2
            exact rtypes_no HTY.out (belowD HB.out _)
          · by_cases k5 : (r[1].toNat : Int) < 1
            · clear hbad
              go_wp2_with fail
              go_quiet (fail)
              go_wp2_with fail
              go_ret2
              exact rtypes_no HTY.out (belowD HB.out _)
            · by_cases k6 : 32 < (r[1].toNat : Int)
              · clear hbad
                go_wp2_with fail
                go_quiet (fail)
                go_wp2_with fail
                go_ret2
                exact rtypes_no HTY.out (belowD HB.out _)
              · by_cases k7 : (r.size : Int) < 2 + (r[1].toNat : Int)
                · clear hbad
                  go_wp2_with fail
                  go_quiet (fail)
                  go_wp2_with fail
                  go_ret2
                  exact rtypes_no HTY.out (belowD HB.out _)
                · have g2 : 1 + r[1].toNat < r.size := by omega
                  have s2 := sizeAt_eq g2
                  have b5 : ((r[1 + r[1].toNat].toNat : Int) == 0) = true := by rw [beq_iff_eq]; omega
                  clear hbad s2
                  go_wp2_with fail
                  go_quiet (fail)
                  go_wp2_with fail
                  go_ret2
                  exact rtypes_no HTY.out (belowD HB.out _)
        · have hnext := dt.typesGo_next (f := f) (acc := acc) h0 hbad
          unfold dt.headBad at hbad
          have g2 : 1 + r[1].toNat < r.size := by omega
          have s2 := sizeAt_eq g2
          rw [s1] at hbad
          rw [s2, s0] at hbad
          have t1 : last < (r[0].toNat : Int) := by omega
          have t2 : (1 : Int) ≤ (r[1].toNat : Int) := by omega
          have t3 : (r[1].toNat : Int) ≤ 32 := by omega
          have t4 : (2 : Int) + (r[1].toNat : Int) ≤ r.size := by omega
          have t5 : ((r[1 + r[1].toNat].toNat : Int) == 0) = false := by rw [beq_eq_false_iff_ne]; omega
          have hx : (r.extract 2 (2 + r[1].toNat)).size = r[1].toNat := by rw [ByteArray.size_extract]; omega
          rw [s1, s0] at hnext
          obtain ⟨bl, hbl⟩ : ∃ n : Nat, n = r[1].toNat := ⟨_, rfl⟩
          have hbl2 : ((2 : Int) + (r[1].toNat : Int)).toNat = 2 + r[1].toNat := by omega
          have hbits : ∀ k, k < 8 * r[1].toNat → dt.bitI (r.extract 2 (2 + r[1].toNat)) k = if dt.bitB r k = true then 1 else 0 := fun k hk => dt.bit_extract (by omega) hk
          have hnb := u7
          have HNEXT := Lib.hid hnext; have S0 := Lib.hid s0; have S1 := Lib.hid s1; have S2 := Lib.hid s2; have HX := Lib.hid hx; have H0 := Lib.hid h0; have HBITS := Lib.hid hbits
          clear hnext s0 s1 s2 hx h0 hbits
          clear hbad
          go_wp2_with fail
          go_quiet (fail)
          go_wp2_with fail
          refine (rbits_any _ (by rw [HX.out]; omega) _).mono ?_
          rintro e w2 ⟨v2, rfl, hrow2, hB2⟩
          rw [HX.out] at hrow2
          obtain ⟨g, cap2, hv2, hg0, hg1⟩ := hrow2.form (by omega)
          subst hv2
          have hgr : wr.heap.size ≤ g := hg0
          have hcell2 : ∀ k, k < 8 * r[1].toNat → w2.cell? ⟨g, k, none⟩ = some (.int .i64 (dt.bitI (r.extract 2 (2 + r[1].toNat)) k)) := fun k hk => by
            have := ownsRow_cells hrow2 k (by rw [List.length_map, dt.bitsTo_len]; exact hk)
            rw [List.getElem_map, dt.bitsTo_get hk] at this
            exact this
          have HC2 := Lib.hid hcell2
          have HOWN2 := Lib.hid (ownsRow_below (ownsRow_keepOne HR.out fun b hb => rfl : (wr.drewN nq).ownsRow _ _ _ _ _ _) hB2)
          have HBW2 := Lib.hid ((belowD HB.out nq).trans (hB2.mono hsr))
          have HNE2 : Hid ((Value.slice a acc.length cap).ownBlock ≠ some g) := Lib.hid fun h => by have := (HR.out.lt g h).2; omega
          have hs2 := hB2.size
          have hs2' : w.heap.size ≤ w2.heap.size := by have h : wr.heap.size ≤ w2.heap.size := hs2; omega
          clear hrow2 hB2 hcell2 hs2 hg0
          go_wp2_with fail
          obtain ⟨wo, hwo⟩ : ∃ wo : World, wo = wr := ⟨_, rfl⟩
          subst hwo
          go_loopw [55, 4, 9] (fun kv v _ wi => ∃ k : Nat, k ≤ 8 * r[1].toNat ∧ kv = .int .i64 (k : Int) ∧ wi.ownsRow w.heap.size 3 1 v (acc ++ dt.blockL r k).length ((acc ++ dt.blockL r k).map (Value.int .i64)) ∧ Below w.heap.size w wi ∧ wi.heap[g]? = w2.heap[g]? ∧ g < wi.heap.size ∧ v.ownBlock ≠ some g) (fun kv _ _ _ => 8 * r[1].toNat - (intOf kv).toNat)
          case atStart => exact ⟨0, Nat.zero_le _, rfl, by simpa [dt.blockL] using HOWN2.out, HBW2.out, rfl, hg1, HNE2.out⟩
          case round =>
            obtain ⟨k, hk, rfl, hrow, hb, hkeep, hgl, hne⟩ := hrel
            obtain ⟨av, capv, rfl, hcapv⟩ := ownsRow_len hrow
            have hlenk := dt.blockL_len r k
            have hszr := hb.size
            have HROW := Lib.hid hrow; have HB_ := Lib.hid hb; have HKEEP := Lib.hid hkeep; have HNE := Lib.hid hne
            clear hrow hb hkeep hne
            by_cases hlt : k < 8 * r[1].toNat
            · have cc : wr.cell? ⟨g, k, none⟩ = some (.int .i64 (dt.bitI (r.extract 2 (2 + r[1].toNat)) k)) := (World.cell?_of_block (w := w2) (a := ⟨g, k, none⟩) HKEEP.out).trans (HC2.out k hlt)
              rw [HBITS.out k hlt] at cc
              have hbs := dt.blockL_succ r k
              have u1 : (k : Int) < 8 * (r[1].toNat : Int) := by omega
              cases hbit : dt.bitB r k
              · rw [hbit] at hbs cc
                have hrow' : wr.ownsRow w.heap.size 3 1 (.slice av (acc ++ dt.blockL r k).length capv) (acc ++ dt.blockL r (k + 1)).length ((acc ++ dt.blockL r (k + 1)).map (Value.int .i64)) := by
                  rw [hbs]; simpa using HROW.out
                simp only [Bool.false_eq_true, if_false] at cc
                have hbz : ((0 : Int) == 1) = false := rfl
                have HBS := Lib.hid hbs; have HBIT := Lib.hid hbit; have HROW' := Lib.hid hrow'
                clear hbs hbit hrow'
                go_wp2_with fail
                go_roundw
                case rel => exact ⟨k + 1, by omega, by go_num, HROW'.out, HB_.out, HKEEP.out, hgl, HNE.out⟩
                case measure => simp [intOf]; omega
              · rw [hbit, if_pos rfl] at hbs cc
                have hln : (acc ++ dt.blockL r k).length ≤ 10000000 := by rw [List.length_append]; omega
                have hval : (((sizeAt r 0 * 256 + k : Nat) : Int)) = (r[0].toNat : Int) * 256 + k := by rw [S0.out]; omega
                have hbo : ((1 : Int) == 1) = true := rfl
                have HBS := Lib.hid hbs; have HBIT := Lib.hid hbit; have HVAL := Lib.hid hval
                clear hbs hbit hval
                generalize hL : acc ++ dt.blockL r k = L at *
                have HB_a := Lib.hid (HB_.out.alloc HB_.out.size (.cells #[.int .i64 ((r[0].toNat:Int)*256+(k:Int))] 3))
                have HO_a := Lib.hid (ownsRow_keepOne HROW.out fun b hb => Below.heap_alloc wr (.cells #[.int .i64 ((r[0].toNat:Int)*256+(k:Int))] 3) b (HROW.out.lt b hb).2)
                have P1_a := Lib.hid (show L.length + 1 ≤ maxLen from by unfold maxLen; omega)
                have P2_a := Lib.hid (show (L.length + 1) * 8 ≤ 140737488355328 from by omega)
                have P3_a := Lib.hid (show w.heap.size ≤ (wr.alloc (.cells #[.int .i64 ((r[0].toNat:Int)*256+(k:Int))] 3)).heap.size from by have := HB_.out.size; simp; omega)
                go_wp2_with (at_builtin; refine wpList_append_new _ rfl _ _ 180 rfl w.heap.size 3 i0_i (.int .i64 0) 1 8 Tryz.underlying180 HI_i.out HZ_i.out HZ1_i.out HZ2_i.out rfl (by decide) _ _ _ rfl HO_a.out ⟨wr.heap.size, 0, none⟩ 1 1 [.int .i64 ((r[0].toNat:Int)*256+(k:Int))] rfl rfl (cell_one_new _ _ _) (by simp [Value.oneCell']) P1_a.out P2_a.out P3_a.out ?_)
                intro v' w10 hown10 hg10 hnn10
                have HB10 := Lib.hid (HB_a.out.grown hg10 P3_a.out (fun j hj => (HO_a.out.lt j hj).1))
                have HOWN10 := Lib.hid hown10; have HG10 := Lib.hid hg10; have HNN10 := Lib.hid hnn10
                clear hown10 hg10 hnn10 HB_a HO_a P1_a P2_a P3_a
                go_wp2_with fail
                go_roundw
                case rel =>
                  refine ⟨k + 1, by omega, by go_num, ?_, HB10.out, ?_, ?_, ?_⟩
                  · have h := HOWN10.out
                    rw [HBS.out, HVAL.out, ← List.append_assoc, hL, List.length_append, List.map_append]
                    exact h
                  · rw [HG10.out.block g (by simp; omega) (fun h => HNE.out h.symm), Below.heap_alloc _ _ _ hgl]
                    exact HKEEP.out
                  · have h := HG10.out.size
                    have h2 := World.size_alloc wr (.cells #[.int .i64 ((r[0].toNat:Int)*256+(k:Int))] 3)
                    omega
                  · intro h
                    rcases HNN10.out g h with h | h
                    · exact HNE.out h
                    · have h2 := World.size_alloc wr (.cells #[.int .i64 ((r[0].toNat:Int)*256+(k:Int))] 3)
                      omega
                case measure => simp [intOf]; omega
            · obtain rfl : k = 8 * r[1].toNat := by omega
              have HNX : Hid (dt.typesGo (d.size + 1) d (-1) [] = dt.typesGo f (r.extract (2 + r[1].toNat) r.size) (r[0].toNat) (acc ++ dt.blockL r (8 * r[1].toNat))) := by
                unfold Hid
                rw [HE.out, HNEXT.out]
              have hsx : (r.extract (2 + r[1].toNat) r.size).size = r.size - (2 + r[1].toNat) := dt.size_extract r (by omega)
              have HSX := Lib.hid hsx
              clear hsx
              go_wp2_with fail
              go_roundw
              case rel => exact ⟨_, f, _, _, by rw [HSX.out]; omega, by rw [HSX.out]; omega, by omega, by omega, rfl, rfl, HNX.out, by rw [HSX.out, List.length_append]; omega, HROW.out, HB_.out⟩
              case measure => show (r.extract (2 + r[1].toNat) r.size).size < r.size; rw [HSX.out]; omega
end Go.Proofs.YtdjjemajfphjaaaGreat

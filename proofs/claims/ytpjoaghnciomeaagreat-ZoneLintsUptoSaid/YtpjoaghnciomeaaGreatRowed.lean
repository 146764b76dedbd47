/-
  gazetteerlaw3.ZoneRowed: its walk.
-/
import Derived.Test.YtpjoaghnciomeaaGreatGives
import Derived.Test.YtpjoaghnciomeaaGreatRowP
namespace Go.Proofs.YtpjoaghnciomeaaGreat
open Go.RowKit Go.Shelf Go.WideMaps Go.Proofs.YtpjoaghnciomeaaGreat.nm Go.Proofs.YtpjoaghnciomeaaGreat.od

/-- A row of texts in memory. -/
def StrsR (w : World) (v : Value) (ss : List ByteArray) : Prop :=
  ∃ a cap, v = .slice a ss.length cap ∧ ∀ k (h : k < ss.length), ∃ b off, a = some ⟨b, off, none⟩ ∧ b < w.heap.size ∧ w.cell? ⟨b, off + k, none⟩ = some (.string ss[k])
theorem StrsR.below {w w' : World} {v : Value} {ss : List ByteArray} (h : StrsR w v ss) (hb : Below w.heap.size w w') : StrsR w' v ss := by
  obtain ⟨a, cap, rfl, h⟩ := h
  refine ⟨a, cap, rfl, fun k hk => ?_⟩
  obtain ⟨b, off, rfl, hl, hc⟩ := h k hk
  exact ⟨b, off, rfl, Nat.lt_of_lt_of_le hl hb.size, (hb.cell (p := ⟨b, off + k, none⟩) hl).trans hc⟩
theorem owns_strsR {w : World} {base : Nat} {v : Value} {ss : List ByteArray} (h : w.ownsRow base 9 1 v ss.length (ss.map .string)) : StrsR w v ss := by
  obtain ⟨a, cap, rfl, _⟩ := ownsRow_len h
  refine ⟨a, cap, rfl, fun k hk => ?_⟩
  obtain ⟨g, cap', hv, _, hg⟩ := h.form (by omega)
  simp only [Value.slice.injEq, true_and] at hv
  obtain ⟨rfl, rfl⟩ := hv
  refine ⟨g, 0, rfl, hg, ?_⟩
  have := ownsRow_cells h k (by rw [List.length_map]; exact hk)
  rw [List.getElem_map] at this
  rw [Nat.zero_add]
  exact this

theorem names_len {apex : ByteArray} {L : List Rec} (hL : L.length ≤ 2000) (_hv : zn.Valid apex L) {N : List ByteArray} (h : NamesOf apex L N) : N.length ≤ 512000 := by
  have h1 : ∀ n ∈ N, n ∈ zn.domT (countI apex).toNat L := fun n hn => zn.mem_domT.2 ((h.2.1 n).1 hn)
  have h2 := nodup_length N (zn.domT (countI apex).toNat L) h.1 h1
  have h3 := zn.domT_length (countI apex).toNat L
  omega

set_option maxRecDepth 100000 in
set_option maxHeartbeats 4000000 in
theorem rowed_any (apex : ByteArray) (l : List Rec) (hok : ∀ r ∈ l, (Lit.int .i64 r.typ).wf = true) (a : Option Addr) (cap : Nat) (hf : SliceForm (.slice a l.length cap)) (w : World) (hrv : RecsAt w (.slice a l.length cap) l) :
    Calls Tryz.prog 8 #[.string apex, .slice a l.length cap] w fun e w' => e = .returned (.bool true) ∧ Below w.heap.size w w' := by
  have HN := Lib.hid (new_any apex l hok _ hf w hrv)
  have HRV := Lib.hid hrv; have HOK := Lib.hid hok
  clear hrv hok hf
  go_enter Tryz.func8, Tryz.ntmps8
  go_wp2_with fail
  refine HN.out.mono ?_
  intro e w1 hp
  rcases hne : zn.newE apex l with _ | ⟨k, c⟩
  · obtain ⟨hB1, z, L, hz, hs, rfl, hzf⟩ := newPost_zone hp hne
    have hnL : zn.newE apex L = none := zn.newE_of hs.1.symm hne
    have hva : zn.Valid apex L := zn.valid_of hnL
    have hlL : l.length = L.length := hs.1.length_eq.symm
    have HB1 := Lib.hid hB1; have HZ := Lib.hid hzf; have HVA := Lib.hid hva; have HPM := Lib.hid hs; have HNL := Lib.hid hnL; have HOKL := Lib.hid (fun r hr => HOK.out r (hs.1.mem_iff.1 hr))
    have hL2 : L.length ≤ 2000 := hzf.small
    rw [hlL]
    clear hp hne hB1 hs hzf hz hva HN hnL hlL
    go_wp2_with fail
    refine (begins_any _).mono ?_
    rintro e w2 ⟨rfl, hB2⟩
    have HB2 := Lib.hid (HB1.out.trans (hB2.mono HB1.out.size)); have HZ2 := Lib.hid (HZ.out.kept hB2)
    have hs2 := HB2.out.size
    clear hB2
    go_wp2_with fail
    refine (records_any w1.heap.size z apex L hL2 w2 HZ2.out.v).mono ?_
    rintro e w3 ⟨v3, rfl, hB3, hown3⟩
    have hrec := owns_recs hown3
    have hform := owns_form hown3
    obtain ⟨a3, cap3, rfl, -⟩ := id hrec
    have HB3 := Lib.hid (HB2.out.trans (hB3.mono hs2)); have HZ3 := Lib.hid (HZ2.out.kept hB3); have HR3 := Lib.hid hrec; have HF3 := Lib.hid hform
    have hs3 := HB3.out.size
    clear hB3 hown3 hrec hform
    go_wp2_with fail
    go_loopw [9, 10] (fun kv _ wr => ∃ k : Nat, 1 ≤ k ∧ k ≤ L.length + 1 ∧ kv = .int .i64 (k : Int) ∧ Below w3.heap.size w3 wr) (fun kv _ _ => L.length + 1 - (intOf kv).toNat)
    case atStart => exact ⟨1, Nat.le_refl _, by omega, rfl, Below.refl _ _⟩
    case round =>
      obtain ⟨k, h1, hk, rfl, hB⟩ := hrel
      have hsr := hB.size
      by_cases hlt : k < L.length
      · obtain ⟨a', cap', hv, _, hr⟩ := RecsAt.below HR3.out hB
        simp only [Value.slice.injEq, true_and] at hv
        obtain ⟨rfl, rfl⟩ := hv
        obtain ⟨b, off, rfl, hbl, c0, c1, c2, c3, c4⟩ := hr (k - 1) (by omega)
        obtain ⟨b', off', hbo, hbl', d0, d1, d2, d3, d4⟩ := hr k hlt
        simp only [Option.some.injEq, Addr.mk.injEq, and_true] at hbo
        obtain ⟨rfl, rfl⟩ := hbo
        have hsort := HZ.out.sorted
        rw [List.pairwise_iff_getElem] at hsort
        have ho := hsort (k - 1) k (by omega) hlt (by omega)
        rw [orderI_if] at ho
        have hx := HZ.out.named _ (List.getElem_mem (show k - 1 < L.length by omega))
        have hy := HZ.out.named _ (List.getElem_mem hlt)
        obtain ⟨x, hxe⟩ : ∃ x, x = L[k - 1] := ⟨_, rfl⟩
        obtain ⟨y, hye⟩ : ∃ y, y = L[k] := ⟨_, rfl⟩
        rw [← hxe] at c0 c1 hx ho
        rw [← hye] at d0 d1 hy ho
        have e0 := gw_cell c0; have e1 := gw_cell d0
        have hk1 : (k : Int) - 1 = ((k - 1 : Nat) : Int) := by omega
        have hk2 : IntKind.i64.wrap ((k - 1 : Nat) : Int) = ((k - 1 : Nat) : Int) := by rw [IntKind.wrap_i64]; omega
        have hk3 : ((k - 1 : Nat) : Int) < (L.length : Int) := by omega
        have hk4 : (0 : Int) ≤ ((k - 1 : Nat) : Int) := by omega
        have HO := Lib.hid ho; have HX := Lib.hid hx; have HY := Lib.hid hy; have HC1 := Lib.hid c1; have HD1 := Lib.hid d1
        have hcs := checkB_size hx
        have hcs2 := checkB_size hy
        clear ho hx hy hsort hr hxe hye c0 c1 c2 c3 c4 d0 d1 d2 d3 d4
        go_wp2_with fail
        refine wp_region_gw (by kernel_rfl) (by kernel_rfl) ?_
        repeat (with_reducible refine wpQuiet_step (fun K hK => ?_); go_simp; first | (with_reducible refine hK _ ?_; clear hK K) | (apply Exists.intro; refine ⟨fun _ => ?_, hK _ ?_⟩; (first | (go_at_call 36; exact calls_gw (compare_any _ _ (by omega) (by omega) _))); clear hK K))
        with_reducible refine wpQuiet_nil ?_
        intro W hW
        have hBW : Below wr.heap.size wr W := by obtain ⟨p, rfl⟩ := hW; exact gw_below _ p
        obtain ⟨c, hc⟩ : ∃ c, c = compareI x.owner y.owner := ⟨_, rfl⟩
        rw [← hc]
        have hcl : c ≤ 0 ∧ (c = 0 → x.typ ≤ y.typ) := by
          have ho := HO.out
          rw [← hc] at ho
          split at ho
          · refine ⟨by omega, fun _ => ?_⟩
            split at ho
            · rename_i h1
              have := (int_zero x.typ y.typ).1 h1
              omega
            · unfold Lib.compareInt at ho
              split at ho
              · omega
              · split at ho <;> omega
          · exact ⟨ho, fun h => by omega⟩
        obtain ⟨hc1, hc2⟩ := hcl
        have HBW := Lib.hid (hB.trans (hBW.mono hsr))
        have f1 := gw_cell ((hBW.cell (p := ⟨b, off + (k - 1) * 5 + 1, none⟩) hbl).trans HC1.out)
        have f2 := gw_cell ((hBW.cell (p := ⟨b, off + k * 5 + 1, none⟩) hbl').trans HD1.out)
        clear hW e0 e1 hBW hc hB
        go_upto_region 11 with fail
        go_cut [67] (fun s wx => s = .bool false ∧ Below W.heap.size W wx)
        case first =>
          by_cases h0 : c = 0
          · have hty := hc2 h0
            have q1 : decide ((0 : Int) < c) = false := decide_eq_false (by omega)
            have q2 : (c == 0) = true := by rw [beq_iff_eq]; exact h0
            have q3 : decide (y.typ < x.typ) = false := decide_eq_false (by omega)
            clear hc1 hc2 h0 hty
            refine wp_region_gw (by kernel_rfl) (by kernel_rfl) ?_
            repeat (with_reducible refine wpQuiet_step (fun K hK => ?_); go_simp; (try simp only [undef]); first | (with_reducible refine hK _ ?_; clear hK K))
            with_reducible refine wpQuiet_nil ?_
            intro W2 hW2
            have hBW2 : Below W.heap.size W W2 := by obtain ⟨p, rfl⟩ := hW2; exact gw_below _ p
            have HBW2 := Lib.hid hBW2
            clear hW2 hBW2
            go_wp2_with fail
            go_meet
            exact ⟨rfl, HBW2.out⟩
          · have q1 : decide ((0 : Int) < c) = false := decide_eq_false (by omega)
            have q2 : (c == 0) = false := by rw [beq_eq_false_iff_ne]; exact h0
            clear hc1 hc2 h0
            refine wp_region_gw (by kernel_rfl) (by kernel_rfl) ?_
            repeat (with_reducible refine wpQuiet_step (fun K hK => ?_); go_simp; (try simp only [undef]); first | (with_reducible refine hK _ ?_; clear hK K))
            with_reducible refine wpQuiet_nil ?_
            intro W2 hW2
            have hBW2 : Below W.heap.size W W2 := by obtain ⟨p, rfl⟩ := hW2; exact gw_below _ p
            have HBW2 := Lib.hid hBW2
            clear hW2 hBW2
            go_wp2_with fail
            go_meet
            exact ⟨rfl, HBW2.out⟩
        case rest =>
        obtain ⟨rfl, hBc⟩ := hcut
        have HBC := Lib.hid (HBW.out.trans (hBc.mono (by have := HBW.out.size; omega)))
        clear hBc f1 f2 hc1 hc2
        go_wp2_with fail
        go_roundw
        case rel => exact ⟨k + 1, by omega, by omega, by go_num, HBC.out⟩
        case measure => simp [intOf]; omega
      · have hlt' : (L.length : Int) ≤ (k : Int) := by omega
        have hB0r := HB3.out.trans (hB.mono hs3)
        have HB0R := Lib.hid hB0r; have HZR := Lib.hid (HZ3.out.kept hB)
        have HNR := Lib.hid (new_any apex L HOKL.out _ HF3.out wr (HR3.out.below hB)); have HRR := Lib.hid (HR3.out.below hB)
        have hs0r := hB0r.size
        clear hB hlt hB0r
        go_wp2_with fail
        refine HNR.out.mono ?_
        intro e w4 hp
        obtain ⟨hB4, z2, L2, hz2, hs2', rfl, hzf2⟩ := newPost_zone hp HNL.out
        have hu : zn.Uniq L := zn.uniq_of (zn.distinct_of (zn.rules_twice HVA.out.rules))
        have hLe : L2 = L := hs2'.eq ⟨List.Perm.refl _, HZ.out.sorted⟩ HZ.out.named hu
        subst hLe
        have HB4 := Lib.hid (HB0R.out.trans (hB4.mono hs0r)); have HZ4 := Lib.hid (HZR.out.kept hB4); have HR4 := Lib.hid (HRR.out.below hB4); have HY4 := Lib.hid hzf2
        have hs4 := HB4.out.size
        clear hp hB4 hs2' hzf2 hu hz2
        go_wp2_with fail
        refine (records_any w4.heap.size z2 apex L2 hL2 w4 HY4.out.v).mono ?_
        rintro e w5 ⟨v5, rfl, hB5, hown5⟩
        have HR5 := Lib.hid (owns_recs hown5); have HB5 := Lib.hid (HB4.out.trans (hB5.mono hs4)); have HZ5 := Lib.hid (HZ4.out.kept hB5); have HR45 := Lib.hid (HR4.out.below hB5)
        have hs5 := HB5.out.size
        clear hB5 hown5
        go_wp2_with fail
        refine (same_any L2 L2 (by omega) _ _ w5 HR5.out HR45.out).mono ?_
        rintro e w6 ⟨rfl, hB6⟩
        rw [decide_eq_true rfl]
        have HB6 := Lib.hid (HB5.out.trans (hB6.mono hs5)); have HZ6 := Lib.hid (HZ5.out.kept hB6)
        have hs6 := HB6.out.size
        clear hB6
        go_wp2_with fail
        refine (names_any w1.heap.size z apex L2 hL2 HZ.out.named w6 HZ6.out.v).mono ?_
        rintro e w7 ⟨N, hN, v7, rfl, hB7, hown7⟩
        have hsr7 := owns_strsR hown7
        obtain ⟨a7, cap7, rfl, -⟩ := id hsr7
        have hfirst := zn.names_first HVA.out hN
        have hstrict := fun k h1 hk => zn.names_strict (k := k) HVA.out hN h1 hk
        have hnames : ∀ n ∈ N, n.size ≤ 255 := fun n hn => checkB_size (zn.there_name HVA.out ((hN.2.1 n).1 hn)).1
        obtain ⟨m, hm⟩ : ∃ m, m = N.length := ⟨_, rfl⟩
        have hmL : m ≤ 1000000000 := by
          rw [hm]
          have := names_len hL2 HVA.out hN
          omega
        rw [← hm]
        have HB7 := Lib.hid (HB6.out.trans (hB7.mono hs6)); have HSR := Lib.hid hsr7; have HFI := Lib.hid hfirst; have HST := Lib.hid hstrict; have HNA := Lib.hid hnames; have HM := Lib.hid hm
        have hs7 := HB7.out.size
        clear hB7 hown7 hsr7 hfirst hstrict hnames hm hN
        go_wp2_with fail
        go_loopw [14] (fun kv wr => ∃ k : Nat, 1 ≤ k ∧ k ≤ m + 1 ∧ kv = .int .i64 (k : Int) ∧ Below w7.heap.size w7 wr) (fun kv _ => m + 1 - (intOf kv).toNat)
        case atStart => exact ⟨1, Nat.le_refl _, by omega, rfl, Below.refl _ _⟩
        case round =>
          obtain ⟨j, h1, hj, rfl, hBq⟩ := hrel
          have hsq := hBq.size
          by_cases hjm : j < m
          · have hjN : j < N.length := by rw [← HM.out]; exact hjm
            obtain ⟨a', cap', hv, hr⟩ := HSR.out.below hBq
            simp only [Value.slice.injEq] at hv
            obtain ⟨rfl, -, rfl⟩ := hv
            obtain ⟨b, off, rfl, hbl, c0⟩ := hr (j - 1) (by omega)
            obtain ⟨b', off', hbo, hbl', d0⟩ := hr j hjN
            simp only [Option.some.injEq, Addr.mk.injEq, and_true] at hbo
            obtain ⟨rfl, rfl⟩ := hbo
            have hcmp := HST.out j h1 hjN
            obtain ⟨x, hxe⟩ : ∃ x, x = N[j - 1] := ⟨_, rfl⟩
            obtain ⟨y, hye⟩ : ∃ y, y = N[j] := ⟨_, rfl⟩
            have hxs := HNA.out x (by rw [hxe]; exact List.getElem_mem _)
            have hys := HNA.out y (by rw [hye]; exact List.getElem_mem _)
            rw [← hxe] at c0 hcmp
            rw [← hye] at d0 hcmp
            have e0 := gw_cell c0; have e1 := gw_cell d0
            have hj1 : (j : Int) - 1 = ((j - 1 : Nat) : Int) := by omega
            have hj2 : IntKind.i64.wrap ((j - 1 : Nat) : Int) = ((j - 1 : Nat) : Int) := by rw [IntKind.wrap_i64]; omega
            have hj3 : ((j - 1 : Nat) : Int) < (m : Int) := by omega
            have hj4 : (0 : Int) ≤ ((j - 1 : Nat) : Int) := by omega
            have HBQ := Lib.hid hBq
            clear hr hxe hye c0 d0 hBq
            go_wp2_with fail
            refine wp_region_gw (by kernel_rfl) (by kernel_rfl) ?_
            repeat (with_reducible refine wpQuiet_step (fun K hK => ?_); go_simp; first | (with_reducible refine hK _ ?_; clear hK K) | (apply Exists.intro; refine ⟨fun _ => ?_, hK _ ?_⟩; (first | (go_at_call 36; exact calls_gw (compare_any _ _ (by omega) (by omega) _))); clear hK K))
            with_reducible refine wpQuiet_nil ?_
            intro W hW
            have hBW : Below wr.heap.size wr W := by obtain ⟨p, rfl⟩ := hW; exact gw_below _ p
            have HBW := Lib.hid (HBQ.out.trans (hBW.mono hsq))
            clear hW hBW e0 e1
            go_wp2_with fail
            go_roundw
            case rel => exact ⟨j + 1, by omega, by omega, by go_num, HBW.out⟩
            case measure => simp [intOf]; omega
          · have hjm' : (m : Int) ≤ (j : Int) := by omega
            obtain ⟨h0, heq⟩ := HFI.out
            obtain ⟨a', cap', hv, hr⟩ := HSR.out.below hBq
            simp only [Value.slice.injEq] at hv
            obtain ⟨rfl, -, rfl⟩ := hv
            obtain ⟨b, off, rfl, hbl, c0⟩ := hr 0 h0
            have hm0 : (0 : Int) < (m : Int) := by rw [HM.out]; omega
            simp only [Nat.add_zero] at c0
            have HB8 := Lib.hid (HB7.out.trans (hBq.mono hs7)); have HEQ := Lib.hid heq
            clear hr heq hBq hjm
            go_wp2_with fail
            refine (equal_any _ _ _).mono ?_
            rintro e w8 ⟨rfl, hB8⟩
            rw [HEQ.out]
            have HB9 := Lib.hid (HB8.out.trans (hB8.mono HB8.out.size))
            clear hB8
            go_wp2_with fail
            go_ret
            exact ⟨rfl, HB9.out⟩
  · obtain ⟨hB1, rfl⟩ := newPost_bad hp hne
    have hc := zn.newE_code hne
    have b1 : (c != 0) = true := by rw [bne_iff_ne]; exact hc
    have HB1 := Lib.hid hB1
    clear hp hne hc hB1 HN
    go_wp2_with fail
    refine (begins_any _).mono ?_
    rintro e w2 ⟨rfl, hB2⟩
    have HB2 := Lib.hid (HB1.out.trans (hB2.mono HB1.out.size))
    clear hB2
    go_wp2_with fail
    go_ret
    exact ⟨rfl, HB2.out⟩
end Go.Proofs.YtpjoaghnciomeaaGreat

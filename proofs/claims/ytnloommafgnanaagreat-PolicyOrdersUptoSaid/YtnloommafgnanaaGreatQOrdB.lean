/-
  policy.isSet.
-/
import Derived.Test.YtnloommafgnanaaGreatQOrdA
import Derived.Test.YtnloommafgnanaaGreatQZoneC
import Derived.Test.YtnloommafgnanaaGreatQZoneF
namespace Go.Proofs.YtnloommafgnanaaGreat
open Go.RowKit Go.Shelf Go.Proofs.YtnloommafgnanaaGreat.nm Go.Proofs.YtnloommafgnanaaGreat.od

namespace po
/-- A record of a set of type t at o. -/
def goodS (t : Int) (o : ByteArray) (x : Rec) : Bool := checkB x.owner && decide (x.cls = 1) && decide (0 ≤ x.ttl) && decide (x.ttl ≤ 2147483647) && decide (x.typ = t) && decide (dt.chkI t x.data = 0) && equalB x.owner o
def fds (t : Int) : List Rec → List ByteArray → List ByteArray
  | [], acc => acc
  | x :: l, acc => fds t l (insK acc (dt.foldD t x.data))
def headO (l : List Rec) : ByteArray := (l.head?.map (·.owner)).getD ⟨#[]⟩
/-- Is it a set of type t? -/
def setB (t : Int) (l : List Rec) : Bool := l.all (goodS t (headO l)) && decide (0 < l.length) && decide ((fds t l []).length = l.length)
theorem fds_snoc (t : Int) (x : Rec) : ∀ (l : List Rec) (acc : List ByteArray), fds t (l ++ [x]) acc = insK (fds t l acc) (dt.foldD t x.data)
  | [], _ => rfl
  | _ :: l, _ => fds_snoc t x l _
theorem ins_len (acc : List ByteArray) (a : ByteArray) : (insK acc a).length = acc.length + if a ∈ acc then 0 else 1 := by
  unfold insK
  by_cases h : a ∈ acc
  · rw [if_pos h, if_pos h]; rfl
  · rw [if_neg h, if_neg h]; simp
theorem fds_le (t : Int) : ∀ (l : List Rec) (acc : List ByteArray), (fds t l acc).length ≤ acc.length + l.length
  | [], acc => Nat.le_refl acc.length
  | x :: l, acc => by
    have := fds_le t l (insK acc (dt.foldD t x.data))
    have h2 := ins_len acc (dt.foldD t x.data)
    simp only [fds, List.length_cons]
    split at h2 <;> omega
end po
theorem po.good_of {t : Int} {o : ByteArray} {x : Rec} (h1 : checkB x.owner = true) (h2 : x.cls = 1) (h3 : 0 ≤ x.ttl) (h4 : x.ttl ≤ 2147483647) (h5 : x.typ = t) (h6 : dt.chkI t x.data = 0) (h7 : equalB x.owner o = true) : po.goodS t o x = true := by simp [po.goodS, *]
theorem po.bad1 {t : Int} {o : ByteArray} {x : Rec} (h1 : checkB x.owner = false) : po.goodS t o x = false := by simp [po.goodS, h1]
theorem po.bad2 {t : Int} {o : ByteArray} {x : Rec} (h1 : x.cls ≠ 1) : po.goodS t o x = false := by simp [po.goodS, h1]
theorem po.bad3 {t : Int} {o : ByteArray} {x : Rec} (h1 : x.ttl < 0) : po.goodS t o x = false := by simp [po.goodS, show ¬ 0 ≤ x.ttl by omega]
theorem po.bad4 {t : Int} {o : ByteArray} {x : Rec} (h1 : 2147483647 < x.ttl) : po.goodS t o x = false := by simp [po.goodS, show ¬ x.ttl ≤ 2147483647 by omega]
theorem po.bad5 {t : Int} {o : ByteArray} {x : Rec} (h1 : x.typ ≠ t) : po.goodS t o x = false := by simp [po.goodS, h1]
theorem po.bad6 {t : Int} {o : ByteArray} {x : Rec} (h1 : dt.chkI t x.data ≠ 0) : po.goodS t o x = false := by simp [po.goodS, h1]
theorem po.bad7 {t : Int} {o : ByteArray} {x : Rec} (h1 : equalB x.owner o = false) : po.goodS t o x = false := by simp [po.goodS, h1]
theorem theres_len {w : World} {b : Nat} {dom : List ByteArray} (h : TheresV w b dom) (ty : TypeId) : (Builtin.len_ #[67] ty #[.map (some b)]).run Tryz.prog w = .ok (.int .i64 (dom.length : Int)) w := by
  obtain ⟨f, _, _, es, c, hb, he, _⟩ := h
  have hl : es.size = dom.length := by
    have := congrArg List.length he
    simpa using this
  simp [Builtin.len_, run_underlying Tryz.underlying67, MapKept.run_getObj_map hb, goInt, hl]
theorem po.set_bad {t : Int} {l : List Rec} {k : Nat} (hk : k < l.length) (h : po.goodS t (po.headO l) l[k] = false) : po.setB t l = false := by
  unfold po.setB
  have : l.all (po.goodS t (po.headO l)) = false := by
    rw [List.all_eq_false]
    exact ⟨l[k], List.getElem_mem hk, by simp [h]⟩
  simp [this]
set_option maxRecDepth 100000 in
set_option maxHeartbeats 8000000 in
theorem isSet_any (t : Int) (l : List Rec) (hl : l.length ≤ 1000000000000) (v : Value) (w : World) (hv : RecsAt w v l) :
    Calls Tryz.prog 18 #[v, .int .i64 t] w fun e w' => e = .returned (.bool (po.setB t l)) ∧ Below w.heap.size w w' := by
  have hmm := @run_makeMap Tryz.prog
  obtain ⟨a, cap, rfl, -⟩ := id hv
  have HV := Lib.hid hv
  clear hv
  obtain ⟨sb, hsb⟩ : ∃ sb, sb = po.setB t l := ⟨_, rfl⟩
  rw [← hsb]
  have HSB := Lib.hid hsb
  clear hsb
  go_enter Tryz.func18, Tryz.ntmps18
  go_wp2_with fail
  obtain ⟨mb, hmb⟩ : ∃ mb, mb = w.heap.size := ⟨_, rfl⟩
  obtain ⟨ws, hws⟩ : ∃ X, X = w.alloc (.map #[] 0) := ⟨_, rfl⟩
  have hBs : Below w.heap.size w ws := by rw [hws]; exact (Below.refl _ w).alloc (Nat.le_refl _) _
  have hTs : TheresV ws mb [] := by rw [hws, hmb]; exact TheresV.made w
  rw [← hws, ← hmb]
  have HBS := Lib.hid hBs; have HTS := Lib.hid hTs; have HMB := Lib.hid hmb
  clear hws hBs hTs hmb hmm
  go_loopw [11] (fun kv wr => ∃ k : Nat, k ≤ l.length ∧ kv = .int .i64 (k : Int) ∧ Hid (Below w.heap.size w wr ∧ TheresV wr mb (po.fds t (l.take k) []) ∧ ∀ j (hj : j < l.length), j < k → po.goodS t (po.headO l) l[j] = true)) (fun kv _ => l.length - (intOf kv).toNat)
  case atStart => exact ⟨0, Nat.zero_le _, rfl, Lib.hid ⟨HBS.out, HTS.out, fun j _ hj => absurd hj (Nat.not_lt_zero _)⟩⟩
  case round =>
    obtain ⟨k, hk, rfl, HR⟩ := hrel
    by_cases hlt : k < l.length
    · obtain ⟨b, off, cp, hv, -⟩ := recs_some (HV.out.below HR.out.1) hlt
      simp only [Value.slice.injEq, true_and] at hv
      obtain ⟨rfl, rfl⟩ := hv
      obtain ⟨hb, c0, c1, c2, c3, c4⟩ := cells_at (HV.out.below HR.out.1) hlt
      obtain ⟨-, d0, -⟩ := cells_at (HV.out.below HR.out.1) (show 0 < l.length by omega)
      simp only [Nat.zero_mul, Nat.add_zero] at d0
      obtain ⟨x, hx⟩ : ∃ x, x = l[k] := ⟨_, rfl⟩
      obtain ⟨o, ho⟩ : ∃ o, o = po.headO l := ⟨_, rfl⟩
      have ho2 : (l[0]'(by omega)).owner = o := by
        rw [ho]; unfold po.headO
        cases l with
        | nil => simp at hlt
        | cons y r => rfl
      rw [← hx] at c0 c1 c2 c3 c4
      rw [ho2] at d0
      obtain ⟨w1, hw1⟩ : ∃ X, X = wr.alloc (.cells (recC x).toArray 42) := ⟨_, rfl⟩
      obtain ⟨hB1, hs1, hx1⟩ := rec_new wr w1 x hw1
      have hd1 : w1.cell? ⟨b, off, none⟩ = some (.string o) := (hB1.cell (p := ⟨b, off, none⟩) hb).trans d0
      have HBR := Lib.hid (HR.out.1.trans (hB1.mono HR.out.1.size))
      have HZ := Lib.hid HBR.out.size
      have HT1 := Lib.hid (HR.out.2.1.keep (w' := w1) fun hl => hB1.block mb hl)
      have CC : Hid (∀ g, Calls Tryz.prog 38 #[.string x.owner] (gw w1 g) fun e w'' => e = .returned (okV (checkB x.owner)) ∧ ∃ g', w'' = gw w1 g') := Lib.hid fun g => calls_gw (check_any x.owner _)
      have CD : Hid (∀ g, Calls Tryz.prog 39 #[.int .i64 t, .string x.data] (gw w1 g) fun e w'' => e = .returned (.int .i64 (dt.chkI t x.data)) ∧ ∃ g', w'' = gw w1 g') := Lib.hid fun g => calls_gw (dcheck_any t x.data _)
      have CE : Hid (∀ g, Calls Tryz.prog 40 #[.string x.owner, .string o] (gw w1 g) fun e w'' => e = .returned (.bool (equalB x.owner o)) ∧ ∃ g', w'' = gw w1 g') := Lib.hid fun g => calls_gw (equal_any x.owner o _)
      have hki : (k : Int) < (l.length : Int) := by omega
      have h0i : (0 : Int) < (l.length : Int) := by omega
      have h0n : 0 < l.length := by omega
      have HX := Lib.hid hx; have HH := Lib.hid ho; have HW1 := Lib.hid hw1; have HS1 := Lib.hid hs1
      clear ho ho2 hx hw1 hB1 hs1 d0 hb
      go_upto_region 5 with fail
      rw [← HW1.out]
      clear c0 c1 c2 c3 c4
      obtain ⟨x0, x1, x2, x3, x4⟩ := hx1
      simp only [Nat.zero_add] at x0 x1 x2 x3 x4
      obtain ⟨xb, hxb⟩ : ∃ xb, xb = wr.heap.size := ⟨_, rfl⟩
      rw [← hxb] at x0 x1 x2 x3 x4 ⊢
      have g0 := gw_cell x0; have g1 := gw_cell x1; have g2 := gw_cell x2; have g3 := gw_cell x3; have g4 := gw_cell x4
      have gh := gw_cell hd1
      have HXB := Lib.hid hxb
      have HX4 := Lib.hid x4
      have HXL := Lib.hid (show xb < w1.heap.size by have := HS1.out; have := HXB.out; omega)
      clear x0 x1 x2 x3 x4 hd1 hxb
      by_cases k1 : checkB x.owner = true
      · have HK1 := Lib.hid k1
        rw [k1, okV_t] at CC
        clear k1
        by_cases k2 : x.cls = 1
        · have f2 : (x.cls != 1) = false := by rw [bne_eq_false_iff_eq]; exact k2
          have HK2 := Lib.hid k2
          clear k2
          by_cases k3 : x.ttl < 0
          · have f3 : decide (x.ttl < 0) = true := decide_eq_true k3
            have HE := Lib.hid (po.set_bad (t := t) hlt (by rw [← HX.out, ← HH.out]; exact (po.bad3 k3)))
            refine wp_region_gw (by kernel_rfl) (by kernel_rfl) ?_
            repeat (with_reducible refine wpQuiet_step (fun K hK => ?_); go_simp; (try simp only [undef]); first | (with_reducible refine hK _ ?_; clear hK K) | (apply Exists.intro; refine ⟨fun _ => ?_, hK _ ?_⟩; (first | (go_at_call 38; with_reducible exact CC.out _) | (go_at_call 39; with_reducible exact CD.out _) | (go_at_call 40; with_reducible exact CE.out _)); clear hK K) | (with_reducible refine ⟨fun _ h => (by cases h), ?_⟩; with_reducible refine hK _ ?_; clear hK K))
            refine wpQuiet_nil ?_
            (try simp only [show Value.tuple #[] = undef from rfl])
            intro W hW
            have hBW : Below w1.heap.size w1 W := by obtain ⟨g, rfl⟩ := hW; exact gw_below _ g
            clear hW
            have HBW := Lib.hid (HBR.out.trans (hBW.mono HZ.out))
            clear hBW
            go_wp2_with fail
            go_ret
            exact ⟨ret_b (HE.out.symm.trans HSB.out.symm), HBW.out⟩
          · have f3 : decide (x.ttl < 0) = false := decide_eq_false k3
            by_cases k4 : 2147483647 < x.ttl
            · have f4 : decide (2147483647 < x.ttl) = true := decide_eq_true k4
              have HE := Lib.hid (po.set_bad (t := t) hlt (by rw [← HX.out, ← HH.out]; exact (po.bad4 k4)))
              refine wp_region_gw (by kernel_rfl) (by kernel_rfl) ?_
              repeat (with_reducible refine wpQuiet_step (fun K hK => ?_); go_simp; (try simp only [undef]); first | (with_reducible refine hK _ ?_; clear hK K) | (apply Exists.intro; refine ⟨fun _ => ?_, hK _ ?_⟩; (first | (go_at_call 38; with_reducible exact CC.out _) | (go_at_call 39; with_reducible exact CD.out _) | (go_at_call 40; with_reducible exact CE.out _)); clear hK K) | (with_reducible refine ⟨fun _ h => (by cases h), ?_⟩; with_reducible refine hK _ ?_; clear hK K))
              refine wpQuiet_nil ?_
              (try simp only [show Value.tuple #[] = undef from rfl])
              intro W hW
              have hBW : Below w1.heap.size w1 W := by obtain ⟨g, rfl⟩ := hW; exact gw_below _ g
              clear hW
              have HBW := Lib.hid (HBR.out.trans (hBW.mono HZ.out))
              clear hBW
              go_wp2_with fail
              go_ret
              exact ⟨ret_b (HE.out.symm.trans HSB.out.symm), HBW.out⟩
            · have f4 : decide (2147483647 < x.ttl) = false := decide_eq_false k4
              by_cases k5 : x.typ = t
              · have f5 : (x.typ != t) = false := by rw [bne_eq_false_iff_eq]; exact k5
                have HK5 := Lib.hid k5
                clear k5
                by_cases k6 : dt.chkI t x.data = 0
                · have f6 : (dt.chkI t x.data != 0) = false := by rw [bne_eq_false_iff_eq]; exact k6
                  have HK6 := Lib.hid k6
                  clear k6
                  by_cases k7 : equalB x.owner o = true
                  · have HK7 := Lib.hid k7
                    rw [k7] at CE
                    have HG := Lib.hid (po.good_of HK1.out HK2.out (by omega) (by omega) HK5.out HK6.out k7)
                    clear k7
                    refine wp_region_gw (by kernel_rfl) (by kernel_rfl) ?_
                    repeat (with_reducible refine wpQuiet_step (fun K hK => ?_); go_simp; (try simp only [undef]); first | (with_reducible refine hK _ ?_; clear hK K) | (apply Exists.intro; refine ⟨fun _ => ?_, hK _ ?_⟩; (first | (go_at_call 38; with_reducible exact CC.out _) | (go_at_call 39; with_reducible exact CD.out _) | (go_at_call 40; with_reducible exact CE.out _)); clear hK K) | (with_reducible refine ⟨fun _ h => (by cases h), ?_⟩; with_reducible refine hK _ ?_; clear hK K))
                    refine wpQuiet_nil ?_
                    (try simp only [show Value.tuple #[] = undef from rfl])
                    intro W hW
                    have hBW : Below w1.heap.size w1 W := by obtain ⟨g, rfl⟩ := hW; exact gw_below _ g
                    clear hW
                    have x4w : W.cell? ⟨xb, 4, none⟩ = some (.string x.data) := (hBW.cell (p := ⟨xb, 4, none⟩) HXL.out).trans HX4.out
                    have HTW := Lib.hid (HT1.out.keep (w' := W) fun hl => hBW.block mb hl)
                    have HBW := Lib.hid (HBR.out.trans (hBW.mono HZ.out))
                    clear hBW g0 g1 g2 g3 g4 gh f2 f3 f4 f5 f6
                    go_wp2_with fail
                    refine (dfold_any t x.data W).mono ?_
                    rintro e w3 ⟨rfl, hB3⟩
                    have HT3 := Lib.hid (HTW.out.keep (w' := w3) fun hl => hB3.block mb hl)
                    obtain ⟨y, -, hu⟩ := theres_step HT3.out (foldD_size t x.data)
                    obtain ⟨w4, hrun, hg4, hT4⟩ := hu 1
                    have HB3 := Lib.hid (HBW.out.trans (hB3.mono HBW.out.size))
                    have HB4 := Lib.hid (HB3.out.grown hg4 HB3.out.size (fun j hj => by simp only [Option.some.injEq] at hj; rw [← hj, HMB.out]; exact Nat.le_refl _))
                    have HT4 := Lib.hid hT4
                    clear hB3 hu hg4 hT4 x4w
                    go_wp2_with fail
                    go_roundw
                    case rel =>
                      refine ⟨k + 1, by omega, by go_num, Lib.hid ⟨HB4.out, ?_, fun j hj hjk => ?_⟩⟩
                      · rw [List.take_succ_eq_append_getElem hlt, po.fds_snoc, ← HX.out]
                        exact HT4.out
                      · rcases Nat.lt_or_ge j k with h | h
                        · exact HR.out.2.2 j hj h
                        · obtain rfl : j = k := by omega
                          rw [← HX.out, ← HH.out]
                          exact HG.out
                    case measure => simp [intOf]; omega
                  · have k7' : equalB x.owner o = false := by simpa using k7
                    rw [k7'] at CE
                    have HE := Lib.hid (po.set_bad (t := t) hlt (by rw [← HX.out, ← HH.out]; exact (po.bad7 k7')))
                    refine wp_region_gw (by kernel_rfl) (by kernel_rfl) ?_
                    repeat (with_reducible refine wpQuiet_step (fun K hK => ?_); go_simp; (try simp only [undef]); first | (with_reducible refine hK _ ?_; clear hK K) | (apply Exists.intro; refine ⟨fun _ => ?_, hK _ ?_⟩; (first | (go_at_call 38; with_reducible exact CC.out _) | (go_at_call 39; with_reducible exact CD.out _) | (go_at_call 40; with_reducible exact CE.out _)); clear hK K) | (with_reducible refine ⟨fun _ h => (by cases h), ?_⟩; with_reducible refine hK _ ?_; clear hK K))
                    refine wpQuiet_nil ?_
                    (try simp only [show Value.tuple #[] = undef from rfl])
                    intro W hW
                    have hBW : Below w1.heap.size w1 W := by obtain ⟨g, rfl⟩ := hW; exact gw_below _ g
                    clear hW
                    have HBW := Lib.hid (HBR.out.trans (hBW.mono HZ.out))
                    clear hBW
                    go_wp2_with fail
                    go_ret
                    exact ⟨ret_b (HE.out.symm.trans HSB.out.symm), HBW.out⟩
                · have f6 : (dt.chkI t x.data != 0) = true := by rw [bne_iff_ne]; exact k6
                  have HE := Lib.hid (po.set_bad (t := t) hlt (by rw [← HX.out, ← HH.out]; exact (po.bad6 k6)))
                  refine wp_region_gw (by kernel_rfl) (by kernel_rfl) ?_
                  repeat (with_reducible refine wpQuiet_step (fun K hK => ?_); go_simp; (try simp only [undef]); first | (with_reducible refine hK _ ?_; clear hK K) | (apply Exists.intro; refine ⟨fun _ => ?_, hK _ ?_⟩; (first | (go_at_call 38; with_reducible exact CC.out _) | (go_at_call 39; with_reducible exact CD.out _) | (go_at_call 40; with_reducible exact CE.out _)); clear hK K) | (with_reducible refine ⟨fun _ h => (by cases h), ?_⟩; with_reducible refine hK _ ?_; clear hK K))
                  refine wpQuiet_nil ?_
                  (try simp only [show Value.tuple #[] = undef from rfl])
                  intro W hW
                  have hBW : Below w1.heap.size w1 W := by obtain ⟨g, rfl⟩ := hW; exact gw_below _ g
                  clear hW
                  have HBW := Lib.hid (HBR.out.trans (hBW.mono HZ.out))
                  clear hBW
                  go_wp2_with fail
                  go_ret
                  exact ⟨ret_b (HE.out.symm.trans HSB.out.symm), HBW.out⟩
              · have f5 : (x.typ != t) = true := by rw [bne_iff_ne]; exact k5
                have HE := Lib.hid (po.set_bad (t := t) hlt (by rw [← HX.out, ← HH.out]; exact (po.bad5 k5)))
                refine wp_region_gw (by kernel_rfl) (by kernel_rfl) ?_
                repeat (with_reducible refine wpQuiet_step (fun K hK => ?_); go_simp; (try simp only [undef]); first | (with_reducible refine hK _ ?_; clear hK K) | (apply Exists.intro; refine ⟨fun _ => ?_, hK _ ?_⟩; (first | (go_at_call 38; with_reducible exact CC.out _) | (go_at_call 39; with_reducible exact CD.out _) | (go_at_call 40; with_reducible exact CE.out _)); clear hK K) | (with_reducible refine ⟨fun _ h => (by cases h), ?_⟩; with_reducible refine hK _ ?_; clear hK K))
                refine wpQuiet_nil ?_
                (try simp only [show Value.tuple #[] = undef from rfl])
                intro W hW
                have hBW : Below w1.heap.size w1 W := by obtain ⟨g, rfl⟩ := hW; exact gw_below _ g
                clear hW
                have HBW := Lib.hid (HBR.out.trans (hBW.mono HZ.out))
                clear hBW
                go_wp2_with fail
                go_ret
                exact ⟨ret_b (HE.out.symm.trans HSB.out.symm), HBW.out⟩
        · have f2 : (x.cls != 1) = true := by rw [bne_iff_ne]; exact k2
          have HE := Lib.hid (po.set_bad (t := t) hlt (by rw [← HX.out, ← HH.out]; exact (po.bad2 k2)))
          refine wp_region_gw (by kernel_rfl) (by kernel_rfl) ?_
          repeat (with_reducible refine wpQuiet_step (fun K hK => ?_); go_simp; (try simp only [undef]); first | (with_reducible refine hK _ ?_; clear hK K) | (apply Exists.intro; refine ⟨fun _ => ?_, hK _ ?_⟩; (first | (go_at_call 38; with_reducible exact CC.out _) | (go_at_call 39; with_reducible exact CD.out _) | (go_at_call 40; with_reducible exact CE.out _)); clear hK K) | (with_reducible refine ⟨fun _ h => (by cases h), ?_⟩; with_reducible refine hK _ ?_; clear hK K))
          refine wpQuiet_nil ?_
          (try simp only [show Value.tuple #[] = undef from rfl])
          intro W hW
          have hBW : Below w1.heap.size w1 W := by obtain ⟨g, rfl⟩ := hW; exact gw_below _ g
          clear hW
          have HBW := Lib.hid (HBR.out.trans (hBW.mono HZ.out))
          clear hBW
          go_wp2_with fail
          go_ret
          exact ⟨ret_b (HE.out.symm.trans HSB.out.symm), HBW.out⟩
      · have k1' : checkB x.owner = false := by simpa using k1
        rw [k1', okV_f] at CC
        have HE := Lib.hid (po.set_bad (t := t) hlt (by rw [← HX.out, ← HH.out]; exact (po.bad1 k1')))
        refine wp_region_gw (by kernel_rfl) (by kernel_rfl) ?_
        repeat (with_reducible refine wpQuiet_step (fun K hK => ?_); go_simp; (try simp only [undef]); first | (with_reducible refine hK _ ?_; clear hK K) | (apply Exists.intro; refine ⟨fun _ => ?_, hK _ ?_⟩; (first | (go_at_call 38; with_reducible exact CC.out _) | (go_at_call 39; with_reducible exact CD.out _) | (go_at_call 40; with_reducible exact CE.out _)); clear hK K) | (with_reducible refine ⟨fun _ h => (by cases h), ?_⟩; with_reducible refine hK _ ?_; clear hK K))
        refine wpQuiet_nil ?_
        (try simp only [show Value.tuple #[] = undef from rfl])
        intro W hW
        have hBW : Below w1.heap.size w1 W := by obtain ⟨g, rfl⟩ := hW; exact gw_below _ g
        clear hW
        have HBW := Lib.hid (HBR.out.trans (hBW.mono HZ.out))
        clear hBW
        go_wp2_with fail
        go_ret
        exact ⟨ret_b (HE.out.symm.trans HSB.out.symm), HBW.out⟩
    · obtain rfl : l.length = k := by omega
      obtain ⟨hB, hT, hG⟩ := HR.out
      have hall : l.all (po.goodS t (po.headO l)) = true := by
        rw [List.all_eq_true]
        intro x hx
        obtain ⟨j, hj, rfl⟩ := List.getElem_of_mem hx
        exact hG j hj hj
      rw [List.take_length] at hT
      have hlen := fun ty => theres_len hT ty
      have hset : po.setB t l = (decide (0 < l.length) && decide ((po.fds t l []).length = l.length)) := by unfold po.setB; rw [hall]; simp
      have HB := Lib.hid hB
      have HSET := Lib.hid hset
      obtain ⟨n, hn⟩ : ∃ n, n = (po.fds t l []).length := ⟨_, rfl⟩
      rw [← hn] at hlen
      have HN := Lib.hid hn
      clear hB hT hG hall hset hn hlt hk
      by_cases h0 : 0 < l.length
      · have h0i : (0 : Int) < (l.length : Int) := by omega
        have f0 : decide ((0 : Int) < (l.length : Int)) = true := decide_eq_true h0i
        by_cases h1 : n = l.length
        · have f1 : ((n : Int) == (l.length : Int)) = true := by rw [beq_iff_eq]; omega
          have HE := Lib.hid h1
          clear h1
          go_wp2_with fail
          go_ret
          exact ⟨ret_b (by rw [HSB.out, HSET.out, ← HN.out, decide_eq_true h0, decide_eq_true HE.out]; rfl), HB.out⟩
        · have f1 : ((n : Int) == (l.length : Int)) = false := by rw [beq_eq_false_iff_ne]; omega
          have HE := Lib.hid h1
          clear h1
          go_wp2_with fail
          go_ret
          exact ⟨ret_b (by rw [HSB.out, HSET.out, ← HN.out, decide_eq_true h0, decide_eq_false HE.out]; rfl), HB.out⟩
      · have h0i : ¬ (0 : Int) < (l.length : Int) := by omega
        have f0 : decide ((0 : Int) < (l.length : Int)) = false := decide_eq_false h0i
        go_wp2_with fail
        go_ret
        exact ⟨ret_b (by rw [HSB.out, HSET.out, decide_eq_false h0]; rfl), HB.out⟩
end Go.Proofs.YtnloommafgnanaaGreat

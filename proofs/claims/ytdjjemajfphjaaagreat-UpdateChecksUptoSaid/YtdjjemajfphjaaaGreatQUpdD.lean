import Derived.Test.YtdjjemajfphjaaaGreatQNameA
import Derived.Test.YtdjjemajfphjaaaGreatQUpdG
import Derived.Test.YtdjjemajfphjaaaGreatQRUpd
import Derived.Test.YtdjjemajfphjaaaGreatQZoneP
import Derived.Test.YtdjjemajfphjaaaGreatQSerial
import Derived.Test.YtdjjemajfphjaaaGreatQRzE
import Derived.Test.YtdjjemajfphjaaaGreatQFindP
import Derived.Test.YtdjjemajfphjaaaGreatQUpdA
import Derived.Test.YtdjjemajfphjaaaGreatQRCon
import Derived.Test.YtdjjemajfphjaaaGreatQUpdE
import Derived.Test.YtdjjemajfphjaaaGreatQUpdS
import Derived.Defers
import Derived.Recover
import Derived.Laws.Pointers
import Derived.WalkSmall
import Derived.Deep.CutBlock
namespace Go.Proofs.YtdjjemajfphjaaaGreat
open Go.RowKit Go.Shelf
def thrown (c : Int) : List PanicEntry := [{ v := .iface 110 (.int .i64 c), recovered := false }]
theorem ask_yes (c : Int) (w : World) : Calls Tryz.prog 26 #[.bool true, .int .i64 c] w fun e w' => e = .returned (.tuple #[]) ∧ w = w' := by
  go_enter Tryz.func26, Tryz.ntmps26
  go_wp2_with fail
  go_end0
  exact ⟨rfl, rfl⟩
theorem ask_no (c : Int) (w : World) : Calls Tryz.prog 26 #[.bool false, .int .i64 c] w fun e w' => e = .panicked (thrown c) ∧ w = w' := by
  go_enter Tryz.func26, Tryz.ntmps26
  go_wp2_with fail
  exact ⟨rfl, rfl, rfl⟩
set_option maxRecDepth 100000 in
set_option maxHeartbeats 2000000 in
theorem ucatch_panicking (p : Addr) (c : Int) (x : Int) (w : World) (hc : w.cell? p = some (.int .i64 x)) (hz : w.frozen? p = false) :
    CallsD Tryz.prog 67 #[.pointer (some p)] (.panicking ({ v := .iface 110 (.int .i64 c), recovered := false } :: [])) w fun e u' w' =>
      e = .returned (.tuple #[]) ∧ u' = .panicking ({ v := .iface 110 (.int .i64 c), recovered := true } :: []) ∧ w' = w.setCell p (.int .i64 c) := by
  have hta : ∀ w : World, (Instr.typeAssert (.iface 110 (.int .i64 c)) 20 110 true).run Tryz.prog w = .ok (.tuple #[.int .i64 c, .bool true]) w := fun w => by kernel_rfl
  refine callsD_of_wpS Tryz.func67 rfl fun c₀ cs hu => ?_
  apply wpS_seq
  apply wpS_region
  simp [wpOpsS, go_sem, recoverD, hu, Tryz.ntmps67, Exit.thenS]
  apply wpS_seq
  apply wpS_region
  simp [wpOpsS, go_sem, Exit.thenS]
  refine wpS_cond (t := true) (by simp [Act.eval, Array.replicate]) ?_
  simp only [if_true]
  apply wpS_seq
  apply wpS_region
  simp [wpOpsS, go_sem, Exit.thenS, hta]
  apply wpS_seq
  apply wpS_seq
  apply wpS_region
  simp [wpOpsS, go_sem, Exit.thenS]
  refine wpS_cond (t := false) (by simp [Act.eval, Array.replicate]) ?_
  simp only [Bool.false_eq_true, if_false]
  refine wpS_of_wp (wp_skip ?_)
  simp only [Exit.thenS]
  apply wpS_region
  simp [wpOpsS, go_sem, hc, hz, bodyPostS, results, Tryz.results67]
set_option maxRecDepth 100000 in
set_option maxHeartbeats 2000000 in
theorem ucatch_idle (p : Addr) (w : World) :
    CallsD Tryz.prog 67 #[.pointer (some p)] .returning w fun e u' w' => e = .returned (.tuple #[]) ∧ u' = .returning ∧ w' = w := by
  refine callsD_of_wpS Tryz.func67 rfl fun c₀ cs hu => ?_
  apply wpS_seq
  apply wpS_region
  simp [wpOpsS, go_sem, recoverD, hu, Tryz.ntmps67, Exit.thenS]
  apply wpS_seq
  apply wpS_region
  simp [wpOpsS, go_sem, Exit.thenS]
  refine wpS_cond (t := false) (by simp [Act.eval, Array.replicate]) ?_
  simp only [Bool.false_eq_true, if_false]
  refine wpS_of_wp (wp_skip ?_)
  cases c₀
  simp_all [bodyPostS, results, Tryz.results67]
set_option maxRecDepth 100000 in
set_option maxHeartbeats 2000000 in
theorem caught_any (g : FuncId) (lb : Array Value) (heg : ∀ args w, (callFunc g args).run Tryz.prog w = .ok (.enter g args) w) (c : Int) (w : World)
    (hdo : ∀ X, Below w.heap.size w X → Calls Tryz.prog g lb X fun e X' => ((c = 0 ∧ e = .returned (.tuple #[])) ∨ (c ≠ 0 ∧ e = .panicked (thrown c))) ∧ Below X.heap.size X X') :
    Calls Tryz.prog 24 #[.func (.func g) #[] lb] w fun e w' => e = .returned (.int .i64 c) ∧ Below w.heap.size w w' := by
  have hmf : ∀ (fn : Fn) (first cap : Array Value) (w : World), (Instr.makeFunc fn first cap).run Tryz.prog w = .ok (.func fn first cap) w := fun _ _ _ _ => rfl
  obtain ⟨b, hb⟩ : ∃ b, b = w.heap.size := ⟨_, rfl⟩
  obtain ⟨X, hX⟩ : ∃ X, X = w.alloc (.cells #[.int .i64 0] 3) := ⟨_, rfl⟩
  have hBX : Below w.heap.size w X := by rw [hX]; exact (Below.refl _ w).alloc (Nat.le_refl _) _
  have hsX : X.heap.size = w.heap.size + 1 := by rw [hX, World.size_alloc]
  have hbX : X.heap[b]? = some (.cells #[.int .i64 0] 3 (0, 0)) := by rw [hX]; exact heap_new_at hb
  have HDO := Lib.hid (hdo X hBX)
  have HX := Lib.hid hX; have HB := Lib.hid hb; have HBX := Lib.hid hBX; have HS := Lib.hid hsX; have HBB := Lib.hid hbX
  clear hdo hX hb hBX hsX hbX
  go_enter_defers Tryz.func24, Tryz.ntmps24
  go_upto_region 2 with fail
  rw [← HX.out, ← HB.out]
  go_wp2_with fail
  refine HDO.out.mono ?_
  rintro e X' ⟨he, hB⟩
  have hbX' : X'.heap[b]? = some (.cells #[.int .i64 0] 3 (0, 0)) := (hB.block b (by have := HB.out; have := HS.out; omega)).trans HBB.out
  have hc : X'.cell? ⟨b, 0, none⟩ = some (.int .i64 0) := by rw [heap_cell hbX']; rfl
  have hz : X'.frozen? ⟨b, 0, none⟩ = false := heap_frozen hbX' 0
  have HBw := Lib.hid (HBX.out.trans (hB.mono HBX.out.size))
  rcases he with ⟨rfl, rfl⟩ | ⟨hne, rfl⟩
  · go_wp2_with fail
    have hc2 : (X'.setCell ⟨b, 0, none⟩ (.int .i64 0)).cell? ⟨b, 0, none⟩ = some (.int .i64 0) := World.cell?_setCell_same' _ _ _ (by rw [hc]; rfl)
    have HBs := HBw.out.setCell (p := ⟨b, 0, none⟩) (show w.heap.size ≤ b by rw [HB.out]; exact Nat.le_refl _) (.int .i64 0)
    refine leaves_cons (f := 67) (args := #[.pointer (some ⟨b, 0, none⟩)]) (by simp) (by simp [go_sem]) ?_
    refine (ucatch_idle ⟨b, 0, none⟩ _).mono ?_
    rintro e u' w'' ⟨rfl, rfl, rfl⟩
    simp [Leaves, settle, results, Tryz.results24, go_sem, hc2, HBs]
  · have hc2 : (X'.setCell ⟨b, 0, none⟩ (.int .i64 c)).cell? ⟨b, 0, none⟩ = some (.int .i64 c) := World.cell?_setCell_same' _ _ _ (by rw [hc]; rfl)
    have HBs := HBw.out.setCell (p := ⟨b, 0, none⟩) (show w.heap.size ≤ b by rw [HB.out]; exact Nat.le_refl _) (.int .i64 c)
    refine leaves_cons (f := 67) (args := #[.pointer (some ⟨b, 0, none⟩)]) (by simp) (by simp [go_sem]) ?_
    refine (ucatch_panicking ⟨b, 0, none⟩ c 0 _ hc hz).mono ?_
    rintro e u' w'' ⟨rfl, rfl, rfl⟩
    simp [Leaves, settle, results, Tryz.results24, go_sem, hc2, HBs]
end Go.Proofs.YtdjjemajfphjaaaGreat
namespace Go.Proofs.YtdjjemajfphjaaaGreat
open Go.RowKit Go.Shelf Go.Proofs.YtdjjemajfphjaaaGreat.nm Go.Proofs.YtdjjemajfphjaaaGreat.od
def ThrownC (c : Int) (w : World) (e : Ending) (w' : World) : Prop := ((c = 0 ∧ e = .returned (.tuple #[])) ∨ (c ≠ 0 ∧ e = .panicked (thrown c))) ∧ Below w.heap.size w w'
set_option maxRecDepth 100000 in
set_option maxHeartbeats 4000000 in
theorem change_any (z : Nat) (apex : ByteArray) (rv sv tv : Value) (x : Rec) (w : World) (hz : ZoneAt w z apex rv sv tv) :
    Calls Tryz.prog 33 #[.pointer (some ⟨z, 0, none⟩), recV x] w fun e w' => ThrownC (up.chgI apex x) w e w' := by
  obtain ⟨wa, hwa⟩ : ∃ W, W = w.alloc (.cells (recC x).toArray 51) := ⟨_, rfl⟩
  obtain ⟨hBa, hsa, hxa⟩ := rec_new w wa x hwa
  obtain ⟨bx, hbx⟩ : ∃ b, b = w.heap.size := ⟨_, rfl⟩
  rw [← hbx] at hxa
  have hbxl : bx < wa.heap.size := by omega
  obtain ⟨x0, x1, x2, x3, x4⟩ := id hxa
  have HWA := Lib.hid hwa; have HBX := Lib.hid hbx; have HBXL := Lib.hid hbxl; have HXA := Lib.hid hxa; have HBA := Lib.hid hBa
  obtain ⟨ib, hib⟩ : ∃ ib, ib = withinB x.owner apex := ⟨_, rfl⟩
  have HZ := Lib.hid (show ∀ X, Below wa.heap.size wa X → ZoneAt X z apex rv sv tv from fun X hX => (hX.block z (by have := heap_lt hz; omega)).trans ((hBa.block z (heap_lt hz)).trans hz))
  have CAp : Hid (∀ p, Calls Tryz.prog 16 #[.pointer (some ⟨z, 0, none⟩)] (gw wa p) fun e w'' => e = .returned (.string apex) ∧ ∃ p', w'' = gw wa p') := Lib.hid fun p => calls_gw_same (apex_any z apex rv sv tv _ (HZ.out _ (gw_below wa p)))
  have CW : Hid (∀ p, Calls Tryz.prog 71 #[.string x.owner, .string apex] (gw wa p) fun e w'' => e = .returned (.bool ib) ∧ ∃ p', w'' = gw wa p') := Lib.hid fun p => by rw [hib]; exact calls_gw (within_any x.owner apex _)
  have HIB := Lib.hid hib
  clear hwa hBa hsa hbx hbxl hxa hz hib
  go_enter Tryz.func33, Tryz.ntmps33
  go_upto_region 1 with fail
  rw [← HWA.out, ← HBX.out]
  cases ib
  · have HC := Lib.hid (up.chg_out (x := x) HIB.out.symm)
    have k0 := gw_cell x0
    refine wp_region_quiet_tail (C := fun W => ∃ p, W = gw wa p) 5 (by kernel_rfl) (by kernel_rfl) (gw_draw wa) ?_
    simp only [List.take_succ_cons, List.take_zero, List.drop_succ_cons, List.drop_zero]
    repeat (with_reducible refine wpQuiet_step (fun K hK => ?_); go_simp; first | (with_reducible refine hK _ ?_; clear hK K) | (apply Exists.intro; refine ⟨fun _ => ?_, hK _ ?_⟩; (first | (go_at_call 16; with_reducible exact CAp.out _) | (go_at_call 71; with_reducible exact CW.out _)); clear hK K))
    with_reducible refine wpQuiet_nil ?_
    intro W hW
    have hBW : Below wa.heap.size wa W := by obtain ⟨p, rfl⟩ := hW; exact gw_below _ _
    have HB5 := Lib.hid (HBA.out.trans (hBW.mono HBA.out.size))
    clear hW hBW k0 x0 x1 x2 x3 x4
    go_wp2_with fail
    refine (ask_no 10 _).mono ?_
    rintro e wN ⟨rfl, rfl⟩
    exact ⟨rfl, .inr ⟨by rw [HC.out]; decide, by rw [HC.out]⟩, HB5.out⟩
  · have CA : Hid (∀ p, Calls Tryz.prog 26 #[.bool true, .int .i64 10] (gw wa p) fun e w'' => e = .returned (.tuple #[]) ∧ ∃ p', w'' = gw wa p') := Lib.hid fun p => calls_gw_left (ask_yes 10 _)
    have k0 := gw_cell x0
    refine wp_region_gw (by kernel_rfl) (by kernel_rfl) ?_
    repeat (with_reducible refine wpQuiet_step (fun K hK => ?_); go_simp; (try simp only [undef]); first | (with_reducible refine hK _ ?_; clear hK K) | (apply Exists.intro; refine ⟨fun _ => ?_, hK _ ?_⟩; (first | (go_at_call 16; with_reducible exact CAp.out _) | (go_at_call 71; with_reducible exact CW.out _) | (go_at_call 26; with_reducible exact CA.out _)); clear hK K) | (with_reducible refine ⟨fun _ h => (by cases h), ?_⟩; with_reducible refine hK _ ?_; clear hK K))
    refine wpQuiet_nil ?_
    (try simp only [show Value.tuple #[] = undef from rfl])
    intro W hW
    have hBW : Below wa.heap.size wa W := by obtain ⟨g, rfl⟩ := hW; exact gw_below _ g
    clear hW
    obtain ⟨y0, y1, y2, y3, y4⟩ := HXA.out.keep (hBW.block bx HBXL.out)
    have HB5 := Lib.hid (HBA.out.trans (hBW.mono HBA.out.size))
    have HBX5 := Lib.hid (show bx < W.heap.size from Nat.lt_of_lt_of_le HBXL.out hBW.size)
    have HXW := Lib.hid (HXA.out.keep (hBW.block bx HBXL.out))
    clear hBW k0 x0 x1 x2 x3 x4
    go_wp2_with fail
    refine (dcheck_any _ _ _).mono ?_
    rintro e w6 ⟨rfl, hB6⟩
    obtain ⟨z0, z1, z2, z3, z4⟩ := HXW.out.keep (hB6.block bx HBX5.out)
    have HB6 := Lib.hid (HB5.out.trans (hB6.mono HB5.out.size))
    clear hB6 y0 y1 y2 y3 y4
    obtain ⟨t0, ht0⟩ : ∃ t, t = dt.chkI x.typ ⟨#[]⟩ := ⟨_, rfl⟩
    rw [← ht0]
    obtain ⟨tb, htb⟩ : ∃ tb, tb = (t0 != 6) := ⟨_, rfl⟩
    have e6 : (t0 != 6) = tb := htb.symm
    have HT0 := Lib.hid ht0; have HTB := Lib.hid htb
    clear ht0 htb
    by_cases k1 : x.cls = 1
    · have d1 : (x.cls == 1) = true := by rw [beq_iff_eq]; exact k1
      have hc0 := up.chg_in (x := x) HIB.out.symm k1
      by_cases m1 : x.ttl ≤ 2147483647
      · have d2 : decide (x.ttl ≤ 2147483647) = true := decide_eq_true m1
        have HC := Lib.hid (show up.chgI apex x = 0 by rw [hc0, if_pos m1])
        clear hc0 k1 m1
        go_wp2_with fail
        refine (ask_yes 1 _).mono ?_
        rintro e wN ⟨rfl, rfl⟩
        go_wp2_with fail
        go_end0
        exact ⟨.inl ⟨HC.out, rfl⟩, HB6.out⟩
      · have d2 : decide (x.ttl ≤ 2147483647) = false := decide_eq_false m1
        have HC := Lib.hid (show up.chgI apex x = 1 by rw [hc0, if_neg m1])
        clear hc0 k1 m1
        go_wp2_with fail
        refine (ask_no 1 _).mono ?_
        rintro e wN ⟨rfl, rfl⟩
        exact ⟨rfl, .inr ⟨by rw [HC.out]; decide, by rw [HC.out]⟩, HB6.out⟩
    · have d1 : (x.cls == 1) = false := by rw [beq_eq_false_iff_ne]; exact k1
      by_cases k2 : x.cls = 255
      · have d2 : (x.cls == 255) = true := by rw [beq_iff_eq]; exact k2
        have hc0 := up.chg_any (x := x) HIB.out.symm k2
        by_cases m1 : x.ttl = 0
        · have d3 : (x.ttl == 0) = true := by rw [beq_iff_eq]; exact m1
          by_cases m2 : x.data.size = 0
          · have d4 := str_empty m2
            cases tb
            · have h6 : dt.chkI x.typ ⟨#[]⟩ = 6 := by rw [← HT0.out]; exact bne_eq_false_iff_eq.1 HTB.out.symm
              by_cases m3 : x.typ = 255
              · have d5 : (x.typ == 255) = true := by rw [beq_iff_eq]; exact m3
                have HC := Lib.hid (show up.chgI apex x = 0 by rw [hc0, if_pos ⟨m1, m2, .inr m3⟩])
                clear hc0 k1 k2 m1 m2 m3 h6
                go_wp2_with fail
                refine (ask_yes 1 _).mono ?_
                rintro e wN ⟨rfl, rfl⟩
                go_wp2_with fail
                go_end0
                exact ⟨.inl ⟨HC.out, rfl⟩, HB6.out⟩
              · have d5 : (x.typ == 255) = false := by rw [beq_eq_false_iff_ne]; exact m3
                have HC := Lib.hid (show up.chgI apex x = 1 by rw [hc0, if_neg (fun h => h.2.2.elim (fun g => g h6) m3)])
                clear hc0 k1 k2 m1 m2 m3 h6
                go_wp2_with fail
                refine (ask_no 1 _).mono ?_
                rintro e wN ⟨rfl, rfl⟩
                exact ⟨rfl, .inr ⟨by rw [HC.out]; decide, by rw [HC.out]⟩, HB6.out⟩
            · have h6 : dt.chkI x.typ ⟨#[]⟩ ≠ 6 := by rw [← HT0.out]; exact bne_iff_ne.1 HTB.out.symm
              have HC := Lib.hid (show up.chgI apex x = 0 by rw [hc0, if_pos ⟨m1, m2, .inl h6⟩])
              clear hc0 k1 k2 m1 m2 h6
              go_wp2_with fail
              refine (ask_yes 1 _).mono ?_
              rintro e wN ⟨rfl, rfl⟩
              go_wp2_with fail
              go_end0
              exact ⟨.inl ⟨HC.out, rfl⟩, HB6.out⟩
          · have d4 := str_some m2
            have HC := Lib.hid (show up.chgI apex x = 1 by rw [hc0, if_neg (fun h => m2 h.2.1)])
            clear hc0 k1 k2 m1 m2
            go_wp2_with fail
            refine (ask_no 1 _).mono ?_
            rintro e wN ⟨rfl, rfl⟩
            exact ⟨rfl, .inr ⟨by rw [HC.out]; decide, by rw [HC.out]⟩, HB6.out⟩
        · have d3 : (x.ttl == 0) = false := by rw [beq_eq_false_iff_ne]; exact m1
          have HC := Lib.hid (show up.chgI apex x = 1 by rw [hc0, if_neg (fun h => m1 h.1)])
          clear hc0 k1 k2 m1
          go_wp2_with fail
          refine (ask_no 1 _).mono ?_
          rintro e wN ⟨rfl, rfl⟩
          exact ⟨rfl, .inr ⟨by rw [HC.out]; decide, by rw [HC.out]⟩, HB6.out⟩
      · have d2 : (x.cls == 255) = false := by rw [beq_eq_false_iff_ne]; exact k2
        by_cases k3 : x.cls = 254
        · have d3 : (x.cls == 254) = true := by rw [beq_iff_eq]; exact k3
          have hc0 := up.chg_no (x := x) HIB.out.symm k3
          by_cases m1 : x.ttl = 0
          · have d4 : (x.ttl == 0) = true := by rw [beq_iff_eq]; exact m1
            have HK0 := Lib.hid hc0; have HM1 := Lib.hid m1
            clear hc0 k1 k2 k3 m1
            go_wp2_with fail
            refine (dcheck_any _ _ _).mono ?_
            rintro e w7 ⟨rfl, hB7⟩
            have HB7 := Lib.hid (HB6.out.trans (hB7.mono HB6.out.size))
            clear hB7 z0 z1 z2 z3 z4
            by_cases m2 : dt.chkI x.typ x.data = 0
            · have d5 : (dt.chkI x.typ x.data == 0) = true := by rw [beq_iff_eq]; exact m2
              have HC := Lib.hid (show up.chgI apex x = 0 by rw [HK0.out, if_pos ⟨HM1.out, m2⟩])
              clear m2
              go_wp2_with fail
              refine (ask_yes 1 _).mono ?_
              rintro e wN ⟨rfl, rfl⟩
              go_wp2_with fail
              go_end0
              exact ⟨.inl ⟨HC.out, rfl⟩, HB7.out⟩
            · have d5 : (dt.chkI x.typ x.data == 0) = false := by rw [beq_eq_false_iff_ne]; exact m2
              have HC := Lib.hid (show up.chgI apex x = 1 by rw [HK0.out, if_neg (fun h => m2 h.2)])
              clear m2
              go_wp2_with fail
              refine (ask_no 1 _).mono ?_
              rintro e wN ⟨rfl, rfl⟩
              exact ⟨rfl, .inr ⟨by rw [HC.out]; decide, by rw [HC.out]⟩, HB7.out⟩
          · have d4 : (x.ttl == 0) = false := by rw [beq_eq_false_iff_ne]; exact m1
            have HC := Lib.hid (show up.chgI apex x = 1 by rw [hc0, if_neg (fun h => m1 h.1)])
            clear hc0 k1 k2 k3 m1
            go_wp2_with fail
            refine (ask_no 1 _).mono ?_
            rintro e wN ⟨rfl, rfl⟩
            exact ⟨rfl, .inr ⟨by rw [HC.out]; decide, by rw [HC.out]⟩, HB6.out⟩
        · have d3 : (x.cls == 254) = false := by rw [beq_eq_false_iff_ne]; exact k3
          have HC := Lib.hid (up.chg_else (x := x) HIB.out.symm k1 k2 k3)
          clear k1 k2 k3
          go_wp2_with fail
          refine (ask_no 1 _).mono ?_
          rintro e wN ⟨rfl, rfl⟩
          exact ⟨rfl, .inr ⟨by rw [HC.out]; decide, by rw [HC.out]⟩, HB6.out⟩
end Go.Proofs.YtdjjemajfphjaaaGreat
namespace Go.Proofs.YtdjjemajfphjaaaGreat
open Go.RowKit Go.Shelf Go.WideMaps Go.Proofs.YtdjjemajfphjaaaGreat.nm Go.Proofs.YtdjjemajfphjaaaGreat.od
def ZPair (w : World) (z y : Nat) (apex : ByteArray) (L : List Rec) : Prop := zn.Valid apex L ∧ ∃ top, ZoneF w top z apex L ∧ RZone w y apex L
theorem ZPair.kept {w w' : World} {z y : Nat} {apex : ByteArray} {L : List Rec} (h : ZPair w z y apex L) (hb : Below w.heap.size w w') : ZPair w' z y apex L := by
  obtain ⟨h1, top, h2, h3⟩ := h
  exact ⟨h1, top, h2.kept hb, h3.below hb⟩
def BothPost (apex : ByteArray) (l : List Rec) (w : World) (e : Ending) (w' : World) : Prop := Below w.heap.size w w' ∧
  ((zn.newE apex l ≠ none ∧ e = .returned (.tuple #[.pointer none, .pointer none, .bool true])) ∨
    (zn.newE apex l = none ∧ ∃ z y L, SortedOf l L ∧ e = .returned (.tuple #[.pointer (some ⟨z, 0, none⟩), .pointer (some ⟨y, 0, none⟩), .bool true]) ∧ ZPair w' z y apex L))
set_option maxRecDepth 100000 in
set_option maxHeartbeats 4000000 in
theorem both_any (apex : ByteArray) (hapz : apex.size ≤ 1099511627776) (l : List Rec) (hok : ∀ r ∈ l, (Lit.int .i64 r.typ).wf = true) (hsz : ∀ r ∈ l, r.owner.size ≤ 1099511627776) (v : Value) (hf : SliceForm v) (w : World) (hrv : RecsAt w v l) :
    Calls Tryz.prog 6 #[.string apex, v] w fun e w' => BothPost apex l w e w' := by
  have hnew := new_any apex l hok _ hf w hrv
  have hmake := fun W (hB : Below w.heap.size w W) => rmake_any apex hapz l hsz _ hf W (hrv.below hB)
  obtain ⟨a, cap, rfl, -⟩ := id hrv
  have HNEW := Lib.hid hnew; have HMAKE := Lib.hid hmake
  clear hnew hmake
  clear hrv hok hsz hf
  go_enter Tryz.func6, Tryz.ntmps6
  go_wp2_with fail
  refine HNEW.out.mono ?_
  intro e w1 hp
  rcases hne : zn.newE apex l with _ | ⟨k0, c0⟩
  · obtain ⟨hB1, z, L, _, hs, rfl, hzf⟩ := newPost_zone hp hne
    have hva0 := zn.valid_of hne
    have hva : zn.Valid apex L := zn.valid_of (zn.newE_of hs.1.symm hne)
    have hHM := HMAKE.out w1 hB1
    have HB1 := Lib.hid hB1; have HZ1 := Lib.hid hzf; have HVA := Lib.hid hva; have HVA0 := Lib.hid hva0; have HS := Lib.hid hs; have HM := Lib.hid hHM; have HNE := Lib.hid hne
    have hs1 := hB1.size
    clear hp hB1 hzf hva hva0 hs hHM hne
    go_wp2_with fail
    refine HM.out.mono ?_
    rintro e w2 ⟨hB2, hm⟩
    rw [HNE.out] at hm
    obtain ⟨y, L', hs', rfl, hy⟩ := hm
    obtain rfl : L' = L := hs'.eq HS.out HVA0.out.named (zn.uniq_of (zn.distinct_of (zn.rules_twice HVA0.out.rules)))
    have HB2 := Lib.hid (HB1.out.trans (hB2.mono hs1)); have HZ2 := Lib.hid (HZ1.out.kept hB2); have HY2 := Lib.hid hy
    clear hB2 hs' hy
    go_wp2_with fail
    go_ret3
    exact ⟨HB2.out, .inr ⟨HNE.out, z, y, L', HS.out, rfl, HVA.out, _, HZ2.out, HY2.out⟩⟩
  · have hB1 : Below w.heap.size w w1 ∧ e = .returned (.tuple #[.pointer none, .int .i64 k0, .int .i64 c0]) := by
      unfold NewPost at hp
      rw [hne] at hp
      exact hp
    obtain ⟨hB1, rfl⟩ := hB1
    have HM := Lib.hid (HMAKE.out w1 hB1); have HB1 := Lib.hid hB1; have HNE := Lib.hid hne
    clear hp hB1 hne
    go_wp2_with fail
    refine HM.out.mono ?_
    rintro e w2 ⟨hB2, hm⟩
    rw [HNE.out] at hm
    simp only at hm
    subst hm
    have HB2 := Lib.hid (HB1.out.trans (hB2.mono HB1.out.size))
    clear hB2
    by_cases h0 : c0 = 0
    · have d0 : (c0 != 0) = false := by rw [bne_eq_false_iff_eq]; exact h0
      clear h0
      go_wp2_with fail
      go_ret3
      exact ⟨HB2.out, .inl ⟨by rw [HNE.out]; simp, rfl⟩⟩
    · have d0 : (c0 != 0) = true := by rw [bne_iff_ne]; exact h0
      clear h0
      go_wp2_with fail
      go_ret3
      exact ⟨HB2.out, .inl ⟨by rw [HNE.out]; simp, rfl⟩⟩
end Go.Proofs.YtdjjemajfphjaaaGreat
namespace Go.Proofs.YtdjjemajfphjaaaGreat
open Go.RowKit Go.Shelf Go.WideMaps Go.Proofs.YtdjjemajfphjaaaGreat.nm Go.Proofs.YtdjjemajfphjaaaGreat.od
namespace zn
end zn
end Go.Proofs.YtdjjemajfphjaaaGreat
namespace Go.Proofs.YtdjjemajfphjaaaGreat
open Go.RowKit Go.Shelf Go.WideMaps Go.Proofs.YtdjjemajfphjaaaGreat.nm Go.Proofs.YtdjjemajfphjaaaGreat.od
def StrsR (w : World) (v : Value) (ss : List ByteArray) : Prop :=
  ∃ a cap, v = .slice a ss.length cap ∧ ∀ k (h : k < ss.length), ∃ b off, a = some ⟨b, off, none⟩ ∧ b < w.heap.size ∧ w.cell? ⟨b, off + k, none⟩ = some (.string ss[k])
theorem StrsR.below {w w' : World} {v : Value} {ss : List ByteArray} (h : StrsR w v ss) (hb : Below w.heap.size w w') : StrsR w' v ss := by
  obtain ⟨a, cap, rfl, h⟩ := h
  refine ⟨a, cap, rfl, fun k hk => ?_⟩
  obtain ⟨b, off, rfl, hl, hc⟩ := h k hk
  exact ⟨b, off, rfl, Nat.lt_of_lt_of_le hl hb.size, (hb.cell (p := ⟨b, off + k, none⟩) hl).trans hc⟩
theorem names_len {apex : ByteArray} {L : List Rec} (hL : L.length ≤ 2000) (_hv : zn.Valid apex L) {N : List ByteArray} (h : NamesOf apex L N) : N.length ≤ 512000 := by
  have h1 : ∀ n ∈ N, n ∈ zn.domT (countI apex).toNat L := fun n hn => zn.mem_domT.2 ((h.2.1 n).1 hn)
  have h2 := nodup_length N (zn.domT (countI apex).toNat L) h.1 h1
  have h3 := zn.domT_length (countI apex).toNat L
  omega
end Go.Proofs.YtdjjemajfphjaaaGreat
namespace Go.Proofs.YtdjjemajfphjaaaGreat
open Go.RowKit Go.Shelf Go.WideMaps Go.Proofs.YtdjjemajfphjaaaGreat.nm Go.Proofs.YtdjjemajfphjaaaGreat.od
theorem contains_any (N : List ByteArray) (hl : N.length ≤ 1000000000) (x : ByteArray) (base : Nat) (v : Value) (w : World) (hown : w.ownsRow base 9 1 v N.length (N.map .string)) :
    Calls Tryz.prog 127 #[v, .string x] w fun e w' => e = .returned (.bool (decide (x ∈ N))) ∧ w' = w := by
  obtain ⟨va, vc, rfl, -⟩ := ownsRow_len hown
  by_cases h0 : 0 < N.length
  · obtain ⟨g, cg, hv, -, -⟩ := hown.form h0
    simp only [Value.slice.injEq, true_and] at hv
    obtain ⟨rfl, rfl⟩ := hv
    refine (Tryz.slices_Contains_string g 0 N.length vc N x w (Nat.le_refl _) (by omega) (fun j hj => ?_)).mono ?_
    · rw [Nat.zero_add, hown.cellAt j (by omega), List.getElem?_map, List.getElem?_eq_getElem hj, List.getD_eq_getElem?_getD, List.getElem?_eq_getElem hj]
      rfl
    · rintro e w' ⟨rfl, rfl⟩
      refine ⟨?_, rfl⟩
      rw [List.take_length]
      congr 2
      cases hc : Lib.containsS N x
      · rw [eq_comm, decide_eq_false_iff_not, ← Lib.containsS_iff, hc]; simp
      · rw [eq_comm, decide_eq_true_eq, ← Lib.containsS_iff, hc]
  · obtain rfl : N = [] := List.eq_nil_of_length_eq_zero (by omega)
    refine (Tryz.slices_Contains_string_empty va vc x w).mono ?_
    rintro e w' ⟨rfl, rfl⟩
    exact ⟨by simp, rfl⟩
theorem names_there {apex : ByteArray} {L : List Rec} (hva : zn.Valid apex L) {N : List ByteArray} (hN : NamesOf apex L N) {n : ByteArray} (hw : withinB n apex = true) : decide (foldS n ∈ N) = zn.rthereB L n := by
  have hc := (within_check hw).1
  obtain ⟨y, hy⟩ := rows_check hc
  obtain ⟨a, ha⟩ := rows_check hva.ap
  have h1 := ((within_rows hy ha).1 hw).1
  have hcn : countI apex ≤ countI n := by rw [count_of ha, count_of hy]; omega
  have h2 := zn.there_iff (fun r hr => ⟨(hva.each r hr).1, (hva.each r hr).2.2⟩) hc hcn
  have h3 : foldS n ∈ N ↔ zn.rthereB L n = true := by
    rw [hN.2.1, zn.rthere_iff, ← h2]
    unfold zn.thereB
    rw [decide_eq_true_eq, zn.mem_domT]
  cases hr : zn.rthereB L n
  · rw [decide_eq_false_iff_not, h3, hr]; simp
  · rw [decide_eq_true_eq, h3, hr]
set_option maxRecDepth 100000 in
set_option maxHeartbeats 2000000 in
theorem there_any (top z : Nat) (apex : ByteArray) (L : List Rec) (hva : zn.Valid apex L) (n : ByteArray) (hw : withinB n apex = true) (w : World) (hz : ZoneF w top z apex L) :
    Calls Tryz.prog 72 #[.pointer (some ⟨z, 0, none⟩), .string n] w fun e w' => e = .returned (.bool (zn.rthereB L n)) ∧ Below w.heap.size w w' := by
  have HN := Lib.hid (names_any top z apex L hz.small hz.named w hz.v)
  have HVA := Lib.hid hva; have HW := Lib.hid hw
  have HZS := Lib.hid hz.small
  clear hz hva hw
  go_enter Tryz.func72, Tryz.ntmps72
  go_wp2_with fail
  refine HN.out.mono ?_
  rintro e w1 ⟨N, hN, v, rfl, hB1, hown⟩
  have HB1 := Lib.hid hB1; have HOWN := Lib.hid hown; have HNN := Lib.hid hN
  obtain ⟨va, vc, rfl, -⟩ := ownsRow_len hown
  clear hB1 hown hN
  go_wp2_with fail
  refine (fold_any n w1).mono ?_
  rintro e w2 ⟨rfl, hB2⟩
  have HO2 := Lib.hid (ownsRow_below HOWN.out hB2)
  have HB2 := Lib.hid (HB1.out.trans (hB2.mono HB1.out.size))
  clear hB2
  have HR := Lib.hid (names_there HVA.out HNN.out HW.out)
  have hl : N.length ≤ 1000000000 := by
    have h1 := names_len HZS.out HVA.out HNN.out
    omega
  go_wp2_with fail
  refine (contains_any N hl (foldS n) _ _ w2 HO2.out).mono ?_
  rintro e w3 ⟨rfl, rfl⟩
  rw [HR.out]
  go_wp2_with fail
  go_ret
  exact ⟨rfl, HB2.out⟩
end Go.Proofs.YtdjjemajfphjaaaGreat
namespace Go.Proofs.YtdjjemajfphjaaaGreat
open Go.RowKit Go.Shelf Go.WideMaps Go.Proofs.YtdjjemajfphjaaaGreat.nm Go.Proofs.YtdjjemajfphjaaaGreat.od
namespace up
open zn (rowsS keyR fullR alikeB rthereB)
section
variable {apex : ByteArray} {L : List Rec} {x : Rec}
theorem wdom_other {l : List Rec} (h : x.cls ≠ 1) : wdom (l ++ [x]) = wdom l := by
  unfold wdom; rw [coll_snoc, if_neg (by simp [inB1, h])]
theorem wset_other {l : List Rec} (h : x.cls ≠ 1) (κ : Key) : wset (l ++ [x]) κ = wset l κ := by
  unfold wset; rw [coll_snoc, if_neg (by simp [inB1, h])]
theorem wdom_in {l : List Rec} (h : x.cls = 1) : wdom (l ++ [x]) = insK (wdom l) (keyR x) := by
  unfold wdom; rw [coll_snoc, if_pos (by simp [inB1, h])]
theorem wset_in {l : List Rec} (h : x.cls = 1) (κ : Key) : wset (l ++ [x]) κ = if κ = keyR x then insK (wset l κ) (fullR x) else wset l κ := by
  unfold wset; rw [coll_snoc]
  by_cases hk : κ = keyR x
  · rw [if_pos hk, if_pos (by simp [inB1, h, hk])]
  · rw [if_neg hk, if_neg (by simp [inB1, h]; exact fun e => hk e.symm)]
theorem wset_none {l : List Rec} {κ : Key} (h : κ ∉ wdom l) : wset l κ = [] := by
  apply List.eq_nil_iff_forall_not_mem.2
  intro f hf
  obtain ⟨y, hy, h1, -⟩ := (mem_coll _ _).1 hf
  simp only [Bool.and_eq_true, decide_eq_true_eq] at h1
  exact h ((mem_coll _ _).2 ⟨y, hy, h1.1, h1.2⟩)
end
end up
def WantD (w : World) (base W : Nat) (D : List Key) (S : Key → List (ByteArray × Int × ByteArray)) : Prop :=
  ∃ mb : Key → Nat, base ≤ W ∧ MapF keyV KeyOk w W D (fun κ => .map (some (mb κ))) ∧ (∀ κ ∈ D, base ≤ mb κ ∧ mb κ ≠ W ∧ MapF fullV FullOk w (mb κ) (S κ) (fun _ => .int .i64 1)) ∧ ∀ κ1 ∈ D, ∀ κ2 ∈ D, κ1 ≠ κ2 → mb κ1 ≠ mb κ2
def WantAt (w : World) (base W : Nat) (l : List Rec) : Prop := WantD w base W (up.wdom l) (up.wset l)
section
variable {w w' : World} {base W : Nat} {D : List Key} {S : Key → List (ByteArray × Int × ByteArray)}
theorem WantD.lt (h : WantD w base W D S) : W < w.heap.size := by obtain ⟨_, _, h, _⟩ := h; exact h.lt
theorem WantD.base_ (h : WantD w base W D S) : base ≤ W := by obtain ⟨_, h, _⟩ := h; exact h
theorem WantD.keep (h : WantD w base W D S) (hk : ∀ b, b < w.heap.size → w'.heap[b]? = w.heap[b]?) : WantD w' base W D S := by
  obtain ⟨mb, h0, h1, h2, h3⟩ := h
  exact ⟨mb, h0, h1.keep fun o ho => (hk W h1.lt).trans ho, fun κ hκ => ⟨(h2 κ hκ).1, (h2 κ hκ).2.1, (h2 κ hκ).2.2.keep fun o ho => (hk _ (h2 κ hκ).2.2.lt).trans ho⟩, h3⟩
theorem WantD.below (h : WantD w base W D S) (hb : Below w.heap.size w w') : WantD w' base W D S := h.keep hb.block
theorem WantD.congr {S' : Key → List (ByteArray × Int × ByteArray)} (h : WantD w base W D S) (hs : ∀ κ ∈ D, S κ = S' κ) : WantD w base W D S' := by
  obtain ⟨mb, h0, h1, h2, h3⟩ := h
  exact ⟨mb, h0, h1, fun κ hκ => by rw [← hs κ hκ]; exact h2 κ hκ, h3⟩
theorem WantD.made (w : World) (S : Key → List (ByteArray × Int × ByteArray)) (hb : base ≤ w.heap.size) : WantD (w.alloc (.map #[] 0)) base w.heap.size [] S :=
  ⟨fun _ => 0, hb, MapF.made w _ _ _, by simp, by simp⟩
theorem zero_likes (w : World) : (zeroValue 69).run Tryz.prog w = .ok (.map none) w := by kernel_rfl
theorem want_look_no (h : WantD w base W D S) {κ : Key} (hk : KeyOk κ) (hn : κ ∉ D) :
    (Instr.lookup 65 (.map (some W)) (keyV κ) false).run Tryz.prog w = .ok (.map none) w := by
  obtain ⟨mb, h0, h1, h2, h3⟩ := h
  rw [mapF_look placeE Tryz.underlying65 zero_likes h1 hk, if_neg hn]
theorem want_new (h : WantD w base W D S) {κ : Key} (hk : KeyOk κ) (hn : κ ∉ D) (hs : S κ = []) (hb : base ≤ w.heap.size) :
    ∃ w2, (Instr.mapUpdate 65 (.map (some W)) (keyV κ) (.map (some w.heap.size))).run Tryz.prog (w.alloc (.map #[] 0)) = .ok () w2 ∧ (w.alloc (.map #[] 0)).grownBy w2 (some W) ∧ WantD w2 base W (insK D κ) S := by
  obtain ⟨mb, h0, h1, h2, h3⟩ := h
  have hB : Below w.heap.size w (w.alloc (.map #[] 0)) := (Below.refl _ w).alloc (Nat.le_refl _) _
  have h1' : MapF keyV KeyOk (w.alloc (.map #[] 0)) W D (fun κ => .map (some (mb κ))) := h1.below hB h1.lt
  obtain ⟨w2, g1, g2, _, g3⟩ := mapF_update placeE Tryz.underlying65 h1' hk (.map (some w.heap.size))
  have hWs : W < w.heap.size := h1.lt
  refine ⟨w2, g1, g2, fun κ' => if κ' = κ then w.heap.size else mb κ', h0, ?_, ?_, ?_⟩
  · refine g3.congr fun κ' _ => ?_
    unfold updK
    by_cases e : κ' = κ
    · simp [e]
    · simp [e]
  · intro κ' hκ'
    by_cases e : κ' = κ
    · subst e
      simp only [if_true]
      refine ⟨hb, by omega, ?_⟩
      rw [hs]
      exact (MapF.made w fullV FullOk _).keep fun o ho => (g2.block w.heap.size (by simp) (by simp; omega)).trans ho
    · simp only [if_neg e]
      have hm : κ' ∈ D := by
        rcases (up.mem_insK).1 hκ' with h | h
        · exact h
        · exact absurd h e
      obtain ⟨q1, q2, q3⟩ := h2 κ' hm
      exact ⟨q1, q2, q3.keep fun o ho => (g2.block (mb κ') (Nat.lt_of_lt_of_le q3.lt hB.size) (by simpa using q2)).trans ((hB.block _ q3.lt).trans ho)⟩
  · have hD : ∀ κ', κ' ∈ insK D κ → κ' ≠ κ → κ' ∈ D := fun κ' h e => by
      rcases (up.mem_insK).1 h with h | h
      · exact h
      · exact absurd h e
    intro κ1 m1 κ2 m2 hne
    by_cases e1 : κ1 = κ
    · have e2 : κ2 ≠ κ := fun e => hne (e1.trans e.symm)
      simp only [if_pos e1, if_neg e2]
      have := (h2 κ2 (hD κ2 m2 e2)).2.2.lt
      omega
    · by_cases e2 : κ2 = κ
      · simp only [if_neg e1, if_pos e2]
        have := (h2 κ1 (hD κ1 m1 e1)).2.2.lt
        omega
      · simp only [if_neg e1, if_neg e2]
        exact h3 κ1 (hD κ1 m1 e1) κ2 (hD κ2 m2 e2) hne
theorem want_put (h : WantD w base W D S) {κ : Key} (hkk : KeyOk κ) (hm : κ ∈ D) : ∃ m, base ≤ m ∧ m < w.heap.size ∧ (∃ es c, w.heap[m]? = some (.map es c)) ∧
    (∀ X, Below w.heap.size w X → (Instr.lookup 65 (.map (some W)) (keyV κ) false).run Tryz.prog X = .ok (.map (some m)) X) ∧
    ∀ X, Below w.heap.size w X → ∀ f, FullOk f → ∃ w2, (Instr.mapUpdate 69 (.map (some m)) (fullV f) (.int .i64 1)).run Tryz.prog X = .ok () w2 ∧ X.grownBy w2 (some m) ∧
      (Instr.lookup 65 (.map (some W)) (keyV κ) false).run Tryz.prog w2 = .ok (.map (some m)) w2 ∧ WantD w2 base W D (fun κ' => if κ' = κ then insK (S κ') f else S κ') := by
  obtain ⟨mb, h0, h1, h2, h3⟩ := h
  obtain ⟨q1, q2, q3⟩ := h2 κ hm
  refine ⟨mb κ, q1, q3.lt, q3.mapObj, fun X hX => ?_, fun X hX f hf => ?_⟩
  · rw [mapF_look placeE Tryz.underlying65 zero_likes (h1.below hX h1.lt) hkk, if_pos hm]
  · obtain ⟨w2, g1, g2, _, g3⟩ := mapF_update likeE Tryz.underlying69 (q3.below hX q3.lt) hf (.int .i64 1)
    have hk : ∀ b, b < w.heap.size → b ≠ mb κ → w2.heap[b]? = w.heap[b]? := fun b hb hne => (g2.block b (Nat.lt_of_lt_of_le hb hX.size) (by simpa using hne)).trans (hX.block b hb)
    have h1' : MapF keyV KeyOk w2 W D (fun κ => .map (some (mb κ))) := h1.keep fun o ho => (hk W h1.lt (Ne.symm q2)).trans ho
    refine ⟨w2, g1, g2, by rw [mapF_look placeE Tryz.underlying65 zero_likes h1' hkk, if_pos hm], mb, h0, h1', fun κ' hκ' => ?_, h3⟩
    by_cases e : κ' = κ
    · subst e
      refine ⟨q1, q2, ?_⟩
      simp only [if_true]
      refine g3.congr fun f' _ => ?_
      unfold updK
      split <;> rfl
    · simp only [if_neg e]
      obtain ⟨r1, r2, r3⟩ := h2 κ' hκ'
      exact ⟨r1, r2, r3.keep fun o ho => (hk _ r3.lt (h3 κ' hκ' κ hm e)).trans ho⟩
end
theorem two_cells {X : World} {b : Nat} {u0 u1 : Value} {t : TypeId} (h : X.heap[b]? = some (.cells #[u0, u1] t (0, 0))) :
    X.cell? ⟨b, 0, none⟩ = some u0 ∧ X.cell? ⟨b, 1, none⟩ = some u1 ∧ X.frozen? ⟨b, 0, none⟩ = false ∧ X.frozen? ⟨b, 1, none⟩ = false :=
  ⟨by rw [heap_cell h]; rfl, by rw [heap_cell h]; rfl, heap_frozen h 0, heap_frozen h 1⟩
theorem cell_no_map {w : World} {a : Addr} {v : Value} {m : Nat} (hc : w.cell? a = some v) (hm : ∃ es c, w.heap[m]? = some (.map es c)) : a.block ≠ m := by
  rintro rfl
  obtain ⟨es, c, h⟩ := hm
  simp [World.cell?, h] at hc
def CondPost (apex : ByteArray) (L l : List Rec) (x : Rec) (base W : Nat) (w : World) (e : Ending) (w' : World) : Prop :=
  ((up.condI apex L x = 0 ∧ e = .returned (.tuple #[]) ∧ WantAt w' base W (l ++ [x])) ∨ (up.condI apex L x ≠ 0 ∧ e = .panicked (thrown (up.condI apex L x)))) ∧ Below base w w'
end Go.Proofs.YtdjjemajfphjaaaGreat

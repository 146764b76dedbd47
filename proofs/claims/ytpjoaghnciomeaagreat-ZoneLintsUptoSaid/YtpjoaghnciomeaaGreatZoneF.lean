/-
  zone.rules: the other five rules that it hands to each.
-/
import Derived.Test.YtpjoaghnciomeaaGreatZoneD
namespace Go.Proofs.YtpjoaghnciomeaaGreat
open Go.RowKit Go.Shelf Go.WideMaps Go.Proofs.YtpjoaghnciomeaaGreat.nm

/-- What a row's value looks like. -/
theorem ownsRow_len {w : World} {base : Nat} {e : TypeId} {size : Nat} {v : Value} {n : Nat} {xs : List Value} (h : w.ownsRow base e size v n xs) : ∃ a cap, v = .slice a n cap ∧ n ≤ cap := by
  rcases h.2 with ⟨rfl, rfl⟩ | ⟨g, cap, cur, rfl, _, _, hc, _⟩
  · exact ⟨none, 0, rfl, Nat.le_refl _⟩
  · exact ⟨_, cap, rfl, hc⟩
/-- sets[k]. -/
theorem sets_look {w : World} {base sb : Nat} {dom : List Key} {F : Key → List Rec} (h : SetsV w base sb dom F) (hF : ∀ κ, κ ∉ dom → F κ = []) {κ : Key} (hκ : KeyOk κ) :
    ∃ v, (∀ W, Below w.heap.size w W → (Instr.lookup 72 (.map (some sb)) (keyV κ) false).run Tryz.prog W = .ok v W) ∧ w.ownsRow base 53 5 v (F κ).length (recsC (F κ)) := by
  obtain ⟨val, hM, hR, _⟩ := h
  refine ⟨if κ ∈ dom then val κ else .slice none 0 0, fun W hW => ?_, ?_⟩
  · exact mapF_look keyE Tryz.underlying72 zero_recs (hM.below hW hM.lt) hκ
  · by_cases hd : κ ∈ dom
    · rw [if_pos hd]; exact hR κ hd
    · rw [if_neg hd, hF κ hd]; exact World.ownsRow_nil w base _ 5

theorem callFunc_rules1 (args : Array Value) (w : World) : (callFunc 83 args).run Tryz.prog w = .ok (.enter 83 args) w := by kernel_rfl
theorem callFunc_rules2 (args : Array Value) (w : World) : (callFunc 85 args).run Tryz.prog w = .ok (.enter 85 args) w := by kernel_rfl
theorem callFunc_rules3 (args : Array Value) (w : World) : (callFunc 86 args).run Tryz.prog w = .ok (.enter 86 args) w := by kernel_rfl
theorem callFunc_rules4 (args : Array Value) (w : World) : (callFunc 88 args).run Tryz.prog w = .ok (.enter 88 args) w := by kernel_rfl
theorem callFunc_rules5 (args : Array Value) (w : World) : (callFunc 89 args).run Tryz.prog w = .ok (.enter 89 args) w := by kernel_rfl
theorem callFunc_rules6 (args : Array Value) (w : World) : (callFunc 90 args).run Tryz.prog w = .ok (.enter 90 args) w := by kernel_rfl

namespace zn
def bad3 (r : Rec) : Bool := (decide (r.typ = 2) || decide (r.typ = 39)) && isStarB r.owner
def bad4 (all : ByteArray → Int) (r : Rec) : Bool := decide (r.typ = 5) && decide (1 < all (foldS r.owner))
end zn

set_option maxRecDepth 100000 in
theorem rules3_any (k : Int) (r : Rec) (w : World) : Calls Tryz.prog 86 #[.int .i64 k, recV r] w fun e w' => e = .returned (.bool (zn.bad3 r)) ∧ Below w.heap.size w w' := by
  have hB := Lib.hid ((Below.refl _ w).alloc (Nat.le_refl _) (.cells (recC r).toArray 53))
  by_cases h2 : r.typ = 2
  · have b1 : (r.typ == 2) = true := by rw [beq_iff_eq]; exact h2
    have hr : zn.bad3 r = isStarB r.owner := by unfold zn.bad3; rw [decide_eq_true h2]; rfl
    have HR := Lib.hid hr
    clear hr h2
    go_enter Tryz.func86, Tryz.ntmps86
    go_wp2_with fail
    refine (isStar_any _ _).mono ?_
    rintro e w2 ⟨rfl, hB2⟩
    go_wp2_with fail
    go_ret
    exact ⟨ret_b HR.out.symm, hB.out.trans (hB2.mono hB.out.size)⟩
  · have b1 : (r.typ == 2) = false := by rw [beq_eq_false_iff_ne]; exact h2
    by_cases h3 : r.typ = 39
    · have b2 : (r.typ == 39) = true := by rw [beq_iff_eq]; exact h3
      have hr : zn.bad3 r = isStarB r.owner := by unfold zn.bad3; rw [decide_eq_false h2, decide_eq_true h3]; rfl
      have HR := Lib.hid hr
      clear hr h2 h3
      go_enter Tryz.func86, Tryz.ntmps86
      go_wp2_with fail
      refine (isStar_any _ _).mono ?_
      rintro e w2 ⟨rfl, hB2⟩
      go_wp2_with fail
      go_ret
      exact ⟨ret_b HR.out.symm, hB.out.trans (hB2.mono hB.out.size)⟩
    · have b2 : (r.typ == 39) = false := by rw [beq_eq_false_iff_ne]; exact h3
      have hr : zn.bad3 r = false := by unfold zn.bad3; rw [decide_eq_false h2, decide_eq_false h3]; rfl
      have HR := Lib.hid hr
      clear hr h2 h3
      go_enter Tryz.func86, Tryz.ntmps86
      go_wp2_with fail
      go_ret
      exact ⟨ret_b HR.out.symm, hB.out⟩

set_option maxRecDepth 100000 in
theorem rules4_any (k : Int) (r : Rec) (ac m : Nat) (f : ByteArray → Int) (w : World) (hac : w.cell? ⟨ac, 0, none⟩ = some (.map (some m))) (hm : CountM Value.string StrOk w m f) :
    Calls Tryz.prog 88 #[.int .i64 k, recV r, .pointer (some ⟨ac, 0, none⟩)] w fun e w' => e = .returned (.bool (zn.bad4 f r)) ∧ Below w.heap.size w w' := by
  have hB := Lib.hid ((Below.refl _ w).alloc (Nat.le_refl _) (.cells (recC r).toArray 53))
  have e0 := gw_cell (rec_cell w r 53 0 _ rfl)
  have e1 := gw_cell (rec_cell w r 53 1 _ rfl)
  have e2 := gw_cell (cell_alloc_l (.cells (recC r).toArray 53) hac)
  have hsz : StrOk (foldS r.owner) := by have := fold_size r.owner; show (foldS r.owner).size ≤ maxLen; unfold maxLen; omega
  have e3 : ∀ p, (Instr.lookup 73 (.map (some m)) (.string (foldS r.owner)) false).run Tryz.prog (gw (w.alloc (.cells (recC r).toArray 53)) p) = .ok (.int .i64 (f (foldS r.owner))) (gw (w.alloc (.cells (recC r).toArray 53)) p) := fun p =>
    ((hm.alloc _).below (gw_below _ p)).look strE Tryz.underlying73 hsz
  have hr : zn.bad4 f r = (decide (r.typ = 5) && decide (1 < f (foldS r.owner))) := rfl
  have HR := Lib.hid hr
  clear hr hac hm hsz
  by_cases h5 : r.typ = 5
  · have b1 : (r.typ == 5) = true := by rw [beq_iff_eq]; exact h5
    have H5 := Lib.hid h5
    clear h5
    go_enter Tryz.func88, Tryz.ntmps88
    go_wp2_with fail
    refine wp_region_gw (by kernel_rfl) (by kernel_rfl) ?_
    repeat (refine wpQuiet_step (fun K hK => ?_); go_simp; first | (refine hK _ ?_; clear hK K) | (apply Exists.intro; refine ⟨fun _ => ?_, hK _ ?_⟩; (first | (go_at_call 52; exact calls_gw (fold_any _ _))); clear hK K))
    refine wpQuiet_nil ?_
    intro W hW
    have hBW : Below w.heap.size (w.alloc (.cells (recC r).toArray 53)) W := by obtain ⟨p, rfl⟩ := hW; exact (gw_below _ p).mono hB.out.size
    clear hW
    go_wp2_with fail
    go_ret
    exact ⟨ret_b (by rw [HR.out, decide_eq_true H5.out, Bool.true_and]), hB.out.trans hBW⟩
  · have b1 : (r.typ == 5) = false := by rw [beq_eq_false_iff_ne]; exact h5
    have H5 := Lib.hid h5
    clear h5
    go_enter Tryz.func88, Tryz.ntmps88
    go_wp2_with fail
    refine wp_region_gw (by kernel_rfl) (by kernel_rfl) ?_
    repeat (refine wpQuiet_step (fun K hK => ?_); go_simp; first | (refine hK _ ?_; clear hK K) | (apply Exists.intro; refine ⟨fun _ => ?_, hK _ ?_⟩; (first | (go_at_call 52; exact calls_gw (fold_any _ _))); clear hK K))
    refine wpQuiet_nil ?_
    intro W hW
    have hBW : Below w.heap.size (w.alloc (.cells (recC r).toArray 53)) W := by obtain ⟨p, rfl⟩ := hW; exact (gw_below _ p).mono hB.out.size
    clear hW
    go_wp2_with fail
    go_ret
    exact ⟨ret_b (by rw [HR.out, decide_eq_false H5.out, Bool.false_and]), hB.out.trans hBW⟩
end Go.Proofs.YtpjoaghnciomeaaGreat
/-
  zone.rules: the second, fifth and sixth rule that it hands to each.
-/
namespace Go.Proofs.YtpjoaghnciomeaaGreat
open Go.RowKit Go.Shelf Go.WideMaps Go.Proofs.YtpjoaghnciomeaaGreat.nm

namespace zn
def bad2 (apex : ByteArray) (c : Nat) (r : Rec) : Bool := decide (r.typ = 6) && (decide (0 < c) || !equalB r.owner apex)
def bad5 (low : ByteArray) (F : Key → List Rec) (below : ByteArray → Int) (r : Rec) : Bool := decide (r.typ = 39) && (decide (foldS r.owner = low) || decide (1 < (F (foldS r.owner, 39)).length) || decide (0 < below (foldS r.owner)))
def bad6 (F : Key → List Rec) (r : Rec) : Bool := !decide (r.typ = 46) && !decide (r.ttl = ((F (keyR r)).headD r).ttl)
end zn
theorem fold_ok (s : ByteArray) : (foldS s).size ≤ maxLen := by have := fold_size s; unfold maxLen; omega

set_option maxRecDepth 100000 in
set_option maxHeartbeats 1000000 in
theorem rules5_any (k : Int) (r : Rec) (lc bx bc m z sb base : Nat) (low apex : ByteArray) (dom : List Key) (F : Key → List Rec) (f : ByteArray → Int) (rv tv : Value) (w : World)
    (hlc : w.cell? ⟨lc, 0, none⟩ = some (.string low)) (hbx : w.cell? ⟨bx, 0, none⟩ = some (.pointer (some ⟨z, 0, none⟩))) (hz : ZoneAt w z apex rv (.map (some sb)) tv) (hbc : w.cell? ⟨bc, 0, none⟩ = some (.map (some m)))
    (hm : CountM Value.string StrOk w m f) (hS : SetsV w base sb dom F) (hF : ∀ κ, κ ∉ dom → F κ = []) :
    Calls Tryz.prog 89 #[.int .i64 k, recV r, .pointer (some ⟨lc, 0, none⟩), .pointer (some ⟨bx, 0, none⟩), .pointer (some ⟨bc, 0, none⟩)] w fun e w' => e = .returned (.bool (zn.bad5 low F f r)) ∧ Below w.heap.size w w' := by
  have hB := Lib.hid ((Below.refl _ w).alloc (Nat.le_refl _) (.cells (recC r).toArray 53))
  have hz2 : w.cell? ⟨z, 2, none⟩ = some (.map (some sb)) := by rw [heap_cell hz]; rfl
  have l1 := cell_lt hlc; have l2 := cell_lt hbx; have l3 := cell_lt hbc; have l4 := cell_lt hz2
  obtain ⟨v, hv, hown⟩ := sets_look hS hF (κ := (foldS r.owner, 39)) ⟨fold_ok _, rfl⟩
  obtain ⟨a, cap, rfl, hcap⟩ := ownsRow_len hown
  have hr : zn.bad5 low F f r = (decide (r.typ = 39) && (decide (foldS r.owner = low) || decide (1 < (F (foldS r.owner, 39)).length) || decide (0 < f (foldS r.owner)))) := rfl
  obtain ⟨n, hn⟩ : ∃ n, n = (F (foldS r.owner, 39)).length := ⟨_, rfl⟩
  rw [← hn] at hv hown hcap hr
  have HR := Lib.hid hr; have H1 := Lib.hid hlc; have H2 := Lib.hid hbx; have H3 := Lib.hid hbc; have H4 := Lib.hid hz2; have HV := Lib.hid hv; have HM := Lib.hid hm
  clear hr hlc hbx hbc hz2 hv hown hn hm hS hF hz
  have hnn : (0 : Int) ≤ (n : Int) := Int.natCast_nonneg _
  go_enter Tryz.func89, Tryz.ntmps89
  go_wp2_with fail
  refine (fold_any _ _).mono ?_
  rintro e w2 ⟨rfl, hB2⟩
  have hBw := hB.out.trans (hB2.mono hB.out.size)
  have k1 := (hB2.cell (p := ⟨w.heap.size, 1, none⟩) (by simp)).trans (rec_cell w r 53 1 _ rfl)
  have s1 := (hBw.cell (p := ⟨lc, 0, none⟩) l1).trans H1.out
  have s2 := (hBw.cell (p := ⟨bx, 0, none⟩) l2).trans H2.out
  have s3 := (hBw.cell (p := ⟨bc, 0, none⟩) l3).trans H3.out
  have s4 := (hBw.cell (p := ⟨z, 2, none⟩) l4).trans H4.out
  have u1 := HV.out w2 hBw
  have u2 := (HM.out.below hBw).look strE Tryz.underlying73 (fold_ok r.owner)
  have HBW := Lib.hid hBw
  clear hBw hB2
  by_cases h39 : r.typ = 39
  · have b1 : (r.typ == 39) = true := by rw [beq_iff_eq]; exact h39
    by_cases hlo : foldS r.owner = low
    · have b2 : ((foldS r.owner).toList == low.toList) = true := str_eq.2 hlo
      have hr2 : zn.bad5 low F f r = true := by rw [HR.out, decide_eq_true h39, decide_eq_true hlo]; rfl
      have HR2 := Lib.hid hr2
      clear hr2 h39 hlo
      go_wp2_with fail
      go_ret
      exact ⟨ret_b HR2.out.symm, HBW.out⟩
    · have b2 : ((foldS r.owner).toList == low.toList) = false := str_ne hlo
      by_cases h1 : 1 < n
      · have hr2 : zn.bad5 low F f r = true := by rw [HR.out, decide_eq_true h39, decide_eq_false hlo, decide_eq_true h1]; rfl
        have HR2 := Lib.hid hr2
        clear hr2 h39 hlo
        go_wp2_with fail
        go_ret
        exact ⟨ret_b HR2.out.symm, HBW.out⟩
      · have hr2 : zn.bad5 low F f r = decide (0 < f (foldS r.owner)) := by rw [HR.out, decide_eq_true h39, decide_eq_false hlo, decide_eq_false h1]; rfl
        have hd1 : decide ((1 : Int) < (n : Int)) = false := decide_eq_false (by omega)
        have HR2 := Lib.hid hr2; have HD1 := Lib.hid hd1
        clear hr2 h39 hlo hd1
        go_wp2_with fail
        go_ret
        exact ⟨ret_b (by rw [HR2.out, HD1.out, Bool.false_or]), HBW.out⟩
  · have b1 : (r.typ == 39) = false := by rw [beq_eq_false_iff_ne]; exact h39
    have hr2 : zn.bad5 low F f r = false := by rw [HR.out, decide_eq_false h39]; rfl
    have HR2 := Lib.hid hr2
    clear hr2 h39
    go_wp2_with fail
    go_ret
    exact ⟨ret_b HR2.out.symm, HBW.out⟩

end Go.Proofs.YtpjoaghnciomeaaGreat
/-
  zone.rules: the sixth rule that it hands to each.
-/
namespace Go.Proofs.YtpjoaghnciomeaaGreat
open Go.RowKit Go.Shelf Go.WideMaps Go.Proofs.YtpjoaghnciomeaaGreat.nm

set_option maxRecDepth 100000 in
set_option maxHeartbeats 8000000 in
theorem rules6_any (k : Int) (r : Rec) (hty : (Lit.int .i64 r.typ).wf = true) (bx z sb base : Nat) (apex : ByteArray) (dom : List Key) (F : Key → List Rec) (rv tv : Value) (w : World)
    (hbx : w.cell? ⟨bx, 0, none⟩ = some (.pointer (some ⟨z, 0, none⟩))) (hz : ZoneAt w z apex rv (.map (some sb)) tv)
    (hS : SetsV w base sb dom F) (hF : ∀ κ, κ ∉ dom → F κ = []) (hne : F (zn.keyR r) ≠ []) :
    Calls Tryz.prog 90 #[.int .i64 k, recV r, .pointer (some ⟨bx, 0, none⟩)] w fun e w' => e = .returned (.bool (zn.bad6 F r)) ∧ Below w.heap.size w w' := by
  have hB := Lib.hid ((Below.refl _ w).alloc (Nat.le_refl _) (.cells (recC r).toArray 53))
  have hz2 : w.cell? ⟨z, 2, none⟩ = some (.map (some sb)) := by rw [heap_cell hz]; rfl
  obtain ⟨v, hv, hown⟩ := sets_look hS hF (κ := (foldS r.owner, r.typ)) ⟨fold_ok _, hty⟩
  have hne' : F (foldS r.owner, r.typ) ≠ [] := hne
  obtain ⟨r0, rest, hr0⟩ := List.exists_cons_of_ne_nil hne'
  have hr : zn.bad6 F r = (!decide (r.typ = 46) && !decide (r.ttl = r0.ttl)) := by unfold zn.bad6 zn.keyR; rw [hr0]; rfl
  rw [hr0] at hown
  obtain ⟨g, cap, rfl, hbg, hgl⟩ := hown.form (by simp)
  have hcell : w.cell? ⟨g, 3, none⟩ = some (.int .i64 r0.ttl) := by
    have := hown.cells (g := g) rfl 3 (.int .i64 r0.ttl) (by simp [recsC])
    simpa [Addr.add] using this
  obtain ⟨n, hn⟩ : ∃ n, n = (r0 :: rest).length := ⟨_, rfl⟩
  rw [← hn] at hv
  have hn1 : 0 < n := by rw [hn]; simp
  have e0 := gw_cell (rec_cell w r 53 0 _ rfl)
  have e1 := gw_cell (rec_cell w r 53 1 _ rfl)
  have e3 := gw_cell (rec_cell w r 53 3 _ rfl)
  have f1 := gw_cell (cell_alloc_l (.cells (recC r).toArray 53) hbx)
  have f2 := gw_cell (cell_alloc_l (.cells (recC r).toArray 53) hz2)
  have f3 := gw_cell (cell_alloc_l (.cells (recC r).toArray 53) hcell)
  have f4 : ∀ p, (Instr.lookup 72 (.map (some sb)) (keyV (foldS r.owner, r.typ)) false).run Tryz.prog (gw (w.alloc (.cells (recC r).toArray 53)) p) = .ok (.slice (some ⟨g, 0, none⟩) n cap) (gw (w.alloc (.cells (recC r).toArray 53)) p) := fun p =>
    hv _ (hB.out.trans ((gw_below _ p).mono hB.out.size))
  have HR := Lib.hid hr
  clear hr hbx hz hS hF hne hne' hz2 hv hr0 hown hcell hbg hn hty
  by_cases h46 : r.typ = 46
  · have b1 : (r.typ == 46) = true := by rw [beq_iff_eq]; exact h46
    have b2 : (r.typ != 46) = false := by rw [bne_eq_false_iff_eq]; exact h46
    have hr2 : zn.bad6 F r = false := by rw [HR.out, decide_eq_true h46]; rfl
    have HR2 := Lib.hid hr2
    clear h46 hr2
    go_enter Tryz.func90, Tryz.ntmps90
    go_wp2_with fail
    refine wp_region_gw (by kernel_rfl) (by kernel_rfl) ?_
    repeat (with_reducible refine wpQuiet_step (fun K hK => ?_); go_simp; first | (with_reducible refine hK _ ?_; clear hK K) | (apply Exists.intro; refine ⟨fun _ => ?_, hK _ ?_⟩; (first | (go_at_call 52; exact calls_gw (fold_any _ _))); clear hK K))
    with_reducible refine wpQuiet_nil ?_
    intro W hW
    have hBW : Below w.heap.size (w.alloc (.cells (recC r).toArray 53)) W := by obtain ⟨p, rfl⟩ := hW; exact (gw_below _ p).mono hB.out.size
    clear hW
    go_wp2_with fail
    go_ret
    exact ⟨ret_b HR2.out.symm, hB.out.trans hBW⟩
  · have b1 : (r.typ == 46) = false := by rw [beq_eq_false_iff_ne]; exact h46
    have b2 : (r.typ != 46) = true := by rw [bne_iff_ne]; exact h46
    have hr2 : zn.bad6 F r = (r.ttl != r0.ttl) := by
      rw [HR.out, decide_eq_false h46]
      by_cases h : r.ttl = r0.ttl
      · simp [h]
      · simp [h]
    have HR2 := Lib.hid hr2
    clear h46 hr2
    go_enter Tryz.func90, Tryz.ntmps90
    go_wp2_with fail
    refine wp_region_gw (by kernel_rfl) (by kernel_rfl) ?_
    repeat (with_reducible refine wpQuiet_step (fun K hK => ?_); go_simp; first | (with_reducible refine hK _ ?_; clear hK K) | (apply Exists.intro; refine ⟨fun _ => ?_, hK _ ?_⟩; (first | (go_at_call 52; exact calls_gw (fold_any _ _))); clear hK K))
    with_reducible refine wpQuiet_nil ?_
    intro W hW
    have hBW : Below w.heap.size (w.alloc (.cells (recC r).toArray 53)) W := by obtain ⟨p, rfl⟩ := hW; exact (gw_below _ p).mono hB.out.size
    clear hW
    go_wp2_with fail
    go_ret
    exact ⟨ret_b (by rw [HR2.out]), hB.out.trans hBW⟩
end Go.Proofs.YtpjoaghnciomeaaGreat
/-
  zone.rules: the second rule that it hands to each.
-/
namespace Go.Proofs.YtpjoaghnciomeaaGreat
open Go.RowKit Go.Shelf Go.WideMaps Go.Proofs.YtpjoaghnciomeaaGreat.nm

/-- How many SOA records there are, behind one more record. -/
def zn.soaN (r : Rec) (c : Nat) : Nat := if r.typ = 6 then c + 1 else c

set_option maxRecDepth 100000 in
set_option maxHeartbeats 1000000 in
theorem rules2_any (k : Int) (r : Rec) (s4 bx z c : Nat) (hc : c ≤ 2000) (apex : ByteArray) (rv sv tv : Value) (w : World) (hs4 : w.heap[s4]? = some (.cells #[.int .i64 (c : Int)] 3 (0, 0)))
    (hbx : w.cell? ⟨bx, 0, none⟩ = some (.pointer (some ⟨z, 0, none⟩))) (hz : ZoneAt w z apex rv sv tv) :
    Calls Tryz.prog 85 #[.int .i64 k, recV r, .pointer (some ⟨s4, 0, none⟩), .pointer (some ⟨bx, 0, none⟩)] w fun e w' => e = .returned (.bool (zn.bad2 apex c r)) ∧ w.grownBy w' (some s4) ∧
      w'.heap[s4]? = some (.cells #[.int .i64 ((zn.soaN r c : Nat) : Int)] 3 (0, 0)) := by
  have l4 := heap_lt hs4
  have n1 : bx ≠ s4 := fun e => by subst e; rw [heap_cell hs4] at hbx; simp at hbx
  have n2 : z ≠ s4 := heap_ne hz hs4 (by simp)
  have lz := heap_lt hz
  have lb := cell_lt hbx
  have c4 : w.cell? ⟨s4, 0, none⟩ = some (.int .i64 (c : Int)) := by rw [heap_cell hs4]; rfl
  have f4 : w.frozen? ⟨s4, 0, none⟩ = false := heap_frozen hs4 0
  by_cases h6 : r.typ = 6
  · have b1 : (r.typ == 6) = true := by rw [beq_iff_eq]; exact h6
    have b2 : (r.typ != 6) = false := by rw [bne_eq_false_iff_eq]; exact h6
    obtain ⟨w3, hw3⟩ : ∃ X, X = (w.setCell ⟨s4, 0, none⟩ (.int .i64 ((c : Int) + 1))).alloc (.cells (recC r).toArray 53) := ⟨_, rfl⟩
    have hset := heap_set_at hs4 0 (.int .i64 ((c : Int) + 1))
    have h34 : w3.heap[s4]? = some (.cells #[.int .i64 ((c : Int) + 1)] 3 (0, 0)) := by rw [hw3]; exact heap_alloc_keep hset _
    have hg3 : w.grownBy w3 (some s4) := by rw [hw3]; exact (grownBy_setCell w ⟨s4, 0, none⟩ _).trans (World.grownBy_alloc _ _ _)
    have hs3 : w3.heap.size = w.heap.size + 1 := by rw [hw3]; simp [World.setCell]
    have hrc : w3.cell? ⟨w.heap.size, 0, none⟩ = some (.string r.owner) := by
      rw [hw3]
      have h1 := rec_cell (w.setCell ⟨s4, 0, none⟩ (.int .i64 ((c : Int) + 1))) r 53 0 _ rfl
      have h2 : (w.setCell ⟨s4, 0, none⟩ (.int .i64 ((c : Int) + 1))).heap.size = w.heap.size := by simp [World.setCell]
      rw [h2] at h1
      exact h1
    have d0 := gw_cell hrc
    have d1 := gw_cell (show w3.cell? ⟨s4, 0, none⟩ = some (.int .i64 ((c : Int) + 1)) by rw [heap_cell h34]; rfl)
    have d2 := gw_cell (hg3.cell hbx (by simpa using n1))
    have hz0 : w.cell? ⟨z, 0, none⟩ = some (.string apex) := by rw [heap_cell hz]; rfl
    have d3 := gw_cell (hg3.cell hz0 (by simpa using n2))
    have hif : ((zn.soaN r c : Nat) : Int) = (c : Int) + 1 := by unfold zn.soaN; rw [if_pos h6]; rfl
    have hr : zn.bad2 apex c r = (decide (0 < c) || !equalB r.owner apex) := by unfold zn.bad2; rw [decide_eq_true h6, Bool.true_and]
    have HR := Lib.hid hr; have HG := Lib.hid hg3; have H34 := Lib.hid h34; have HW := Lib.hid hw3; have HIF := Lib.hid hif; have HS3 := Lib.hid hs3
    clear hr hg3 h34 hw3 hset hrc hz0 hbx hz h6 hif hs4 hs3
    go_enter Tryz.func85, Tryz.ntmps85
    go_wp2_with fail
    rw [← HW.out]
    clear c4 f4
    by_cases h0 : 0 < c
    · have hgt : decide ((1 : Int) < (c : Int) + 1) = true := decide_eq_true (by omega)
      have hr2 : zn.bad2 apex c r = true := by rw [HR.out, decide_eq_true h0]; rfl
      have HR2 := Lib.hid hr2
      clear hr2 h0
      refine wp_region_gw (by kernel_rfl) (by kernel_rfl) ?_
      repeat (with_reducible refine wpQuiet_step (fun K hK => ?_); go_simp; first | (with_reducible refine hK _ ?_; clear hK K) | (apply Exists.intro; refine ⟨fun _ => ?_, hK _ ?_⟩; (first | (go_at_call 31; exact calls_gw (equal_any _ _ _))); clear hK K))
      with_reducible refine wpQuiet_nil ?_
      intro W hW
      have hBW : Below w3.heap.size w3 W := by obtain ⟨p, rfl⟩ := hW; exact gw_below _ p
      clear hW
      go_wp2_with fail
      go_ret
      exact ⟨ret_b HR2.out.symm, HG.out.trans ⟨hBW.os, hBW.tape, hBW.output, hBW.size, fun j hj _ => hBW.block j hj⟩, by rw [HIF.out]; exact (hBW.block s4 (heap_lt H34.out)).trans H34.out⟩
    · have hgt : decide ((1 : Int) < (c : Int) + 1) = false := decide_eq_false (by omega)
      have hr2 : zn.bad2 apex c r = (!equalB r.owner apex) := by rw [HR.out, decide_eq_false h0]; rfl
      have HR2 := Lib.hid hr2
      clear hr2 h0
      refine wp_region_gw (by kernel_rfl) (by kernel_rfl) ?_
      repeat (with_reducible refine wpQuiet_step (fun K hK => ?_); go_simp; first | (with_reducible refine hK _ ?_; clear hK K) | (apply Exists.intro; refine ⟨fun _ => ?_, hK _ ?_⟩; (first | (go_at_call 31; exact calls_gw (equal_any _ _ _))); clear hK K))
      with_reducible refine wpQuiet_nil ?_
      intro W hW
      have hBW : Below w3.heap.size w3 W := by obtain ⟨p, rfl⟩ := hW; exact gw_below _ p
      clear hW
      go_wp2_with fail
      go_ret
      exact ⟨ret_b HR2.out.symm, HG.out.trans ⟨hBW.os, hBW.tape, hBW.output, hBW.size, fun j hj _ => hBW.block j hj⟩, by rw [HIF.out]; exact (hBW.block s4 (heap_lt H34.out)).trans H34.out⟩
  · have b1 : (r.typ == 6) = false := by rw [beq_eq_false_iff_ne]; exact h6
    have b2 : (r.typ != 6) = true := by rw [bne_iff_ne]; exact h6
    have hr : zn.bad2 apex c r = false := by unfold zn.bad2; rw [decide_eq_false h6]; rfl
    have hg : w.grownBy (w.alloc (.cells (recC r).toArray 53)) (some s4) := World.grownBy_alloc _ _ _
    have hk : (w.alloc (.cells (recC r).toArray 53)).heap[s4]? = some (.cells #[.int .i64 (c : Int)] 3 (0, 0)) := heap_alloc_keep hs4 _
    have hif : ((zn.soaN r c : Nat) : Int) = (c : Int) := by unfold zn.soaN; rw [if_neg h6]
    have HR := Lib.hid hr; have HG := Lib.hid hg; have HK := Lib.hid hk; have HIF := Lib.hid hif
    clear hr hg hk h6 hif hs4 hz hbx
    go_enter Tryz.func85, Tryz.ntmps85
    go_wp2_with fail
    go_ret
    exact ⟨ret_b HR.out.symm, HG.out, by rw [HIF.out]; exact HK.out⟩
end Go.Proofs.YtpjoaghnciomeaaGreat

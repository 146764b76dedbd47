import Derived.Test.YtdjjemajfphjaaaGreatQUpdE
import Derived.Test.YtdjjemajfphjaaaGreatQDataS
import Derived.Test.YtdjjemajfphjaaaGreatQRefU
import Derived.Deep.CutBlock
namespace Go.Proofs.YtdjjemajfphjaaaGreat
open Go.RowKit Go.Shelf Go.Proofs.YtdjjemajfphjaaaGreat.nm Go.Proofs.YtdjjemajfphjaaaGreat.od
theorem like_size : (Tryz.prog.info? 72).map (·.size) = some 3 := by kernel_rfl
theorem like_ret {fn : Func} {p : Tmp} (hf : fn.results = #[.cell p 72]) {R : Ending → World → Prop} {a : Act} {w : World} {g : Nat} {v0 v1 v2 : Value} (hp : a.tmps.getD p undef = .pointer (some ⟨g, 0, none⟩))
    (hd : a.defers = []) (hg : w.heap[g]? = some (.cells #[v0, v1, v2] 72 (0, 0))) (hR : R (.returned (.agg #[v0, v1, v2])) w) : bodyPost Tryz.prog fn R .ret a w :=
  bodyPost_ret_by (results_cell_row hf _ w g _ _ _ _ hp hg Tryz.underlying72 rfl like_size) hd hR
set_option maxRecDepth 100000 in
set_option maxHeartbeats 4000000 in
theorem key_any (x : Rec) (w : World) : Calls Tryz.prog 31 #[recV x] w fun e w' => e = .returned (fullV (zn.fullR x)) ∧ Below w.heap.size w w' := by
  obtain ⟨w1, hw1⟩ : ∃ X, X = w.alloc (.cells (recC x).toArray 51) := ⟨_, rfl⟩
  obtain ⟨w2, hw2⟩ : ∃ X, X = w1.alloc (.cells #[.string ⟨#[]⟩, .int .i64 0, .string ⟨#[]⟩] 72) := ⟨_, rfl⟩
  obtain ⟨hB1, hs1, hx1⟩ := rec_new w w1 x hw1
  have hB2 : Below w1.heap.size w1 w2 := by rw [hw2]; exact (Below.refl _ w1).alloc (Nat.le_refl _) _
  have hs2 : w2.heap.size = w1.heap.size + 1 := by rw [hw2, World.size_alloc]
  have hl2 : w2.heap[w1.heap.size]? = some (.cells #[.string ⟨#[]⟩, .int .i64 0, .string ⟨#[]⟩] 72 (0, 0)) := by rw [hw2]; exact heap_new_at rfl
  obtain ⟨bx, hbx⟩ : ∃ b, b = w.heap.size := ⟨_, rfl⟩
  obtain ⟨bl, hbl⟩ : ∃ b, b = w1.heap.size := ⟨_, rfl⟩
  have hx2 := hx1.keep (hB2.block w.heap.size (by omega))
  rw [← hbx] at hx2
  rw [← hbl] at hl2
  have hbb : bx < w2.heap.size ∧ bl < w2.heap.size := by omega
  obtain ⟨y0, y1, y2, y3, y4⟩ := hx2
  have k0 := gw_cell (show w2.cell? ⟨bx, 0, none⟩ = some (.string x.owner) by simpa using y0)
  have k1 := gw_cell (show w2.cell? ⟨bx, 1, none⟩ = some (.int .i64 x.typ) by simpa using y1)
  have k4 := gw_cell (show w2.cell? ⟨bx, 4, none⟩ = some (.string x.data) by simpa using y4)
  have hBL : ∀ X : World, Below w2.heap.size w2 X → X.heap[bl]? = some (.cells #[.string ⟨#[]⟩, .int .i64 0, .string ⟨#[]⟩] 72 (0, 0)) := fun X hX => (hX.block bl hbb.2).trans hl2
  have hBLc : ∀ X : World, Below w2.heap.size w2 X → X.cell? ⟨bl, 0, none⟩ = some (.string ⟨#[]⟩) ∧ X.cell? ⟨bl, 1, none⟩ = some (.int .i64 0) ∧ X.cell? ⟨bl, 2, none⟩ = some (.string ⟨#[]⟩) ∧ X.frozen? ⟨bl, 0, none⟩ = false ∧ X.frozen? ⟨bl, 1, none⟩ = false ∧ X.frozen? ⟨bl, 2, none⟩ = false := fun X hX => by
    have h2 := hBL X hX
    refine ⟨?_, ?_, ?_, heap_frozen h2 _, heap_frozen h2 _, heap_frozen h2 _⟩ <;> (rw [heap_cell h2]; rfl)
  have e1 : w.heap.size + 1 = bl := by omega
  obtain ⟨lo, hlo⟩ : ∃ lo, lo = foldS x.owner := ⟨_, rfl⟩
  obtain ⟨fd, hfd⟩ : ∃ fd, fd = dt.foldD x.typ x.data := ⟨_, rfl⟩
  have CF : Hid (∀ p, Calls Tryz.prog 65 #[.string x.owner] (gw w2 p) fun e w'' => e = .returned (.string lo) ∧ ∃ p', w'' = gw w2 p') := Lib.hid fun p => by rw [hlo]; exact calls_gw (fold_any x.owner _)
  have CD : Hid (∀ p, Calls Tryz.prog 73 #[.int .i64 x.typ, .string x.data] (gw w2 p) fun e w'' => e = .returned (.string fd) ∧ ∃ p', w'' = gw w2 p') := Lib.hid fun p => by rw [hfd]; exact calls_gw (dfold_any x.typ x.data _)
  have hres : zn.fullR x = (lo, x.typ, fd) := by rw [hlo, hfd]; rfl
  rw [hres]
  have HW1 := Lib.hid hw1; have HW2 := Lib.hid hw2; have HBX := Lib.hid hbx; have E1 := Lib.hid e1; have HL2 := Lib.hid hl2; have HBB := Lib.hid hbb; have HB := Lib.hid (hB1.trans (hB2.mono hB1.size)); have HLE := Lib.hid (show w.heap.size ≤ bl by omega)
  have HBL := Lib.hid hBL; have HBLC := Lib.hid hBLc
  clear hw1 hw2 hB1 hs1 hx1 hB2 hs2 hl2 hbx hbl hbb hBL hBLc e1 y0 y1 y2 y3 y4 hlo hfd hres
  go_enter Tryz.func31, Tryz.ntmps31
  go_upto_region 1 with fail
  rw [← HW1.out, ← HW2.out, E1.out, ← HBX.out]
  refine wp_region_quiet_tail (C := fun W => ∃ p, W = gw w2 p) 11 (by kernel_rfl) (by kernel_rfl) (gw_draw w2) ?_
  simp only [List.take_succ_cons, List.take_zero, List.drop_succ_cons, List.drop_zero]
  repeat (with_reducible refine wpQuiet_step (fun K hK => ?_); go_simp; first | (with_reducible refine hK _ ?_; clear hK K) | (apply Exists.intro; refine ⟨fun _ => ?_, hK _ ?_⟩; (first | (go_at_call 65; with_reducible exact CF.out _) | (go_at_call 73; with_reducible exact CD.out _)); clear hK K))
  with_reducible refine wpQuiet_nil ?_
  intro W hW
  have hbN : Below w2.heap.size w2 W := by obtain ⟨p, rfl⟩ := hW; exact gw_below _ _
  obtain ⟨z0, z1, z2, z3, z4, z5⟩ := HBLC.out _ hbN
  have hfin := (heap_set_at ((heap_set_at ((heap_set_at (HBL.out _ hbN) 0 (.string lo)).trans rfl) 1 (.int .i64 x.typ)).trans rfl) 2 (.string fd)).trans rfl
  have hbel := ((((HB.out.trans (hbN.mono HB.out.size)).setCell (p := ⟨bl, 0, none⟩) HLE.out (.string lo)).setCell (p := ⟨bl, 1, none⟩) HLE.out (.int .i64 x.typ)).setCell (p := ⟨bl, 2, none⟩) HLE.out (.string fd))
  have HFIN := Lib.hid hfin; have HBEL := Lib.hid hbel
  clear hfin hbel hW k0 k1 k4
  go_wp2_with fail
  exact like_ret rfl rfl rfl HFIN.out ⟨rfl, HBEL.out⟩
end Go.Proofs.YtdjjemajfphjaaaGreat
namespace Go.Proofs.YtdjjemajfphjaaaGreat
open Go.RowKit Go.Shelf Go.Proofs.YtdjjemajfphjaaaGreat.nm Go.Proofs.YtdjjemajfphjaaaGreat.od
theorem callFunc_at1 (args : Array Value) (w : World) : (callFunc 142 args).run Tryz.prog w = .ok (.enter 142 args) w := by kernel_rfl
def hereB (n : ByteArray) (x : Rec) : Bool := decide (foldS x.owner = n)
set_option maxRecDepth 100000 in
set_option maxHeartbeats 1000000 in
theorem at_any_ (n : ByteArray) (w : World) : Calls Tryz.prog 83 #[.string n] w fun e w' =>
    e = .returned (.func (.func 142) #[] #[.pointer (some ⟨w.heap.size, 0, none⟩)]) ∧ Below w.heap.size w w' ∧ w'.cell? ⟨w.heap.size, 0, none⟩ = some (.string (foldS n)) ∧ w.heap.size < w'.heap.size := by
  have hmf : ∀ (fn : Fn) (first cap : Array Value) (w : World), (Instr.makeFunc fn first cap).run Tryz.prog w = .ok (.func fn first cap) w := fun _ _ _ _ => rfl
  obtain ⟨b, hb⟩ : ∃ b, b = w.heap.size := ⟨_, rfl⟩
  obtain ⟨w1, hw1⟩ : ∃ X, X = w.alloc (.cells #[.string n] 9) := ⟨_, rfl⟩
  have hB1 : Below w.heap.size w w1 := by rw [hw1]; exact (Below.refl _ w).alloc (Nat.le_refl _) _
  have hs1 : w1.heap.size = w.heap.size + 1 := by rw [hw1, World.size_alloc]
  have hh1 : w1.heap[b]? = some (.cells #[.string n] 9 (0, 0)) := by rw [hw1]; exact heap_new_at hb
  have hc1 : w1.cell? ⟨b, 0, none⟩ = some (.string n) := by rw [heap_cell hh1]; rfl
  obtain ⟨fo, hfo⟩ : ∃ fo, fo = foldS n := ⟨_, rfl⟩
  have HF := Lib.hid hfo
  rw [← hb, ← hfo]
  have HW1 := Lib.hid hw1; have HB1 := Lib.hid hB1; have HS := Lib.hid hs1; have HH := Lib.hid hh1; have HB := Lib.hid hb
  clear hw1 hB1 hs1 hh1 hb hfo
  go_enter Tryz.func83, Tryz.ntmps83
  go_upto_region 1 with fail
  rw [← HW1.out, ← HB.out]
  go_wp2_with fail
  refine (fold_any n w1).mono ?_
  rintro e w2 ⟨rfl, hB2⟩
  rw [← HF.out]
  have hbl : b < w1.heap.size := by have := HB.out; have := HS.out; omega
  have hh2 := (hB2.block b hbl).trans HH.out
  have c2 : w2.cell? ⟨b, 0, none⟩ = some (.string n) := by rw [heap_cell hh2]; rfl
  have f2 : w2.frozen? ⟨b, 0, none⟩ = false := heap_frozen hh2 0
  have HEND := Lib.hid (show (w2.setCell ⟨b, 0, none⟩ (.string fo)).cell? ⟨b, 0, none⟩ = some (.string fo) from World.cell?_setCell_same' _ _ _ (by rw [c2]; rfl))
  have HBE := Lib.hid ((HB1.out.trans (hB2.mono HB1.out.size)).setCell (p := ⟨b, 0, none⟩) (by rw [HB.out]; exact Nat.le_refl _) (.string fo))
  have HLT := Lib.hid (show b < w2.heap.size from Nat.lt_of_lt_of_le hbl hB2.size)
  clear hB2 hbl hh2 hc1
  go_wp2_with fail
  go_ret
  exact ⟨rfl, by rw [HB.out] at *; exact HBE.out, HEND.out, by simpa using HLT.out⟩
set_option maxRecDepth 100000 in
set_option maxHeartbeats 1000000 in
theorem at1_any_ (x : Rec) (b : Nat) (n : ByteArray) (w : World) (hb : b < w.heap.size) (hc : w.cell? ⟨b, 0, none⟩ = some (.string n)) :
    Calls Tryz.prog 142 #[recV x, .pointer (some ⟨b, 0, none⟩)] w fun e w' => e = .returned (.bool (hereB n x)) ∧ Below w.heap.size w w' := by
  obtain ⟨wa, hwa⟩ : ∃ W, W = w.alloc (.cells (recC x).toArray 51) := ⟨_, rfl⟩
  obtain ⟨hBa, hsa, hxa⟩ := rec_new w wa x hwa
  obtain ⟨x0, x1, x2, x3, x4⟩ := hxa
  have c1 : wa.cell? ⟨b, 0, none⟩ = some (.string n) := (hBa.cell (p := ⟨b, 0, none⟩) hb).trans hc
  obtain ⟨lo, hlo⟩ : ∃ lo, lo = foldS x.owner := ⟨_, rfl⟩
  have CF : Hid (∀ p, Calls Tryz.prog 65 #[.string x.owner] (gw wa p) fun e w'' => e = .returned (.string lo) ∧ ∃ p', w'' = gw wa p') := Lib.hid fun p => by rw [hlo]; exact calls_gw (fold_any x.owner _)
  obtain ⟨q, hq⟩ : ∃ q, q = (lo.toList == n.toList) := ⟨_, rfl⟩
  have hres : hereB n x = q := by
    unfold hereB
    rw [hq, ← hlo]
    by_cases h : lo = n
    · rw [decide_eq_true h, str_eq.2 h]
    · rw [decide_eq_false h, str_ne h]
  have fq : (lo.toList == n.toList) = q := hq.symm
  rw [hres]
  have k1 := gw_cell c1; have k0 := gw_cell x0
  have HWA := Lib.hid hwa; have HBA := Lib.hid hBa
  clear hwa hBa hsa hlo hq hres x0 x1 x2 x3 x4 c1 hc
  go_enter Tryz.func142, Tryz.ntmps142
  go_upto_region 1 with fail
  rw [← HWA.out]
  refine wp_region_gw (by kernel_rfl) (by kernel_rfl) ?_
  repeat (with_reducible refine wpQuiet_step (fun K hK => ?_); go_simp; (try simp only [undef]); first | (with_reducible refine hK _ ?_; clear hK K) | (apply Exists.intro; refine ⟨fun _ => ?_, hK _ ?_⟩; (first | (go_at_call 65; with_reducible exact CF.out _)); clear hK K) | (with_reducible refine ⟨fun _ h => (by cases h), ?_⟩; with_reducible refine hK _ ?_; clear hK K))
  refine wpQuiet_nil ?_
  (try simp only [show Value.tuple #[] = undef from rfl])
  intro W hW
  have hBW : Below wa.heap.size wa W := by obtain ⟨g, rfl⟩ := hW; exact gw_below _ g
  clear hW
  go_wp2_with fail
  go_ret
  exact ⟨rfl, HBA.out.trans (hBW.mono HBA.out.size)⟩
def StockAt (w : World) (base st : Nat) (apex : ByteArray) (l : List Rec) : Prop :=
  ∃ v, w.heap[st]? = some (.cells #[.string apex, v] 80 (0, 0)) ∧ base ≤ st ∧ w.ownsRow base 51 5 v l.length (recsC l)
theorem StockAt.lt {w : World} {base st : Nat} {apex : ByteArray} {l : List Rec} (h : StockAt w base st apex l) : st < w.heap.size := by obtain ⟨_, h, _⟩ := h; exact heap_lt h
theorem StockAt.below {w w' : World} {base st : Nat} {apex : ByteArray} {l : List Rec} (h : StockAt w base st apex l) (hb : Below w.heap.size w w') : StockAt w' base st apex l := by
  obtain ⟨v, h1, h2, h3⟩ := h
  exact ⟨v, (hb.block st (heap_lt h1)).trans h1, h2, ownsRow_below h3 hb⟩
set_option maxRecDepth 100000 in
set_option maxHeartbeats 2000000 in
theorem any_any_ (g : FuncId) (lb : Array Value) (heg : ∀ args w, (callFunc g args).run Tryz.prog w = .ok (.enter g args) w) (p : Rec → Bool) (base st : Nat) (apex : ByteArray) (l : List Rec) (hl : l.length ≤ 1000000000) (w : World) (hs : StockAt w base st apex l)
    (hcall : ∀ r, r ∈ l → ∀ X, Below w.heap.size w X → Calls Tryz.prog g (#[recV r] ++ lb) X fun e X' => e = .returned (.bool (p r)) ∧ Below X.heap.size X X') :
    Calls Tryz.prog 86 #[.pointer (some ⟨st, 0, none⟩), .func (.func g) #[] lb] w fun e w' => e = .returned (.bool (l.any p)) ∧ Below w.heap.size w w' := by
  obtain ⟨v, hst, hbs, hown⟩ := hs
  obtain ⟨va, vc, rfl, -⟩ := ownsRow_len hown
  have c1 : w.cell? ⟨st, 1, none⟩ = some (.slice va l.length vc) := by rw [heap_cell hst]; rfl
  have HV := Lib.hid (owns_recs hown)
  obtain ⟨sb, hsb⟩ : ∃ sb, sb = l.any p := ⟨_, rfl⟩
  rw [← hsb]
  have HSB := Lib.hid hsb; have HCALL := Lib.hid hcall
  clear hst hbs hown hsb hcall
  go_enter Tryz.func86, Tryz.ntmps86
  go_wp2_with fail
  clear c1
  go_loopw [12] (fun kv wr => ∃ k : Nat, k ≤ l.length ∧ kv = .int .i64 (k : Int) ∧ Hid ((∀ j (hj : j < l.length), j < k → p l[j] = false) ∧ Below w.heap.size w wr)) (fun kv _ => l.length - (intOf kv).toNat)
  case atStart => exact ⟨0, Nat.zero_le _, rfl, Lib.hid ⟨fun j hj h => absurd h (Nat.not_lt_zero _), Below.refl _ _⟩⟩
  case round =>
    obtain ⟨k, hk, rfl, HR⟩ := hrel
    obtain ⟨w3, hw3⟩ : ∃ X : World, X = wr := ⟨_, rfl⟩
    subst hw3
    by_cases hlt : k < l.length
    · have hki : (k : Int) < (l.length : Int) := by omega
      obtain ⟨_, _, hv, _, hr0⟩ := HV.out.below HR.out.2
      simp only [Value.slice.injEq, true_and] at hv
      obtain ⟨rfl, rfl⟩ := hv
      obtain ⟨bb, off, rfl, hbl, c0, c1, c2, c3, c4⟩ := hr0 k hlt
      obtain ⟨x, hx⟩ : ∃ x, x = l[k] := ⟨_, rfl⟩
      rw [← hx] at c0 c1 c2 c3 c4
      obtain ⟨wa, hwa⟩ : ∃ W, W = w3.alloc (.cells (recC x).toArray 51) := ⟨_, rfl⟩
      obtain ⟨hBa, hsa, hxa⟩ := rec_new w3 wa x hwa
      obtain ⟨x0, x1, x2, x3, x4⟩ := hxa
      have HWA := Lib.hid hwa; have HX := Lib.hid hx; have HLT := Lib.hid hlt
      have HB4 := Lib.hid (HR.out.2.trans (hBa.mono HR.out.2.size))
      have HC := Lib.hid (HCALL.out x (by rw [hx]; exact List.getElem_mem _) wa HB4.out)
      clear hwa hx hBa hsa hr0 hbl
      go_upto_region 4 with fail
      rw [← HWA.out]
      clear c0 c1 c2 c3 c4
      go_wp2_with fail
      refine HC.out.mono ?_
      rintro e w5 ⟨rfl, hB5⟩
      have HB5 := Lib.hid (HB4.out.trans (hB5.mono HB4.out.size))
      obtain ⟨ab, hab⟩ : ∃ ab, ab = p x := ⟨_, rfl⟩
      rw [← hab]
      have HAB := Lib.hid hab
      clear hB5 hab x0 x1 x2 x3 x4
      cases ab
      · go_wp2_with fail
        go_roundw
        case rel =>
          refine ⟨k + 1, by omega, by go_num, Lib.hid ⟨fun j hj h => ?_, HB5.out⟩⟩
          rcases Nat.lt_or_ge j k with h2 | h2
          · exact HR.out.1 j hj h2
          · obtain rfl : j = k := by omega
            exact (congrArg p HX.out.symm).trans HAB.out.symm
        case measure => simp [intOf]; omega
      · have HE := Lib.hid (show sb = true by
          rw [HSB.out, List.any_eq_true]
          exact ⟨_, List.getElem_mem HLT.out, (congrArg p HX.out.symm).trans HAB.out.symm⟩)
        go_wp2_with fail
        go_ret
        exact ⟨ret_b HE.out.symm, HB5.out⟩
    · obtain rfl : k = l.length := by omega
      have HE := Lib.hid (show sb = false by
        rw [HSB.out, List.any_eq_false]
        intro x hx
        obtain ⟨j, hj, rfl⟩ := List.getElem_of_mem hx
        rw [HR.out.1 j hj hj]
        simp)
      clear hlt
      go_wp2_with fail
      go_ret
      exact ⟨ret_b HE.out.symm, HR.out.2⟩
theorem keep_snoc {p : Rec → Bool} {l : List Rec} {k : Nat} (hk : k < l.length) : (l.take (k + 1)).filter (fun x => !p x) = (l.take k).filter (fun x => !p x) ++ if p l[k] = true then [] else [l[k]] := by
  rw [List.take_succ_eq_append_getElem hk, List.filter_append]
  congr 1
  by_cases h : p l[k] = true
  · rw [if_pos h, List.filter_cons_of_neg (by simp [h]), List.filter_nil]
  · rw [if_neg h, List.filter_cons_of_pos (by simp [h]), List.filter_nil]
theorem recs_not_stock {w : World} {base st n : Nat} {apex : ByteArray} {v u : Value} {xs : List Value} (h : w.ownsRow base 51 5 v n xs) (hs : w.heap[st]? = some (.cells #[.string apex, u] 80 (0, 0))) : v.ownBlock ≠ some st := fun e => by
  obtain ⟨c', fz, hc⟩ := Lib.ownsRow_kind h st e
  rw [hs] at hc
  simp at hc
set_option maxRecDepth 100000 in
set_option maxHeartbeats 2000000 in
theorem drop_any_ (g : FuncId) (lb : Array Value) (heg : ∀ args w, (callFunc g args).run Tryz.prog w = .ok (.enter g args) w) (p : Rec → Bool) (base st : Nat) (apex : ByteArray) (l : List Rec) (hl : l.length ≤ 1000000000) (w : World) (hs : StockAt w base st apex l)
    (hcall : ∀ r, r ∈ l → ∀ X, Below w.heap.size w X → Calls Tryz.prog g (#[recV r] ++ lb) X fun e X' => e = .returned (.bool (p r)) ∧ Below X.heap.size X X') :
    Calls Tryz.prog 89 #[.pointer (some ⟨st, 0, none⟩), .func (.func g) #[] lb] w fun e w' => e = .returned (.tuple #[]) ∧ (∃ v, w'.heap[st]? = some (.cells #[.string apex, v] 80 (0, 0)) ∧ w'.ownsRow w.heap.size 51 5 v (l.filter fun x => !p x).length (recsC (l.filter fun x => !p x))) ∧ w.grownBy w' (some st) := by
  obtain ⟨v, hst, hbs, hown⟩ := hs
  obtain ⟨va, vc, rfl, -⟩ := ownsRow_len hown
  have c1 : w.cell? ⟨st, 1, none⟩ = some (.slice va l.length vc) := by rw [heap_cell hst]; rfl
  have HV := Lib.hid (owns_recs hown)
  have HCALL := Lib.hid hcall; have HST := Lib.hid hst; 
  clear hst hbs hown hcall
  obtain ⟨i0_r, hi_r, hz_r, hz1_r, hz2_r⟩ := info_parts info_rec
  have HI_r := Lib.hid hi_r; have HZ_r := Lib.hid hz_r; have HZ1_r := Lib.hid hz1_r; have HZ2_r := Lib.hid hz2_r
  clear hi_r hz_r hz1_r hz2_r
  go_enter Tryz.func89, Tryz.ntmps89
  go_wp2_with fail
  clear c1
  go_loopw [12, 4] (fun kv ov wr => ∃ k : Nat, k ≤ l.length ∧ kv = .int .i64 (k : Int) ∧ Hid (wr.ownsRow w.heap.size 51 5 ov ((l.take k).filter fun x => !p x).length (recsC ((l.take k).filter fun x => !p x)) ∧ Below w.heap.size w wr)) (fun kv _ _ => l.length - (intOf kv).toNat)
  case atStart => exact ⟨0, Nat.zero_le _, rfl, Lib.hid ⟨World.ownsRow_nil _ _ _ _, Below.refl _ _⟩⟩
  case round =>
    obtain ⟨k, hk, rfl, HR⟩ := hrel
    obtain ⟨w3, hw3⟩ : ∃ X : World, X = wr := ⟨_, rfl⟩
    subst hw3
    obtain ⟨K, hK⟩ : ∃ K, K = (l.take k).filter fun x => !p x := ⟨_, rfl⟩
    have HROW := Lib.hid HR.out.1
    have hKl : K.length ≤ l.length := by rw [hK]; exact Nat.le_trans (List.length_filter_le _ _) (by rw [List.length_take]; omega)
    rw [← hK] at HROW
    have HK := Lib.hid hK
    clear hK
    obtain ⟨oa, oc, hov, -⟩ := ownsRow_len HROW.out
    subst hov
    by_cases hlt : k < l.length
    · have hki : (k : Int) < (l.length : Int) := by omega
      obtain ⟨_, _, hv, _, hr0⟩ := HV.out.below HR.out.2
      simp only [Value.slice.injEq, true_and] at hv
      obtain ⟨rfl, rfl⟩ := hv
      obtain ⟨bb, off, rfl, hbl, c0, c1, c2, c3, c4⟩ := hr0 k hlt
      obtain ⟨x, hx⟩ : ∃ x, x = l[k] := ⟨_, rfl⟩
      rw [← hx] at c0 c1 c2 c3 c4
      obtain ⟨wa, hwa⟩ : ∃ W, W = w3.alloc (.cells (recC x).toArray 51) := ⟨_, rfl⟩
      obtain ⟨hBa, hsa, hxa⟩ := rec_new w3 wa x hwa
      obtain ⟨bx, hbx⟩ : ∃ b, b = w3.heap.size := ⟨_, rfl⟩
      rw [← hbx] at hxa
      have hbxl : bx < wa.heap.size := by omega
      obtain ⟨x0, x1, x2, x3, x4⟩ := id hxa
      have HWA := Lib.hid hwa; have HX := Lib.hid hx; have HLT := Lib.hid hlt; have HXA := Lib.hid hxa; have HBXL := Lib.hid hbxl; have HBX := Lib.hid hbx
      have HB4 := Lib.hid (HR.out.2.trans (hBa.mono HR.out.2.size))
      have HROWa := Lib.hid (ownsRow_below HROW.out hBa)
      have HC := Lib.hid (HCALL.out x (by rw [hx]; exact List.getElem_mem _) wa HB4.out)
      have HSN := Lib.hid (show (l.take (k + 1)).filter (fun x => !p x) = K ++ if p x = true then [] else [x] by rw [keep_snoc hlt, HK.out, ← hx])
      clear hwa hx hBa hsa hr0 hbl hxa hbxl hbx
      go_upto_region 4 with fail
      rw [← HWA.out, ← HBX.out]
      clear c0 c1 c2 c3 c4
      go_wp2_with fail
      refine HC.out.mono ?_
      rintro e w5 ⟨rfl, hB5⟩
      obtain ⟨y0, y1, y2, y3, y4⟩ := HXA.out.keep (hB5.block bx HBXL.out)
      have HROWb := Lib.hid (ownsRow_below HROWa.out hB5)
      have HB5 := Lib.hid (HB4.out.trans (hB5.mono HB4.out.size))
      obtain ⟨ab, hab⟩ : ∃ ab, ab = p x := ⟨_, rfl⟩
      rw [← hab]
      have HAB := Lib.hid hab
      clear hB5 hab x0 x1 x2 x3 x4
      cases ab
      · have HE := Lib.hid (show (l.take (k + 1)).filter (fun x => !p x) = K ++ [x] by rw [HSN.out, ← HAB.out]; rfl)
        have HB_a := Lib.hid (HB5.out.alloc HB5.out.size (.cells (recC x).toArray 51))
        have HO_a := Lib.hid (ownsRow_keepOne HROWb.out fun b hb => Below.heap_alloc w5 (.cells (recC x).toArray 51) b (HROWb.out.lt b hb).2)
        have P1_a := Lib.hid (show K.length + 1 ≤ maxLen from by unfold maxLen; omega)
        have P2_a := Lib.hid (show (K.length + 1) * 56 ≤ 140737488355328 from by omega)
        have P3_a := Lib.hid (show w.heap.size ≤ (w5.alloc (.cells (recC x).toArray 51)).heap.size from by have := HB5.out.size; simp; omega)
        have HNEWS_ := Lib.hid (news_at w5 (recC x) 51)
        go_wp2_with (at_builtin; refine wpList_append_new _ rfl _ _ 22 rfl w.heap.size 51 i0_r (.agg #[.string ⟨#[]⟩, .int .i64 0, .int .i64 0, .int .i64 0, .string ⟨#[]⟩]) 5 56 Tryz.underlying22 HI_r.out HZ_r.out HZ1_r.out HZ2_r.out rfl (by decide) _ _ _ rfl HO_a.out ⟨w5.heap.size, 0, none⟩ 1 1 (recC x) rfl rfl HNEWS_.out (by simp [Value.oneCell']) P1_a.out P2_a.out P3_a.out ?_)
        intro v' w10 hown10 hg10 hnn10
        have HB10 := Lib.hid (HB_a.out.grown hg10 P3_a.out (fun j hj => (HO_a.out.lt j hj).1))
        have HOWN10 := Lib.hid hown10; have HG10 := Lib.hid hg10; have HNN10 := Lib.hid hnn10
        clear hown10 hg10 hnn10 HB_a HO_a P1_a P2_a P3_a HNEWS_
        clear y0 y1 y2 y3 y4
        go_wp2_with fail
        go_roundw
        case rel =>
          refine ⟨k + 1, by omega, by go_num, Lib.hid ⟨?_, HB10.out⟩⟩
          rw [HE.out, List.length_append, List.length_singleton, recsC_app]
          exact HOWN10.out
        case measure => simp [intOf]; omega
      · have HE := Lib.hid (show (l.take (k + 1)).filter (fun x => !p x) = K by rw [HSN.out, ← HAB.out]; simp)
        go_wp2_with fail
        go_roundw
        case rel => exact ⟨k + 1, by omega, by go_num, Lib.hid ⟨by rw [HE.out]; exact HROWb.out, HB5.out⟩⟩
        case measure => simp [intOf]; omega
    · obtain rfl : k = l.length := by omega
      have HE := Lib.hid (show K = l.filter (fun x => !p x) by rw [HK.out, List.take_length])
      have hh := (HR.out.2.block st (heap_lt HST.out)).trans HST.out
      have d1 : w3.cell? ⟨st, 1, none⟩ = some (.slice va l.length vc) := by rw [heap_cell hh]; rfl
      have d2 : w3.frozen? ⟨st, 1, none⟩ = false := heap_frozen hh 1
      have HH := Lib.hid hh
      have HNS := Lib.hid (recs_not_stock HROW.out hh)
      clear hlt hh
      go_wp2_with fail
      go_end0
      refine ⟨rfl, ⟨.slice oa K.length oc, (heap_set_at HH.out 1 _).trans rfl, ?_⟩, ?_⟩
      · rw [← HE.out]
        exact ownsRow_keepOne HROW.out fun b hb => Below.heap_setCell _ _ _ _ (by simp only; intro e; exact HNS.out (by rw [hb, e]))
      · have h2 := HR.out.2
        exact ⟨h2.os, h2.tape, h2.output, by simpa [World.setCell] using h2.size, fun k hk hne => (Below.heap_setCell _ _ _ _ (by simp only; intro e; exact hne (by rw [e]))).trans (h2.block k hk)⟩
end Go.Proofs.YtdjjemajfphjaaaGreat

import Derived.Test.YtdjjemajfphjaaaGreatQZoneM
namespace Go.Proofs.YtdjjemajfphjaaaGreat
open Go.RowKit Go.Shelf Go.WideMaps Go.Proofs.YtdjjemajfphjaaaGreat.nm Go.Proofs.YtdjjemajfphjaaaGreat.od
theorem newE_many {apex : ByteArray} {l : List Rec} (h1 : checkB apex = true) (h2 : 2000 < l.length) : zn.newE apex l = some (-1, 20) := by
  unfold zn.newE; rw [if_neg (by rw [h1]; simp), if_pos h2]
theorem newE_plain {apex : ByteArray} {l : List Rec} {e : Int × Int} (h1 : checkB apex = true) (h2 : ¬ 2000 < l.length) (h3 : zn.plainR apex l = some e) : zn.newE apex l = some e := by
  unfold zn.newE; rw [if_neg (by rw [h1]; simp), if_neg h2, h3]
theorem newE_rules {apex : ByteArray} {l : List Rec} (h1 : checkB apex = true) (h2 : ¬ 2000 < l.length) (h3 : zn.plainR apex l = none) : zn.newE apex l = zn.rulesR apex l := by
  unfold zn.newE; rw [if_neg (by rw [h1]; simp), if_neg h2, h3]
theorem NewPost.bad {apex : ByteArray} {l : List Rec} {w w' : World} {k c : Int} (h : zn.newE apex l = some (k, c)) (hB : Below w.heap.size w w') : NewPost apex l w (.returned (.tuple #[.pointer none, .int .i64 k, .int .i64 c])) w' := by
  unfold NewPost
  rw [h]
  exact ⟨hB, rfl⟩
theorem plain_all {apex : ByteArray} {l : List Rec} (h : zn.plainR apex l = none) : ∀ r ∈ l, checkB r.owner = true ∧ zn.bad1 r = false ∧ withinB r.owner apex = true := by
  unfold zn.plainR at h
  split at h
  · cases h
  · rename_i h1
    split at h
    · cases h
    · rename_i h2
      intro r hr
      obtain ⟨k, hk, rfl⟩ := List.getElem_of_mem hr
      have a1 := zn.firstB_no h1 k hk
      have a2 := zn.firstB_no h2 k hk
      rw [zn.atB_get hk] at a1 a2
      refine ⟨?_, a1, by simpa using a2⟩
      unfold zn.bad1 at a1
      simp only [Bool.not_eq_false', Bool.and_eq_true] at a1
      exact a1.1.1.1.1
theorem rules_pos {apex : ByteArray} {l : List Rec} (h : zn.rulesR apex l = none) : 0 < l.length := by
  cases l with
  | nil => exact absurd h (by unfold zn.rulesR; simp [zn.firstB, zn.soaC])
  | cons r l => simp
theorem ownsRow_not_zone {w : World} {base n size z : Nat} {v : Value} {xs : List Value} (h : w.ownsRow base 51 size v n xs) (hb : v.ownBlock = some z) {apex : ByteArray} {rv sv tv : Value} : ¬ ZoneAt w z apex rv sv tv := fun hz => by
  obtain ⟨c, fz, hc⟩ := Lib.ownsRow_kind h z hb
  unfold ZoneAt at hz
  rw [hc] at hz
  simp at hz
theorem SetsV.grownIter {w w' : World} {base sb rr : Nat} {dom : List Key} {F : Key → List Rec} (h : SetsV w base sb dom F) (hg : w.grownBy w' (some rr)) (hr : ∃ a b c d, w.heap[rr]? = some (.mapIter a b c d)) : SetsV w' base sb dom F := by
  obtain ⟨a, b, c, d, hr⟩ := hr
  obtain ⟨val, h1, h2, h3⟩ := h
  refine ⟨val, h1.keep fun o ho => ?_, fun κ hκ => (h2 κ hκ).kept hg (.inr fun e => ?_), h3⟩
  · obtain ⟨es, cl, hm⟩ := h1.mapObj
    exact (hg.block sb (heap_lt ho) (by simpa using heap_ne hm hr (by simp))).trans ho
  · obtain ⟨c', fz, hc⟩ := Lib.ownsRow_kind (h2 κ hκ) rr e
    rw [hr] at hc
    cases hc
def LoopN (w8 wr : World) (base sb tb rr : Nat) (l L : List Rec) (val : Key → Value) (c : Nat) : Prop :=
  ∃ done : List Key, RangeF keyV KeyOk wr sb rr (zn.domS l) val done ∧ SetsV wr base sb (zn.domS l) (fun κ => if κ ∈ done then zn.rowsS L κ else zn.rowsS l κ) ∧ TheresV wr tb (zn.domT c l) ∧ Below base w8 wr
set_option maxRecDepth 100000 in
set_option maxHeartbeats 4000000 in
theorem new_any (apex : ByteArray) (l : List Rec) (hok : ∀ r ∈ l, (Lit.int .i64 r.typ).wf = true) (rv : Value) (hf : SliceForm rv) (w : World) (hrv : RecsAt w rv l) :
    Calls Tryz.prog 17 #[.string apex, rv] w fun e w' => NewPost apex l w e w' := by
  cases hap : checkB apex
  · refine (new_name apex hap rv w).mono ?_
    rintro e w' ⟨rfl, hB⟩
    exact NewPost.bad (by unfold zn.newE; rw [if_pos hap]) hB
  · obtain ⟨w1, hw1⟩ : ∃ X, X = ((w.alloc (.cells #[.pointer none] 26)).alloc (.cells #[.int .i64 0] 3)).alloc (.cells #[.int .i64 0] 47) := ⟨_, rfl⟩
    obtain ⟨h4, h5, h6, hB1⟩ := new_cells w w1 hw1
    have hs1 : w1.heap.size = w.heap.size + 3 := by rw [hw1]; simp
    obtain ⟨a, cap, rfl, hcap, hrr⟩ := hrv
    have hrv : RecsAt w (.slice a l.length cap) l := ⟨a, cap, rfl, hcap, hrr⟩
    have HAP := Lib.hid hap; have HW1 := Lib.hid hw1; have H4 := Lib.hid h4; have H5 := Lib.hid h5; have H6 := Lib.hid h6; have HB1 := Lib.hid hB1; have HRV := Lib.hid hrv; have HF := Lib.hid hf; have HOK := Lib.hid hok
    clear hap hw1 h4 h5 h6 hB1 hrr hrv hf hok
    have hmf := makeFunc_run
    by_cases hmany : 2000 < l.length
    · have hb : decide ((2000 : Int) < (l.length : Int)) = true := decide_eq_true (by omega)
      have HM := Lib.hid hmany
      clear hmany
      go_enter_defers Tryz.func17, Tryz.ntmps17
      go_wp2_with fail
      rw [← HW1.out]
      refine (check_any _ _).mono ?_
      rintro e w2 ⟨rfl, hB2⟩
      rw [HAP.out, okV_t]
      have HB2 := Lib.hid hB2
      clear hB2
      go_wp2_with fail
      exact new_door _ w.heap.size _ (-1) 20 (.pointer none) (.int .i64 0) (.int .i64 0) w2 ((HB2.out.block _ (heap_lt H4.out)).trans H4.out) ((HB2.out.block _ (heap_lt H5.out)).trans H5.out) ((HB2.out.block _ (heap_lt H6.out)).trans H6.out) rfl rfl rfl
        (fun w' h => NewPost.bad (newE_many HAP.out HM.out) ((HB1.out.trans (HB2.out.mono HB1.out.size)).trans h))
    · have hb : decide ((2000 : Int) < (l.length : Int)) = false := decide_eq_false (by omega)
      have HM := Lib.hid hmany
      have hl : l.length ≤ 2000 := by omega
      clear hmany
      go_enter_defers Tryz.func17, Tryz.ntmps17
      go_wp2_with fail
      rw [← HW1.out]
      refine (check_any _ _).mono ?_
      rintro e w2 ⟨rfl, hB2⟩
      rw [HAP.out, okV_t]
      have hs2 : w1.heap.size ≤ w2.heap.size := hB2.size
      have hBw2 := HB1.out.trans (hB2.mono (by omega))
      have h4 := (hB2.block _ (heap_lt H4.out)).trans H4.out
      have h5 := (hB2.block _ (heap_lt H5.out)).trans H5.out
      have h6 := (hB2.block _ (heap_lt H6.out)).trans H6.out
      have HB2 := Lib.hid hB2; have HBW2 := Lib.hid hBw2; have G4 := Lib.hid h4; have G5 := Lib.hid h5; have G6 := Lib.hid h6
      clear hB2 hBw2 h4 h5 h6
      go_wp2_with fail
      refine (cloneRecs_any l (by omega) _ HF.out _ (HRV.out.below HBW2.out)).mono ?_
      rintro e w3 ⟨v3, rfl, hB3, hown3⟩
      obtain ⟨a3, cap3, rfl, hcap3⟩ := ownsRow_len hown3
      have hs3 : w2.heap.size ≤ w3.heap.size := hB3.size
      have hBw3 := HBW2.out.trans (hB3.mono (by omega))
      have h4 := (hB3.block _ (heap_lt G4.out)).trans G4.out
      have h5 := (hB3.block _ (heap_lt G5.out)).trans G5.out
      have h6 := (hB3.block _ (heap_lt G6.out)).trans G6.out
      obtain ⟨oz, hoz⟩ : ∃ o, o = Obj.cells #[.string apex, .slice a3 l.length cap3, .map none, .map none] 94 := ⟨_, rfl⟩
      have c4 := fun o => (heap_cell (heap_alloc_keep h4 o) 0).trans (rfl : (#[Value.pointer none])[0]? = some (.pointer none))
      have f4 := fun o => heap_frozen (heap_alloc_keep h4 o) 0
      obtain ⟨wz, hwz⟩ : ∃ X, X = (w3.alloc oz).setCell ⟨w.heap.size, 0, none⟩ (.pointer (some ⟨w3.heap.size, 0, none⟩)) := ⟨_, rfl⟩
      have hsz : wz.heap.size = w3.heap.size + 1 := by rw [hwz]; simp [World.setCell]
      have g4 : wz.heap[w.heap.size]? = some (.cells #[.pointer (some ⟨w3.heap.size, 0, none⟩)] 26 (0, 0)) := by rw [hwz]; exact heap_set_at (heap_alloc_keep h4 oz) 0 _
      have g5 : wz.heap[w.heap.size + 1]? = some (.cells #[.int .i64 0] 3 (0, 0)) := by rw [hwz]; exact heap_set_keep (heap_alloc_keep h5 oz) (by simp) _
      have g6 : wz.heap[w.heap.size + 2]? = some (.cells #[.int .i64 0] 47 (0, 0)) := by rw [hwz]; exact heap_set_keep (heap_alloc_keep h6 oz) (by simp) _
      have hzz : ZoneAt wz w3.heap.size apex (.slice a3 l.length cap3) (.map none) (.map none) := by
        rw [hwz]
        have := heap_set_keep (heap_new_at (w := w3) (o := oz) rfl) (a := ⟨w.heap.size, 0, none⟩) (by simp; omega) (.pointer (some ⟨w3.heap.size, 0, none⟩))
        rw [hoz] at this
        rw [hoz]
        exact this
      have hBz : Below w.heap.size w wz := by rw [hwz]; exact (hBw3.alloc (by omega) oz).setCell (Nat.le_refl _) _
      have hownz : wz.ownsRow w2.heap.size 51 5 (.slice a3 l.length cap3) l.length (recsC l) := by
        rw [hwz]
        refine ownsRow_keepOne hown3 fun b hb => ?_
        have h1 := hown3.lt b hb
        have : b ≠ w.heap.size := by omega
        rw [Below.heap_setCell _ _ _ _ this, Below.heap_alloc _ _ _ h1.2]
      rw [hoz] at hwz
      have hrecz := owns_recs hownz
      have czz : wz.cell? ⟨w.heap.size, 0, none⟩ = some (.pointer (some ⟨w3.heap.size, 0, none⟩)) := by rw [heap_cell g4]; rfl
      have HWZ := Lib.hid hwz; have HG4 := Lib.hid g4; have HG5 := Lib.hid g5; have HG6 := Lib.hid g6; have HZZ := Lib.hid hzz; have HBZ := Lib.hid hBz; have HOWNZ := Lib.hid hownz; have HRECZ := Lib.hid hrecz; have HCZZ := Lib.hid czz
      clear hB3 hown3 hBw3 h4 h5 h6 hoz hwz g4 g5 g6 hzz hBz hownz hrecz czz
      go_wp2_with fail
      rw [← HWZ.out]
      clear c4 f4
      refine (plain_any apex l hl w3.heap.size _ _ _ wz HZZ.out HRECZ.out).mono ?_
      intro e w4 hp
      obtain ⟨ht, hB4⟩ := hp
      have hs4 : wz.heap.size ≤ w4.heap.size := hB4.size
      have c4 := (hB4.cell (p := ⟨w.heap.size, 0, none⟩) (by show w.heap.size < _; omega)).trans HCZZ.out
      have g4 := (hB4.block _ (heap_lt HG4.out)).trans HG4.out
      have g5 := (hB4.block _ (heap_lt HG5.out)).trans HG5.out
      have g6 := (hB4.block _ (heap_lt HG6.out)).trans HG6.out
      have HK4 := Lib.hid g4; have HK5 := Lib.hid g5; have HK6 := Lib.hid g6; have HB4 := Lib.hid hB4
      clear g4 g5 g6 hB4
      rcases hpl : zn.plainR apex l with _ | ⟨k, c⟩
      · rw [hpl] at ht
        obtain rfl : e = _ := ht
        have HPL := Lib.hid hpl
        clear hpl
        have hpn := plain_all HPL.out
        go_wp2_with fail
        have hz4 := (HB4.out.block _ (heap_lt HZZ.out)).trans HZZ.out
        have hown4 := ownsRow_keepOne HOWNZ.out fun b hb => HB4.out.block b (HOWNZ.out.lt b hb).2
        have hz3 : ∀ b, (Value.slice a3 l.length cap3).ownBlock = some b → b ≠ w3.heap.size := fun b hb e => by
          subst e
          exact ownsRow_not_zone hown4 hb hz4
        refine (gather_any apex HAP.out l hl (fun r hr => ⟨(hpn r hr).1, HOK.out r hr⟩) w3.heap.size _ _ _ w4 hz4 (fun W hg => owns_recs (ownsRow_keepOne hown4 fun b hb => hg.block b (hown4.lt b hb).2 (by simpa using hz3 b hb)))).mono ?_
        rintro e w5 ⟨rfl, hg5, sb, tb, hsb, htb, hst, hz5, hS5, hT5⟩
        have hzl : w3.heap.size < w4.heap.size := heap_lt hz4
        have hBw5 : Below w.heap.size w w5 := (HBZ.out.trans (HB4.out.mono (by omega))).grown hg5 (by omega) (fun j e => by cases e; omega)
        have hown5 := ownsRow_keepOne hown4 fun b hb => hg5.block b (hown4.lt b hb).2 (by simpa using hz3 b hb)
        have hs5 : w4.heap.size ≤ w5.heap.size := hg5.size
        have k4 := (hg5.block w.heap.size (by omega) (by simp; omega)).trans HK4.out
        have k5 := (hg5.block (w.heap.size + 1) (by omega) (by simp; omega)).trans HK5.out
        have k6 := (hg5.block (w.heap.size + 2) (by omega) (by simp; omega)).trans HK6.out
        have c5 : w5.cell? ⟨w.heap.size, 0, none⟩ = some (.pointer (some ⟨w3.heap.size, 0, none⟩)) := by rw [heap_cell k4]; rfl
        have HOWN5 := Lib.hid hown5; have HZ5 := Lib.hid hz5; have HS5 := Lib.hid hS5; have HT5 := Lib.hid hT5; have HBW5 := Lib.hid hBw5; have HL4 := Lib.hid k4; have HL5 := Lib.hid k5; have HL6 := Lib.hid k6; have HPN := Lib.hid hpn
        clear hpn hz4 hown4 hz3 hg5 hz5 hS5 hT5 hBw5 hown5 k4 k5 k6 c4
        go_wp2_with fail
        refine (rules_any apex l hl (fun r hr => ⟨(HPN.out r hr).1, HOK.out r hr⟩) w3.heap.size sb w4.heap.size _ _ w5 HZ5.out (owns_recs HOWN5.out) HS5.out).mono ?_
        intro e w6 hp
        obtain ⟨ht, hB6⟩ := hp
        have hs6 : w5.heap.size ≤ w6.heap.size := hB6.size
        have hBw6 := HBW5.out.trans (hB6.mono (by omega))
        have k4 := (hB6.block _ (heap_lt HL4.out)).trans HL4.out
        have k5 := (hB6.block _ (heap_lt HL5.out)).trans HL5.out
        have k6 := (hB6.block _ (heap_lt HL6.out)).trans HL6.out
        have hz6 := (hB6.block _ (heap_lt HZ5.out)).trans HZ5.out
        have hown6 := ownsRow_keepOne HOWN5.out fun b hb => hB6.block b (HOWN5.out.lt b hb).2
        have hS6 := HS5.out.below hB6
        have hT6 := HT5.out.below hB6
        have c6 : w6.cell? ⟨w.heap.size, 0, none⟩ = some (.pointer (some ⟨w3.heap.size, 0, none⟩)) := by rw [heap_cell k4]; rfl
        have z6 : w6.cell? ⟨w3.heap.size, 1, none⟩ = some (.slice a3 l.length cap3) := by rw [heap_cell hz6]; rfl
        have HM4 := Lib.hid k4; have HM5 := Lib.hid k5; have HM6 := Lib.hid k6; have HBW6 := Lib.hid hBw6; have HZ6 := Lib.hid hz6; have HOWN6 := Lib.hid hown6; have HS6 := Lib.hid hS6; have HT6 := Lib.hid hT6
        clear k4 k5 k6 hBw6 hz6 hown6 hS6 hT6 hB6 c5
        rcases hru : zn.rulesR apex l with _ | ⟨k, c⟩
        · rw [hru] at ht
          obtain rfl : e = _ := ht
          have HRU := Lib.hid hru
          clear hru
          have hpos := rules_pos HRU.out
          obtain ⟨g3, cap4, hv, hg30, hg31⟩ := HOWN6.out.form hpos
          simp only [Value.slice.injEq, true_and] at hv
          obtain ⟨rfl, rfl⟩ := hv
          have HRB := Lib.hid hg30
          go_wp2_with fail
          refine (sortRecs_any l hl (fun r hr => (HPN.out r hr).1) _ g3 cap3 w6 HOWN6.out).mono ?_
          rintro e w7 ⟨rfl, hg7, L, hL, hown7⟩
          have hn : zn.Named l := fun r hr => (HPN.out r hr).1
          have hu : zn.Uniq l := zn.uniq_of (zn.distinct_of (zn.rules_twice HRU.out))
          have hLl : L.length = l.length := hL.1.length_eq
          have hs7 : w6.heap.size ≤ w7.heap.size := hg7.size
          have hg3 : w2.heap.size ≤ g3 ∧ g3 < w3.heap.size + 1 := by
            have h1 := HOWNZ.out.lt g3 rfl
            omega
          have hBw7 := HBW6.out.grown hg7 (by omega) (fun j e => by cases e; omega)
          have hne3 : g3 ≠ w3.heap.size := fun e => by subst e; exact ownsRow_not_zone HOWN6.out rfl HZ6.out
          have hz7 := (hg7.block _ (heap_lt HZ6.out) (by simpa using Ne.symm hne3)).trans HZ6.out
          have k4 := (hg7.block w.heap.size (by omega) (by simp; omega)).trans HM4.out
          have k5 := (hg7.block (w.heap.size + 1) (by omega) (by simp; omega)).trans HM5.out
          have k6 := (hg7.block (w.heap.size + 2) (by omega) (by simp; omega)).trans HM6.out
          have hS7 : SetsV w7 w4.heap.size sb (zn.domS l) (zn.rowsS l) := HS6.out.keep fun b hb hlt => hg7.block b hlt (by simp; omega)
          have hT7 : TheresV w7 tb (zn.domT (countI apex).toNat l) := HT6.out.grown hg7 (by simp; omega)
          obtain ⟨val7, hM7, hR7, hD7⟩ := hS7
          have hS7 : SetsV w7 w4.heap.size sb (zn.domS l) (zn.rowsS l) := ⟨val7, hM7, hR7, hD7⟩
          obtain ⟨w8, hrun8, hRF8, hB8, hs8⟩ := mapF_range Tryz.underlying91 hM7
          have c7 : w7.cell? ⟨w.heap.size, 0, none⟩ = some (.pointer (some ⟨w3.heap.size, 0, none⟩)) := by rw [heap_cell k4]; rfl
          have z7 : w7.cell? ⟨w3.heap.size, 2, none⟩ = some (.map (some sb)) := by rw [heap_cell hz7]; rfl
          have HBW7 := Lib.hid hBw7; have HZ7 := Lib.hid hz7; have HN4 := Lib.hid k4; have HN5 := Lib.hid k5; have HN6 := Lib.hid k6; have HS7 := Lib.hid hS7; have HT7 := Lib.hid hT7; have HRF8 := Lib.hid hRF8; have HB8 := Lib.hid hB8
          have HOWN7 := Lib.hid hown7; have HL := Lib.hid hL; have HNN := Lib.hid hn; have HUU := Lib.hid hu; have HLL := Lib.hid hLl; have HS8 := Lib.hid hs8
          have hs8' : w7.heap.size < w8.heap.size := by omega
          clear hg7 hBw7 hz7 k4 k5 k6 hS7 hT7 hM7 hR7 hD7 hRF8 hB8 hown7 hL hn hu hLl hs8 c6 z6
          go_wp2_with fail
          clear hrun8 c7 z7
          go_loopw [] (fun wr => LoopN w8 wr w4.heap.size sb tb w7.heap.size l L val7 (countI apex).toNat) (fun wr => wr.rangeLeft sb w7.heap.size)
          case atStart =>
            exact ⟨[], HRF8.out, (HS7.out.below HB8.out).congr (fun κ _ => by simp), HT7.out.below HB8.out, Below.refl _ _⟩
          case round =>
            obtain ⟨done, hRF, hS, hT, hB⟩ := hrel
            have hsr : w8.heap.size ≤ wr.heap.size := hB.size
            have hB7r : Below w4.heap.size w7 wr := (HB8.out.mono (by omega)).trans hB
            have hzr := (hB7r.block _ hzl).trans HZ7.out
            have k4 := (hB7r.block w.heap.size (by omega)).trans HN4.out
            have k5 := (hB7r.block (w.heap.size + 1) (by omega)).trans HN5.out
            have k6 := (hB7r.block (w.heap.size + 2) (by omega)).trans HN6.out
            have hBwr : Below w.heap.size w wr := HBW7.out.trans (hB7r.mono (by omega))
            rcases hRF.next (P := Tryz.prog) 0 with ⟨hall, hrun⟩ | ⟨κ, w9, hd, hnd, hrun, hRF9, hg9, hs9, hdec, hent⟩
            · have c4 : wr.cell? ⟨w.heap.size, 0, none⟩ = some (.pointer (some ⟨w3.heap.size, 0, none⟩)) := by rw [heap_cell k4]; rfl
              have c5 : wr.cell? ⟨w.heap.size + 1, 0, none⟩ = some (.int .i64 0) := by rw [heap_cell k5]; rfl
              have c6 : wr.cell? ⟨w.heap.size + 2, 0, none⟩ = some (.int .i64 0) := by rw [heap_cell k6]; rfl
              have f4 : wr.frozen? ⟨w.heap.size, 0, none⟩ = false := heap_frozen k4 0
              have f5 : wr.frozen? ⟨w.heap.size + 1, 0, none⟩ = false := heap_frozen k5 0
              have f6 : wr.frozen? ⟨w.heap.size + 2, 0, none⟩ = false := heap_frozen k6 0
              have HALL := Lib.hid hall; have HS := Lib.hid hS; have HT := Lib.hid hT; have HZR := Lib.hid hzr; have HBWR := Lib.hid hBwr; have K4 := Lib.hid k4; have K5 := Lib.hid k5; have K6 := Lib.hid k6; have HB7R := Lib.hid hB7r
              clear hRF hall hS hT hzr hBwr k4 k5 k6 hB7r hB
              go_wp2_with fail
              obtain ⟨We, hWe⟩ : ∃ X, X = ((wr.setCell ⟨w.heap.size, 0, none⟩ (.pointer (some ⟨w3.heap.size, 0, none⟩))).setCell ⟨w.heap.size + 1, 0, none⟩ (.int .i64 0)).setCell ⟨w.heap.size + 2, 0, none⟩ (.int .i64 0) := ⟨_, rfl⟩
              have d4 : We.heap[w.heap.size]? = some (.cells #[.pointer (some ⟨w3.heap.size, 0, none⟩)] 26 (0, 0)) := by
                rw [hWe]
                exact heap_set_keep (heap_set_keep (heap_set_at K4.out 0 _) (by simp) _) (by simp) _
              have d5 : We.heap[w.heap.size + 1]? = some (.cells #[.int .i64 0] 3 (0, 0)) := by
                rw [hWe]
                exact heap_set_keep (heap_set_at (heap_set_keep K5.out (by simp) _) 0 _) (by simp) _
              have d6 : We.heap[w.heap.size + 2]? = some (.cells #[.int .i64 0] 47 (0, 0)) := by
                rw [hWe]
                exact heap_set_at (heap_set_keep (heap_set_keep K6.out (by simp) _) (by simp) _) 0 _
              have hfar : ∀ b, b ≠ w.heap.size → b ≠ w.heap.size + 1 → b ≠ w.heap.size + 2 → We.heap[b]? = wr.heap[b]? := fun b n1 n2 n3 => by
                rw [hWe, Below.heap_setCell _ _ _ _ n3, Below.heap_setCell _ _ _ _ n2, Below.heap_setCell _ _ _ _ n1]
              have hBe : Below w.heap.size w We := by
                rw [hWe]
                exact ((HBWR.out.setCell (Nat.le_refl _) _).setCell (Nat.le_succ _) _).setCell (by simp only; omega) _
              have hsb' := hsb; have htb' := htb
              have hzone : ZoneIn We w3.heap.size apex L := by
                refine ⟨w4.heap.size, g3, cap3, sb, tb, l, HL.out.1.symm, ?_, ?_, ?_, ?_⟩
                · rw [HLL.out]
                  exact (hfar _ (by omega) (by omega) (by omega)).trans HZR.out
                · rw [HLL.out]
                  refine ownsRow_base (ownsRow_keepOne HOWN7.out fun b hb => ?_) (Nat.zero_le _)
                  obtain rfl : g3 = b := by simpa [Value.ownBlock] using hb
                  exact (hfar _ (by omega) (by omega) (by omega)).trans (HB7R.out.block _ (by omega))
                · refine (HS.out.congr fun κ hκ => by rw [if_pos (HALL.out κ hκ)]).keep fun b hb _ => hfar b (by omega) (by omega) (by omega)
                · exact HT.out.keep fun _ => hfar tb (by omega) (by omega) (by omega)
              have hpost : NewPost apex l w (.returned (.tuple #[.pointer (some ⟨w3.heap.size, 0, none⟩), .int .i64 0, .int .i64 0])) We := by
                unfold NewPost
                rw [(newE_rules HAP.out HM.out HPL.out).trans HRU.out]
                exact ⟨hBe, _, L, by omega, HL.out, rfl, ZoneV.new hzone⟩
              rw [← hWe]
              exact new_out _ w.heap.size w3.heap.size _ We (by rw [heap_cell d4]; rfl) (by rw [heap_cell d5]; rfl) (by rw [heap_cell d6]; rfl) rfl rfl rfl hpost
            · have hs9' : wr.heap.size ≤ w9.heap.size := hg9.size
              have hκ : KeyOk κ := hRF.2.1 κ hd
              have hiter := hRF.iterObj
              have hrl := hRF.lt
              have hS9 := hS.grownIter hg9 hiter
              have hT9 := hT.grown hg9 (by
                obtain ⟨es, c, hm⟩ := hT.mapObj
                obtain ⟨_, _, _, _, hi⟩ := hiter
                simpa using heap_ne hi hm (by simp))
              obtain ⟨ok, hok⟩ : ∃ o, o = Obj.cells #[.string κ.1, .int .i64 κ.2] 102 := ⟨_, rfl⟩
              obtain ⟨W, hW⟩ : ∃ X, X = (w9.alloc ok).drew := ⟨_, rfl⟩
              have hB9W : Below w9.heap.size w9 W := by rw [hW]; exact ((Below.refl _ w9).alloc (Nat.le_refl _) ok).drew
              have hSW := hS9.below hB9W
              have hTW := hT9.below hB9W
              have hRW := hRF9.below hB9W
              have hsW : W.heap.size = w9.heap.size + 1 := by rw [hW]; simp
              have hFκ : (if κ ∈ done then zn.rowsS L κ else zn.rowsS l κ) = zn.rowsS l κ := if_neg hnd
              obtain ⟨g, capg, hlk, hown, hbg, hgl, hgs, hupd⟩ := sets_take hSW hκ hd (by rw [hFκ]; exact zn.rowsS_some hd)
              rw [hFκ] at hlk hown hupd
              have hB8W : Below w4.heap.size w8 W := (hB.grown hg9 (by omega) (fun j e => by cases e; omega)).trans (hB9W.mono (by omega))
              have hB7W : Below w4.heap.size w7 W := (HB8.out.mono (by omega)).trans hB8W
              have hzW := (hB7W.block _ hzl).trans HZ7.out
              have k4W := (hB7W.block w.heap.size (by omega)).trans HN4.out
              have e1 : W.cell? ⟨w.heap.size, 0, none⟩ = some (.pointer (some ⟨w3.heap.size, 0, none⟩)) := by rw [heap_cell k4W]; rfl
              have e2 : W.cell? ⟨w3.heap.size, 2, none⟩ = some (.map (some sb)) := by rw [heap_cell hzW]; rfl
              have hko : W.heap[w9.heap.size]? = some (.cells #[.string κ.1, .int .i64 κ.2] 102 (0, 0)) := by rw [hW, hok]; exact heap_new_at (w := w9) rfl
              have e3 : W.cell? ⟨w9.heap.size, 0, none⟩ = some (.string κ.1) := by rw [heap_cell hko]; rfl
              have e4 : W.cell? ⟨w9.heap.size, 1, none⟩ = some (.int .i64 κ.2) := by rw [heap_cell hko]; rfl
              have hlen : (zn.rowsS l κ).length ≤ l.length := List.length_filter_le _ _
              obtain ⟨κ1, κ2⟩ := κ
              have HLK := Lib.hid hlk; have HOWN := Lib.hid hown; have HUPD := Lib.hid hupd; have HE1 := Lib.hid e1; have HE2 := Lib.hid e2; have HE3 := Lib.hid e3; have HE4 := Lib.hid e4; have HW := Lib.hid hW; have HOK2 := Lib.hid hok
              have HRF9 := Lib.hid hRF9; have HRW := Lib.hid hRW; have HTW := Lib.hid hTW; have HDEC := Lib.hid hdec; have HB8W := Lib.hid hB8W; have HB9W := Lib.hid hB9W; have HFK := Lib.hid hFκ; have HHD := Lib.hid hd; have HND := Lib.hid hnd
              clear hlk hown hupd e1 e2 e3 e4 hW hok hRF9 hRW hTW hdec hB8W hB9W hFκ hd hnd hRF hS hT hB hS9 hT9 hSW hg9 hko k4W hzW hB7W k4 k5 k6 hzr hBwr hB7r hiter
              have HS9 := Lib.hid hs9
              clear hs9
              go_wp2_with fail
              have ho2 : Obj.cells #[.string κ1, .int .i64 κ2] 102 = ok := HOK2.out.symm
              rw [ho2]
              clear ho2 hrun hent
              refine wp_region_still_tail 6 (by kernel_rfl) (by kernel_rfl) ?_
              have hws : ({ heap := (w9.alloc ok).heap, tape := (w9.alloc ok).tape, drawn := (w9.alloc ok).drawn + 1, os := (w9.alloc ok).os, output := (w9.alloc ok).output } : World) = W := HW.out.symm
              rw [hws]
              clear hws
              have e1 := HE1.out; have e2 := HE2.out; have e3 := HE3.out; have e4 := HE4.out; have hlk := HLK.out
              simp only [List.take_succ_cons, List.take_zero, List.drop_succ_cons, List.drop_zero]
              repeat still_step
              refine wpStill_nil ?_
              go_wp2_with fail
              have hin : ∀ r ∈ zn.rowsS l (κ1, κ2), r ∈ l := fun r hr => (List.mem_filter.1 hr).1
              refine (sortRecs_any (zn.rowsS l (κ1, κ2)) (by omega) (fun r hr => HNN.out r (hin r hr)) _ g capg W HOWN.out).mono ?_
              rintro e w11 ⟨rfl, hg11, L', hL', hown11⟩
              have hLe : L' = zn.rowsS L (κ1, κ2) := hL'.eq (HL.out.rows (κ1, κ2)) (fun r hr => HNN.out r (hin r hr)) (HUU.out.sub hin)
              have hS11 := HUPD.out w11 L' hL'.1.length_eq hg11 hown11
              have hgr : g ≠ w7.heap.size := fun e => by
                subst e
                obtain ⟨c', fz, hc⟩ := Lib.ownsRow_kind HOWN.out _ rfl
                obtain ⟨_, _, _, _, hi⟩ := HRW.out.iterObj
                rw [hi] at hc
                cases hc
              have hgt : g ≠ tb := fun e => by
                subst e
                obtain ⟨es, c, hm⟩ := HTW.out.mapObj
                exact ownsRow_not_map HOWN.out hm rfl
              have hRF11 := HRW.out.grown hg11 (by simpa using hgs) (by simpa using hgr)
              have hT11 := HTW.out.grown hg11 (by simpa using hgt)
              have hB11 := HB8W.out.grown hg11 (by omega) (fun j e => by cases e; exact hbg)
              have hrl : w11.rangeLeft sb w7.heap.size < wr.rangeLeft sb w7.heap.size := by
                have h1 := HRF9.out.map.lt
                have h2 := HRF9.out.lt
                have h3 : w11.rangeLeft sb w7.heap.size = w9.rangeLeft sb w7.heap.size := rangeLeft_keep ((hg11.block sb (by omega) (by simpa using Ne.symm hgs)).trans (HB9W.out.block sb h1)) ((hg11.block _ (by omega) (by simpa using Ne.symm hgr)).trans (HB9W.out.block _ h2))
                rw [h3]
                exact HDEC.out
              have HS11 := Lib.hid hS11; have HRF11 := Lib.hid hRF11; have HT11 := Lib.hid hT11; have HB11 := Lib.hid hB11; have HRL := Lib.hid hrl; have HLE := Lib.hid hLe
              clear hS11 hRF11 hT11 hB11 hrl hLe hL' hown11 hg11 hin e1 e2 e3 e4 hlk
              go_wp2_with fail
              go_roundw
              case rel =>
                refine ⟨done ++ [(κ1, κ2)], HRF11.out, HS11.out.congr fun κ' _ => ?_, HT11.out, HB11.out⟩
                by_cases he : κ' = (κ1, κ2)
                · subst he
                  simp [HLE.out]
                · simp [he]
              case measure => exact HRL.out
        · rw [hru] at ht
          obtain rfl : e = _ := ht
          have HRU := Lib.hid hru
          clear hru
          go_wp2_with fail
          exact new_door _ w.heap.size _ k c _ _ _ w6 HM4.out HM5.out HM6.out rfl rfl rfl (fun w' h => NewPost.bad ((newE_rules HAP.out HM.out HPL.out).trans HRU.out) (HBW6.out.trans h))
      · rw [hpl] at ht
        obtain rfl : e = _ := ht
        have HPL := Lib.hid hpl
        clear hpl
        go_wp2_with fail
        exact new_door _ w.heap.size _ k c _ _ _ w4 HK4.out HK5.out HK6.out rfl rfl rfl (fun w' h => NewPost.bad (newE_plain HAP.out HM.out HPL.out) ((HBZ.out.trans (HB4.out.mono (by omega))).trans h))
end Go.Proofs.YtdjjemajfphjaaaGreat
namespace Go.Proofs.YtdjjemajfphjaaaGreat
open Go.RowKit Go.Shelf Go.WideMaps Go.Proofs.YtdjjemajfphjaaaGreat.nm Go.Proofs.YtdjjemajfphjaaaGreat.od
def NewRecs (L : List Rec) (w : World) (e : Ending) (w' : World) : Prop := ∃ v, e = .returned v ∧ Below w.heap.size w w' ∧ w'.ownsRow w.heap.size 51 5 v L.length (recsC L)
set_option maxRecDepth 100000 in
theorem apex_any (z : Nat) (apex : ByteArray) (rv sv tv : Value) (w : World) (hz : ZoneAt w z apex rv sv tv) :
    Calls Tryz.prog 16 #[.pointer (some ⟨z, 0, none⟩)] w fun e w' => e = .returned (.string apex) ∧ w' = w := by
  have z0 : w.cell? ⟨z, 0, none⟩ = some (.string apex) := by rw [heap_cell hz]; rfl
  clear hz
  go_enter Tryz.func16, Tryz.ntmps16
  go_wp2
  go_ret
  exact ⟨rfl, rfl⟩
set_option maxRecDepth 100000 in
theorem records_any (top z : Nat) (apex : ByteArray) (L : List Rec) (hL : L.length ≤ 2000) (w : World) (hz : ZoneV w top z apex L) :
    Calls Tryz.prog 15 #[.pointer (some ⟨z, 0, none⟩)] w fun e w' => NewRecs L w e w' := by
  obtain ⟨base, rg, cap, sb, tb, l0, h1, h2, h3, h4, h5⟩ := hz.parts
  have z1 : w.cell? ⟨z, 1, none⟩ = some (.slice (some ⟨rg, 0, none⟩) L.length cap) := by rw [heap_cell h2]; rfl
  have HC := Lib.hid (cloneRecs_any L (by omega) _ (owns_form h3) w (owns_recs h3))
  clear h1 h2 h3 h4 h5 hz
  go_enter Tryz.func15, Tryz.ntmps15
  go_wp2_with fail
  refine HC.out.mono ?_
  rintro e w' ⟨v, rfl, hB, hown⟩
  have HB := Lib.hid hB; have HO := Lib.hid hown
  clear hB hown
  go_wp2_with fail
  go_ret
  exact ⟨v, rfl, HB.out, HO.out⟩
theorem rowsS_len (L : List Rec) (κ : Key) : (zn.rowsS L κ).length ≤ L.length := List.length_filter_le _ _
theorem rowsS_perm {l L : List Rec} (h : l.Perm L) {κ : Key} (hκ : κ ∉ zn.domS l) : zn.rowsS L κ = [] := by
  have h1 := zn.rowsS_none hκ
  have h2 := (h.filter fun r => decide (zn.keyR r = κ)).length_eq
  unfold zn.rowsS at h1 ⊢
  rw [h1] at h2
  exact List.eq_nil_of_length_eq_zero h2.symm
set_option maxRecDepth 100000 in
set_option maxHeartbeats 1000000 in
theorem set_any (top z : Nat) (apex : ByteArray) (L : List Rec) (hL : L.length ≤ 2000) (n : ByteArray) (t : Int) (ht : (Lit.int .i64 t).wf = true) (w : World) (hz : ZoneV w top z apex L) :
    Calls Tryz.prog 30 #[.pointer (some ⟨z, 0, none⟩), .string n, .int .i64 t] w fun e w' => NewRecs (zn.rowsS L (foldS n, t)) w e w' := by
  obtain ⟨base, rg, cap, sb, tb, l0, h1, h2, h3, h4, h5⟩ := hz.parts
  have z2 : w.cell? ⟨z, 2, none⟩ = some (.map (some sb)) := by rw [heap_cell h2]; rfl
  obtain ⟨v, hv, hown⟩ := sets_look h4 (fun κ hκ => rowsS_perm h1 hκ) (κ := (foldS n, t)) ⟨fold_ok _, ht⟩
  have e1 := gw_cell z2
  have e2 := fun p => hv (gw w p) (gw_below w p)
  have hll := rowsS_len L (foldS n, t)
  have HO := Lib.hid hown
  clear h1 h2 h3 h4 h5 hz hv hown z2
  go_enter Tryz.func30, Tryz.ntmps30
  go_wp2_with fail
  refine wp_region_quiet_tail (C := fun W => ∃ p, W = gw w p) 9 (by kernel_rfl) (by kernel_rfl) (gw_draw w) ?_
  simp only [List.take_succ_cons, List.take_zero, List.drop_succ_cons, List.drop_zero]
  repeat (with_reducible refine wpQuiet_step (fun K hK => ?_); go_simp; first | (with_reducible refine hK _ ?_; clear hK K) | (apply Exists.intro; refine ⟨fun _ => ?_, hK _ ?_⟩; (first | (go_at_call 65; exact calls_gw (fold_any _ _))); clear hK K))
  with_reducible refine wpQuiet_nil ?_
  intro W hW
  have hBW : Below w.heap.size w W := by obtain ⟨p, rfl⟩ := hW; exact gw_below _ _
  clear e1 e2 hW
  have HBW := Lib.hid hBW
  have hown2 := ownsRow_keepOne HO.out fun b hb => hBW.block b (HO.out.lt b hb).2
  have HC := Lib.hid (cloneRecs_any (zn.rowsS L (foldS n, t)) (by omega) _ (owns_form hown2) W (owns_recs hown2))
  clear hown2 hBW
  go_wp2_with fail
  refine HC.out.mono ?_
  rintro e w' ⟨v', rfl, hB, hown⟩
  have HB := Lib.hid hB; have HO2 := Lib.hid hown
  clear hB hown
  go_wp2_with fail
  go_ret
  exact ⟨v', rfl, HBW.out.trans (HB.out.mono HBW.out.size), ownsRow_base HO2.out HBW.out.size⟩
end Go.Proofs.YtdjjemajfphjaaaGreat
namespace Go.Proofs.YtdjjemajfphjaaaGreat
open Go.RowKit Go.Shelf Go.WideMaps Go.Proofs.YtdjjemajfphjaaaGreat.nm Go.Proofs.YtdjjemajfphjaaaGreat.od
namespace zn
theorem insK_length {α : Type} [DecidableEq α] (d : List α) (a : α) : (insK d a).length ≤ d.length + 1 := by
  unfold insK; split <;> simp
theorem insAll_length : ∀ (l d : List ByteArray), (insAll d l).length ≤ d.length + l.length
  | [], d => by simp [insAll]
  | a :: l, d => by
    have h1 := insAll_length l (insK d a)
    have h2 := insK_length d a
    show (insAll (insK d a) l).length ≤ _
    rw [List.length_cons]
    omega
theorem domT_length (c : Nat) (l : List Rec) : (domT c l).length ≤ l.length * 256 := by
  have h : ∀ (l : List Rec) (d : List ByteArray), (l.foldl (fun d r => if signsB r then d else insAll d (ups c (foldS r.owner))) d).length ≤ d.length + l.length * 256 := by
    intro l
    induction l with
    | nil => intro d; simp
    | cons r l ih =>
      intro d
      rw [List.foldl_cons, List.length_cons]
      have h1 := ih (if signsB r then d else insAll d (ups c (foldS r.owner)))
      have h2 : (if signsB r then d else insAll d (ups c (foldS r.owner))).length ≤ d.length + 256 := by
        split
        · omega
        · have h3 := insAll_length (ups c (foldS r.owner)) d
          have h4 : (ups c (foldS r.owner)).length ≤ 256 := by
            have := countI_le (foldS r.owner)
            unfold ups
            simp
            omega
          omega
      omega
  have := h l []
  simpa [domT] using this
end zn
def NewNames (N : List ByteArray) (w : World) (e : Ending) (w' : World) : Prop := ∃ v, e = .returned v ∧ Below w.heap.size w w' ∧ w'.ownsRow w.heap.size 9 1 v N.length (N.map .string)
def NamesOf (apex : ByteArray) (L : List Rec) (N : List ByteArray) : Prop :=
  N.Nodup ∧ (∀ n, n ∈ N ↔ ∃ r ∈ L, zn.signsB r = false ∧ n ∈ zn.ups (countI apex).toNat (foldS r.owner)) ∧ N.Pairwise (fun a b => compareI a b ≤ 0)
def LoopK (w0 wr : World) (tb r : Nat) (dom : List ByteArray) (val : ByteArray → Value) (v : Value) : Prop :=
  ∃ done : List ByteArray, RangeF Value.string StrOk wr tb r dom val done ∧ wr.ownsRow w0.heap.size 9 1 v done.length (done.map .string) ∧ Below w0.heap.size w0 wr
theorem loopK_len {w0 wr : World} {tb r : Nat} {dom : List ByteArray} {val : ByteArray → Value} {v : Value} (h : LoopK w0 wr tb r dom val v) : ∃ a n cap, v = .slice a n cap := by
  obtain ⟨done, _, h2, _⟩ := h
  obtain ⟨a, cap, rfl, _⟩ := ownsRow_len h2
  exact ⟨_, _, _, rfl⟩
theorem sortNamesRow_any (l : List ByteArray) (hl : l.length ≤ 1000000) (hok : ∀ r ∈ l, checkB r = true) (base : Nat) (v : Value) (w : World) (hrow : w.ownsRow base 9 1 v l.length (l.map .string)) :
    Calls Tryz.prog 162 #[v, .func (.func 120) #[] #[]] w fun e w' =>
      e = .returned (.tuple #[]) ∧ ∃ N : List ByteArray, N.Perm l ∧ N.Pairwise (fun a b => compareI a b ≤ 0) ∧ w'.ownsRow base 9 1 v N.length (N.map .string) ∧ w.grownBy w' v.ownBlock := by
  rcases hrow.2 with ⟨rfl, h0⟩ | ⟨g, cap, cur, rfl, hb, hg, rest⟩
  · have hl0 : l = [] := List.eq_nil_of_length_eq_zero h0
    subst hl0
    refine (AnyF.slices_SortFunc_none Tryz.sortS0 none 0 _ w).mono ?_
    rintro e w' ⟨rfl, rfl⟩
    exact ⟨rfl, [], List.Perm.refl _, List.Pairwise.nil, hrow, World.grownBy.refl _ _⟩
  · refine (sortNames_any l hl hok base g cap w hrow).mono ?_
    rintro e w' ⟨rfl, hg', N, hN, hpw, hown⟩
    exact ⟨rfl, N, hN, hpw, by rw [hN.length_eq]; exact hown, hg'⟩
set_option maxRecDepth 100000 in
set_option maxHeartbeats 2000000 in
theorem names_any (top z : Nat) (apex : ByteArray) (L : List Rec) (hL : L.length ≤ 2000) (hn : ∀ r ∈ L, checkB r.owner = true) (w : World) (hz : ZoneV w top z apex L) :
    Calls Tryz.prog 128 #[.pointer (some ⟨z, 0, none⟩)] w fun e w' => ∃ N, NamesOf apex L N ∧ NewNames N w e w' := by
  obtain ⟨base, rg, cap, sb, tb, l0, h1, h2, h3, h4, f, hT⟩ := hz.parts
  have z3 : w.cell? ⟨z, 3, none⟩ = some (.map (some tb)) := by rw [heap_cell h2]; rfl
  obtain ⟨dom, hdom⟩ : ∃ d, d = zn.domT (countI apex).toNat l0 := ⟨_, rfl⟩
  rw [← hdom] at hT
  have hdl : dom.length ≤ 512000 := by
    have := zn.domT_length (countI apex).toNat l0
    have := h1.length_eq
    rw [hdom]; omega
  have hmem : ∀ n, n ∈ dom ↔ ∃ r ∈ L, zn.signsB r = false ∧ n ∈ zn.ups (countI apex).toNat (foldS r.owner) := fun n => by
    rw [hdom, zn.mem_domT]
    exact ⟨fun ⟨r, hr, h⟩ => ⟨r, h1.mem_iff.1 hr, h⟩, fun ⟨r, hr, h⟩ => ⟨r, h1.mem_iff.2 hr, h⟩⟩
  have hnd : dom.Nodup := hT.1
  have hck : ∀ n ∈ dom, checkB n = true := fun n hn' => by
    obtain ⟨r, hr, _, hu⟩ := (hmem n).1 hn'
    obtain ⟨ls, hls⟩ := rows_check (hn r hr)
    obtain ⟨i, hi, rfl⟩ := List.mem_map.1 hu
    have hc := count_of (rows_fold hls)
    rw [List.mem_range, hc, Int.toNat_natCast] at hi
    exact check_of (tail_row (rows_fold hls) (by rw [hc]; omega) (by rw [hc]; omega)).2
  obtain ⟨w1, hrun, hRF, hB1, hs1⟩ := mapF_range Tryz.underlying92 hT
  have HRF := Lib.hid hRF; have HB1 := Lib.hid hB1; have HMEM := Lib.hid hmem; have HND := Lib.hid hnd; have HCK := Lib.hid hck
  obtain ⟨i0, hi0, hz0, hz1, hz2⟩ := info_parts info_str
  have HI := Lib.hid hi0; have HZ := Lib.hid hz0; have HZ1 := Lib.hid hz1; have HZ2 := Lib.hid hz2
  clear h1 h2 h3 h4 hT hz hdom hmem hnd hck hRF hB1 hs1 hi0 hz0 hz1 hz2 hn
  go_enter Tryz.func128, Tryz.ntmps128
  go_wp2_with fail
  clear hrun z3
  go_loopw [3] (fun v wr => LoopK w wr tb w.heap.size dom (fun a => .int .i64 (f a)) v) (fun _ wr => wr.rangeLeft tb w.heap.size)
  case atStart => exact ⟨[], HRF.out, World.ownsRow_nil _ _ _ _, HB1.out⟩
  case round =>
    obtain ⟨a, n, cap', rfl⟩ := loopK_len hrel
    obtain ⟨done, hRF, hown, hB⟩ := hrel
    have hln : n = done.length := by
      obtain ⟨_, _, hv, _⟩ := ownsRow_len hown
      simp only [Value.slice.injEq] at hv
      exact hv.2.1
    subst hln
    rcases hRF.next (P := Tryz.prog) 0 with ⟨hall, hrun⟩ | ⟨κ, w9, hd, hnd, hrun, hRF9, hg9, hs9, hdec, hent⟩
    · have hperm : done.Perm dom := (List.perm_ext_iff_of_nodup hRF.2.2.1 HND.out).2 fun a => ⟨hRF.2.2.2.1 a, hall a⟩
      have hdl2 := hperm.length_eq
      have hOWN := Lib.hid hown; have HB := Lib.hid hB; have HP := Lib.hid hperm; have HDL := Lib.hid hdl2
      have hdl3 : done.length ≤ 512000 := by omega
      clear hall hRF hown hB hperm hdl2
      go_wp2_with fail
      refine (sortNamesRow_any done (by omega) (fun n hn => HCK.out n (HP.out.mem_iff.1 hn)) w.heap.size _ wr hOWN.out).mono ?_
      rintro e w' ⟨rfl, N, hN, hpw, hown, hg⟩
      have hpost : NamesOf apex L N ∧ NewNames N w (.returned (.slice a done.length cap')) w' := by
        refine ⟨⟨(hN.trans HP.out).nodup_iff.2 HND.out, fun n => by rw [(hN.trans HP.out).mem_iff]; exact HMEM.out n, hpw⟩, _, rfl, HB.out.grown hg HB.out.size (fun j hj => (hOWN.out.lt j hj).1), ?_⟩
        exact hown
      have HPOST := Lib.hid hpost
      clear hpost hN hpw hown hg
      go_wp2_with fail
      go_ret
      exact ⟨N, HPOST.out.1, HPOST.out.2⟩
    · have hdl2 : (done ++ [κ]).length ≤ dom.length := nodup_length _ _ hRF9.2.2.1 hRF9.2.2.2.1
      have hdl3 : done.length + 1 ≤ 512000 := by rw [List.length_append] at hdl2; simp at hdl2; omega
      have hs9' : wr.heap.size ≤ w9.heap.size := hg9.size
      have hsw := hB.size
      have hiter := hRF.iterObj
      have hown9 := hown.kept hg9 (.inr (fun e => by
        obtain ⟨c', fz, hc⟩ := Lib.ownsRow_kind hown _ e
        obtain ⟨_, _, _, _, hi⟩ := hiter
        rw [hi] at hc
        cases hc))
      have hB9 : Below w.heap.size w w9 := hB.grown hg9 hsw (fun j e => by cases e; exact Nat.le_refl _)
      have HOWN := Lib.hid (ownsRow_keepOne hown9 fun b hb => Below.heap_alloc w9 (.cells #[.string κ] 9) b (hown9.lt b hb).2)
      have HRF9 := Lib.hid hRF9; have HB9 := Lib.hid hB9; have HDEC := Lib.hid hdec; have HS9 := Lib.hid hs9
      clear hRF hown hB hdl2 hRF9 hg9 hdec hown9 hB9 hd hnd hiter hs9
      have q1 : done.length + 1 ≤ maxLen := by unfold maxLen; omega
      have q2 : (done.length + 1) * 16 ≤ 140737488355328 := by omega
      have q3 : w.heap.size ≤ (w9.alloc (.cells #[.string κ] 9)).heap.size := by simp; omega
      have Q1 := Lib.hid q1; have Q2 := Lib.hid q2; have Q3 := Lib.hid q3
      clear q1 q2 q3
      go_wp2_with (at_builtin; refine wpList_append_own _ rfl _ _ 130 rfl w.heap.size 9 i0 (.string ByteArray.empty) 1 16 Tryz.underlying130 HI.out HZ.out HZ1.out HZ2.out rfl (by decide) _ _ _ rfl HOWN.out ⟨w9.heap.size, 0, none⟩ 1 1 [.string κ] rfl rfl (cell_one_new _ _ _) (by simp [Value.oneCell']) Q1.out Q2.out Q3.out ?_)
      intro v' w10 hown10 hg10 hnn
      clear hrun hent
      have hrow : ∀ b, b < w9.heap.size → (∀ c, (Value.slice a done.length cap').ownBlock = some c → c ≠ b) → w10.heap[b]? = w9.heap[b]? := fun b hb hc => by
        rw [hg10.block b (by simp; omega) (fun e => hc b e.symm rfl)]
        exact Below.heap_alloc w9 _ b hb
      have hB10 : Below w.heap.size w w10 := (HB9.out.alloc (by omega) _).grown hg10 Q3.out (fun j hj => (HOWN.out.lt j hj).1)
      have hmap := HRF9.out.map.mapObj
      have hit := HRF9.out.iterObj
      have hk1 : w10.heap[tb]? = w9.heap[tb]? := hrow tb HRF9.out.map.lt (fun c hc e => by
        subst e
        obtain ⟨es, cl, hm⟩ := hmap
        exact ownsRow_not_map HOWN.out (heap_alloc_keep hm _) hc)
      have hk2 : w10.heap[w.heap.size]? = w9.heap[w.heap.size]? := hrow _ HRF9.out.lt (fun c hc e => by
        subst e
        obtain ⟨c', fz, hc'⟩ := Lib.ownsRow_kind HOWN.out _ hc
        obtain ⟨_, _, _, _, hi⟩ := hit
        rw [heap_alloc_keep hi] at hc'
        cases hc')
      have hRF10 := HRF9.out.keep hk1 hk2
      have hrl : w10.rangeLeft tb w.heap.size < wr.rangeLeft tb w.heap.size := by rw [rangeLeft_keep hk1 hk2]; exact HDEC.out
      have HRF10 := Lib.hid hRF10; have HRL := Lib.hid hrl; have HB10 := Lib.hid hB10; have HOWN10 := Lib.hid hown10
      clear hrow hmap hit hk1 hk2 hRF10 hrl hB10 hown10 hg10 hnn
      go_wp2_with fail
      go_roundw
      case rel =>
        refine ⟨done ++ [κ], HRF10.out, ?_, HB10.out⟩
        have := HOWN10.out
        rw [List.length_append, List.map_append]
        exact this
      case measure => exact HRL.out
end Go.Proofs.YtdjjemajfphjaaaGreat

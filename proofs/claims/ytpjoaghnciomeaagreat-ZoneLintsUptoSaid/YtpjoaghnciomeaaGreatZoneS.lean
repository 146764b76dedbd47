/-
  slices.BinarySearchFunc of sorted records; zone.at.
-/
import Derived.Test.YtpjoaghnciomeaaGreatZoneP
import Derived.Deep.LoopGhost
import Derived.Test.YtpjoaghnciomeaaGreatFindP
namespace Go.Proofs.YtpjoaghnciomeaaGreat
open Go.RowKit Go.Shelf Go.WideMaps Go.Proofs.YtpjoaghnciomeaaGreat.nm Go.Proofs.YtpjoaghnciomeaaGreat.od

set_option maxRecDepth 100000 in
theorem at1_any (r : Rec) (n : ByteArray) (hr : r.owner.size ≤ 140737488355328) (hn : n.size ≤ 140737488355328) (w : World) :
    Calls Tryz.prog 105 #[recV r, .string n] w fun e w' => e = .returned (.int .i64 (compareI r.owner n)) ∧ Below w.heap.size w w' := by
  have hB := Lib.hid ((Below.refl _ w).alloc (Nat.le_refl _) (.cells (recC r).toArray 53))
  have c0 := rec_cell w r 53 0 _ rfl
  go_enter Tryz.func105, Tryz.ntmps105
  go_wp2_with fail
  refine (compare_any _ _ hr hn _).mono ?_
  rintro e w2 ⟨rfl, hB2⟩
  go_wp2_with fail
  go_ret
  exact ⟨rfl, hB.out.trans (hB2.mono hB.out.size)⟩
theorem callFunc_at1 (args : Array Value) (w : World) : (callFunc 105 args).run Tryz.prog w = .ok (.enter 105 args) w := by kernel_rfl

/-- Where a record's name stands to another, by place. -/
def zn.atC (L : List Rec) (n : ByteArray) (t : Nat) : Int := match L[t]? with
  | some r => compareI r.owner n
  | none => 0
theorem zn.atC_get {L : List Rec} {n : ByteArray} {t : Nat} (h : t < L.length) : zn.atC L n t = compareI L[t].owner n := by unfold zn.atC; rw [List.getElem?_eq_getElem h]

/-- How far the search has come. -/
def SearchI (w wr : World) (L : List Rec) (n : ByteArray) (lo hi : Nat) : Prop :=
  Below w.heap.size w wr ∧ (∀ t, t < lo → zn.atC L n t < 0) ∧ (∀ t, hi ≤ t → t < L.length → 0 ≤ zn.atC L n t)

set_option maxRecDepth 100000 in
set_option maxHeartbeats 2000000 in
theorem search_any (L : List Rec) (hL : L.length ≤ 2000) (n : ByteArray) (hn : n.size ≤ 140737488355328) (ho : ∀ r ∈ L, r.owner.size ≤ 140737488355328) (v : Value) (w : World) (hrv : RecsAt w v L)
    (hmono : ∀ a b, a ≤ b → b < L.length → zn.atC L n b < 0 → zn.atC L n a < 0) :
    Calls Tryz.prog 104 #[v, .string n, .func (.func 105) #[] #[]] w fun e w' =>
      ∃ (k : Nat) (b : Bool), k ≤ L.length ∧ e = .returned (.tuple #[.int .i64 (k : Int), .bool b]) ∧ SearchI w w' L n k k := by
  obtain ⟨a, cap, rfl, hcap, hrr⟩ := hrv
  have hrv : RecsAt w (.slice a L.length cap) L := ⟨a, cap, rfl, hcap, hrr⟩
  have HRV := Lib.hid hrv; have HM := Lib.hid hmono; have HO := Lib.hid ho; have HCF := callFunc_at1
  clear hrr hrv hmono ho
  go_enter Tryz.func104, Tryz.ntmps104
  go_wp2_with fail
  go_loopg [9, 10] L.length (fun kx s9 s10 wr => ∃ lo hi : Nat, s9 = .int .i64 (lo : Int) ∧ s10 = .int .i64 (hi : Int) ∧ lo ≤ hi ∧ hi ≤ L.length ∧ hi - lo ≤ kx ∧ SearchI w wr L n lo hi)
  case atStart => exact ⟨0, L.length, rfl, rfl, Nat.zero_le _, Nat.le_refl _, by omega, Below.refl _ _, fun t ht => absurd ht (Nat.not_lt_zero _), fun t h1 h2 => by omega⟩
  case round =>
    obtain ⟨lo, hi, rfl, rfl, hlh, hin, hg, hB, h1, h2⟩ := hrel
    by_cases hlt : lo < hi
    · obtain ⟨a', cap', hv, _, hr⟩ := RecsAt.below HRV.out hB
      simp only [Value.slice.injEq, true_and] at hv
      obtain ⟨rfl, rfl⟩ := hv
      have hmid : (lo + hi) / 2 < L.length := by omega
      obtain ⟨b, off, rfl, hbl, c0, c1, c2, c3, c4⟩ := hr _ hmid
      have HB := Lib.hid hB; have H1 := Lib.hid h1; have H2 := Lib.hid h2
      have hsr := hB.size
      have hac := zn.atC_get (n := n) hmid
      have HAC := Lib.hid hac
      clear hr hB h1 h2 hac
      go_wp2_with fail
      refine (at1_any L[(lo + hi) / 2] n (HO.out _ (List.getElem_mem hmid)) hn wr).mono ?_
      rintro e w2 ⟨rfl, hB2⟩
      have HB2 := Lib.hid (HB.out.trans (hB2.mono hsr))
      clear hB2 c0 c1 c2 c3 c4
      obtain ⟨x, hx⟩ : ∃ x, x = compareI L[(lo + hi) / 2].owner n := ⟨_, rfl⟩
      rw [← hx]
      have HX := Lib.hid hx
      clear hx
      by_cases hneg : x < 0
      · go_wp2_with fail
        go_roundg (hi - ((lo + hi) / 2 + 1))
        case measure => omega
        case rel =>
          refine ⟨(lo + hi) / 2 + 1, hi, ?_, rfl, by omega, hin, Nat.le_refl _, HB2.out, fun t ht => ?_, H2.out⟩
          · rw [show ((lo : Int) + (hi : Int)) / 2 + 1 = (((lo + hi) / 2 + 1 : Nat) : Int) by omega]
          · exact HM.out t ((lo + hi) / 2) (by omega) hmid (by rw [HAC.out, ← HX.out]; exact hneg)
      · go_wp2_with fail
        go_roundg ((lo + hi) / 2 - lo)
        case measure => omega
        case rel =>
          refine ⟨lo, (lo + hi) / 2, rfl, ?_, by omega, by omega, Nat.le_refl _, HB2.out, H1.out, fun t ht htl => ?_⟩
          · rw [show ((lo : Int) + (hi : Int)) / 2 = (((lo + hi) / 2 : Nat) : Int) by omega]
          · rcases Int.lt_or_le (zn.atC L n t) 0 with hl | hl
            · have := HM.out ((lo + hi) / 2) t ht htl hl
              rw [HAC.out, ← HX.out] at this
              omega
            · exact hl
    · obtain rfl : lo = hi := by omega
      have HB := Lib.hid hB; have H1 := Lib.hid h1; have H2 := Lib.hid h2
      have hsr := hB.size
      by_cases hll : lo < L.length
      · obtain ⟨a', cap', hv, _, hr⟩ := RecsAt.below HRV.out hB
        simp only [Value.slice.injEq, true_and] at hv
        obtain ⟨rfl, rfl⟩ := hv
        obtain ⟨b, off, rfl, hbl, c0, c1, c2, c3, c4⟩ := hr _ hll
        clear hr hB h1 h2
        go_wp2_with fail
        refine (at1_any L[lo] n (HO.out _ (List.getElem_mem hll)) hn wr).mono ?_
        rintro e w2 ⟨rfl, hB2⟩
        have HB2 := Lib.hid (HB.out.trans (hB2.mono hsr))
        clear hB2 c0 c1 c2 c3 c4
        go_wp2_with fail
        go_ret2
        exact ⟨lo, _, by omega, rfl, HB2.out, H1.out, H2.out⟩
      · clear hB h1 h2
        go_wp2_with fail
        go_ret2
        exact ⟨lo, _, by omega, rfl, HB.out, H1.out, H2.out⟩
end Go.Proofs.YtpjoaghnciomeaaGreat
/-
  zone.at.
-/
namespace Go.Proofs.YtpjoaghnciomeaaGreat
open Go.RowKit Go.Shelf Go.WideMaps Go.Proofs.YtpjoaghnciomeaaGreat.nm Go.Proofs.YtpjoaghnciomeaaGreat.od

namespace zn
theorem owners_sorted {L : List Rec} (hs : L.Pairwise (fun a b => orderI a b ≤ 0)) : L.Pairwise (fun a b => compareI a.owner b.owner ≤ 0) :=
  hs.imp fun {a b} h => by
    rw [orderI_if] at h
    split at h
    · omega
    · exact h
theorem compareI_none {a n : ByteArray} (h : checkB n = false) : compareI a n = 0 := by
  unfold compareI
  rw [if_neg (fun e => by rw [e.2] at h; cases h)]
theorem atC_none {L : List Rec} {n : ByteArray} (h : checkB n = false) (t : Nat) : atC L n t = 0 := by
  unfold atC
  split
  · exact compareI_none h
  · rfl
theorem owners_le {L : List Rec} (hs : L.Pairwise (fun a b => orderI a b ≤ 0)) (hn : Named L) {a b : Nat} (h : a ≤ b) (hb : b < L.length) : compareI (L[a]'(by omega)).owner L[b].owner ≤ 0 := by
  rcases Nat.lt_or_eq_of_le h with h1 | h1
  · have := owners_sorted hs
    rw [List.pairwise_iff_getElem] at this
    exact this a b (by omega) hb h1
  · subst h1
    have := names_cmp.self ⟨L[a].owner, hn _ (List.getElem_mem hb)⟩
    have h2 : compareI L[a].owner L[a].owner = 0 := this
    omega
theorem atC_mono {L : List Rec} (hs : L.Pairwise (fun a b => orderI a b ≤ 0)) (hn : Named L) (n : ByteArray) : ∀ a b, a ≤ b → b < L.length → atC L n b < 0 → atC L n a < 0 := fun a b h hb hlt => by
  cases hc : checkB n
  · rw [atC_none hc] at hlt; omega
  · have ha : a < L.length := by omega
    rw [atC_get hb] at hlt
    rw [atC_get ha]
    have h1 := owners_le hs hn h hb
    have h2 := names_cmp.trans ⟨L[a].owner, hn _ (List.getElem_mem ha)⟩ ⟨L[b].owner, hn _ (List.getElem_mem hb)⟩ ⟨n, hc⟩ h1 (show compareI L[b].owner n ≤ 0 by omega)
    have h2' : compareI L[a].owner n ≤ 0 := h2
    rcases Int.lt_or_eq_of_le h2' with h3 | h3
    · exact h3
    · have h4 := (names_cmp.zero ⟨L[a].owner, hn _ (List.getElem_mem ha)⟩ ⟨n, hc⟩).1 h3
      have h4' : compareI n L[a].owner = 0 := h4
      have h5 : compareI n L[b].owner ≤ 0 := names_cmp.trans ⟨n, hc⟩ ⟨L[a].owner, hn _ (List.getElem_mem ha)⟩ ⟨L[b].owner, hn _ (List.getElem_mem hb)⟩ (show compareI n L[a].owner ≤ 0 by omega) h1
      have h6 := (names_cmp.anti ⟨L[b].owner, hn _ (List.getElem_mem hb)⟩ ⟨n, hc⟩).1 hlt
      have h6' : 0 < compareI n L[b].owner := h6
      omega
theorem equal_zero {a n : ByteArray} (h : equalB a n = true) : compareI a n = 0 := by
  obtain ⟨h1, h2⟩ := equal_check h
  exact (compareI_zero h1 h2).2 ((equal_fold h1 h2).1 h)
theorem at_front {L : List Rec} {n : ByteArray} {t : Nat} (ht : t < L.length) (h : atC L n t < 0) : equalB L[t].owner n = false := by
  cases he : equalB L[t].owner n
  · rfl
  · rw [atC_get ht, equal_zero he] at h; omega
theorem at_rest {L : List Rec} (hs : L.Pairwise (fun a b => orderI a b ≤ 0)) (hn : Named L) {n : ByteArray} {k : Nat} (hk : k < L.length) (h0 : 0 ≤ atC L n k) (he : equalB L[k].owner n = false) :
    ∀ t (ht : t < L.length), k ≤ t → equalB L[t].owner n = false := fun t ht hkt => by
  cases he2 : equalB L[t].owner n
  · rfl
  · exfalso
    have hc := (equal_check he2).2
    have hkn := hn _ (List.getElem_mem hk)
    have h1 := equal_zero he2
    have h2 := owners_le hs hn hkt ht
    rw [atC_get hk] at h0
    have h3 : compareI L[k].owner n ≤ 0 := names_cmp.trans ⟨L[k].owner, hkn⟩ ⟨L[t].owner, hn _ (List.getElem_mem ht)⟩ ⟨n, hc⟩ h2 (show compareI L[t].owner n ≤ 0 by omega)
    have h4 : compareI L[k].owner n = 0 := by omega
    have h5 := (equal_fold hkn hc).2 ((compareI_zero hkn hc).1 h4)
    rw [h5] at he
    cases he
/-- What counts at a name, among the first so many. -/
def atTo (L : List Rec) (n : ByteArray) (k : Nat) : List Rec := (L.take k).filter fun r => equalB r.owner n && !signsB r
theorem atTo_next {L : List Rec} {n : ByteArray} {k : Nat} (hk : k < L.length) : atTo L n (k + 1) = if (equalB L[k].owner n && !signsB L[k]) = true then atTo L n k ++ [L[k]] else atTo L n k := by
  unfold atTo
  rw [List.take_succ_eq_append_getElem hk, List.filter_append]
  split
  · rename_i h; simp [h]
  · rename_i h; simp [h]
theorem atTo_front {L : List Rec} {n : ByteArray} {k : Nat} (h : ∀ t, t < k → atC L n t < 0) : atTo L n k = [] := by
  unfold atTo
  rw [List.filter_eq_nil_iff]
  intro r hr
  rw [List.mem_take_iff_getElem] at hr
  obtain ⟨i, hi, rfl⟩ := hr
  rw [at_front (by omega) (h i (by omega))]
  simp
theorem atTo_all {L : List Rec} {n : ByteArray} {k : Nat} (h : ∀ t (ht : t < L.length), k ≤ t → equalB L[t].owner n = false) : atTo L n k = atL L n 255 := by
  unfold atL atTo
  rw [if_pos rfl]
  have e : (L.drop k).filter (fun r => equalB r.owner n && !signsB r) = [] := by
    rw [List.filter_eq_nil_iff]
    intro r hr
    obtain ⟨i, hi, rfl⟩ := List.getElem_of_mem hr
    rw [List.length_drop] at hi
    rw [List.getElem_drop, h (k + i) (by omega) (by omega)]
    simp
  conv => rhs; rw [← List.take_append_drop k L]
  rw [List.filter_append, e, List.append_nil]
theorem atTo_len (L : List Rec) (n : ByteArray) (k : Nat) : (atTo L n k).length ≤ L.length := by
  unfold atTo
  have h1 := List.length_filter_le (fun r => equalB r.owner n && !signsB r) (L.take k)
  have h2 : (L.take k).length ≤ L.length := by rw [List.length_take]; omega
  omega
end zn

/-- How far the list at a name has come. -/
def AtLoop (w0 wr : World) (L : List Rec) (n : ByteArray) (k : Nat) (v : Value) : Prop :=
  wr.ownsRow w0.heap.size 53 5 v (zn.atTo L n k).length (recsC (zn.atTo L n k)) ∧ Below w0.heap.size w0 wr
theorem atLoop_len {w0 wr : World} {L : List Rec} {n : ByteArray} {k : Nat} {v : Value} (h : AtLoop w0 wr L n k v) : ∃ a cap, v = .slice a (zn.atTo L n k).length cap := by
  obtain ⟨a, cap, rfl, _⟩ := ownsRow_len h.1
  exact ⟨_, _, rfl⟩

set_option maxRecDepth 100000 in
set_option maxHeartbeats 1000000 in
theorem at_type (top z : Nat) (apex : ByteArray) (L : List Rec) (hL : L.length ≤ 2000) (n : ByteArray) (t : Int) (ht : (Lit.int .i64 t).wf = true) (h255 : t ≠ 255) (w : World) (hz : ZoneV w top z apex L) :
    Calls Tryz.prog 61 #[.pointer (some ⟨z, 0, none⟩), .string n, .int .i64 t] w fun e w' => NewRecs (zn.rowsS L (foldS n, t)) w e w' := by
  obtain ⟨base, rg, cap, sb, tb, l0, h1, h2, h3, h4, h5⟩ := hz.parts
  have z2 : w.cell? ⟨z, 2, none⟩ = some (.map (some sb)) := by rw [heap_cell h2]; rfl
  obtain ⟨v, hv, hown⟩ := sets_look h4 (fun κ hκ => rowsS_perm h1 hκ) (κ := (foldS n, t)) ⟨fold_ok _, ht⟩
  have e1 := gw_cell z2
  have e2 := fun p => hv (gw w p) (gw_below w p)
  have hll := rowsS_len L (foldS n, t)
  have b1 : (t == 255) = false := by rw [beq_eq_false_iff_ne]; exact h255
  have HO := Lib.hid hown
  clear h1 h2 h3 h4 h5 hz hv hown z2 h255
  go_enter Tryz.func61, Tryz.ntmps61
  go_wp2_with fail
  refine wp_region_quiet_tail (C := fun W => ∃ p, W = gw w p) 9 (by kernel_rfl) (by kernel_rfl) (gw_draw w) ?_
  simp only [List.take_succ_cons, List.take_zero, List.drop_succ_cons, List.drop_zero]
  repeat (with_reducible refine wpQuiet_step (fun K hK => ?_); go_simp; first | (with_reducible refine hK _ ?_; clear hK K) | (apply Exists.intro; refine ⟨fun _ => ?_, hK _ ?_⟩; (first | (go_at_call 52; exact calls_gw (fold_any _ _))); clear hK K))
  with_reducible refine wpQuiet_nil ?_
  intro W hW
  have hBW : Below w.heap.size w W := by obtain ⟨p, rfl⟩ := hW; exact gw_below _ _
  clear e1 e2 hW b1
  have HBW := Lib.hid hBW
  have hown2 := ownsRow_keepOne HO.out fun b hb => hBW.block b (HO.out.lt b hb).2
  have HC := Lib.hid (cloneRecs_any (zn.rowsS L (foldS n, t)) (by omega) _ (owns_form hown2) W (owns_recs hown2))
  clear hown2 hBW
  go_wp2_with fail
  refine HC.out.mono ?_
  rintro e w' ⟨v', rfl, hB, hown⟩
  have HB := Lib.hid hB; have HO2 := Lib.hid hown
  clear hB hown
  go_wp2_with fail
  go_ret
  exact ⟨v', rfl, HBW.out.trans (HB.out.mono HBW.out.size), ownsRow_base HO2.out HBW.out.size⟩

set_option maxRecDepth 100000 in
set_option maxHeartbeats 2000000 in
theorem at_all_any (top z : Nat) (apex : ByteArray) (L : List Rec) (hL : L.length ≤ 2000) (hnm : zn.Named L) (hs : L.Pairwise (fun a b => zn.orderI a b ≤ 0)) (n : ByteArray) (hn : n.size ≤ 140737488355328) (w : World) (hz : ZoneV w top z apex L) :
    Calls Tryz.prog 61 #[.pointer (some ⟨z, 0, none⟩), .string n, .int .i64 255] w fun e w' => NewRecs (zn.atL L n 255) w e w' := by
  obtain ⟨base, rg, cap, sb, tb, l0, h1, h2, h3, h4, h5⟩ := hz.parts
  have z1 : w.cell? ⟨z, 1, none⟩ = some (.slice (some ⟨rg, 0, none⟩) L.length cap) := by rw [heap_cell h2]; rfl
  have hzl := heap_lt h2
  have HZ := Lib.hid h2
  have HRV := Lib.hid (owns_recs h3)
  have HS := Lib.hid (search_any L hL n hn (fun r hr => by have := checkB_size (hnm r hr); omega) _ w (owns_recs h3) (zn.atC_mono hs hnm n))
  have HSO := Lib.hid hs; have HNM := Lib.hid hnm
  obtain ⟨i0, hi0, hz0, hz1, hz2⟩ := info_parts info_rec
  have HI := Lib.hid hi0; have HZ0 := Lib.hid hz0; have HZ1 := Lib.hid hz1; have HZ2 := Lib.hid hz2
  clear h1 h2 h3 h4 h5 hz hs hnm hi0 hz0 hz1 hz2
  go_enter Tryz.func61, Tryz.ntmps61
  go_wp2_with fail
  refine HS.out.mono ?_
  rintro e w2 ⟨k0, b0, hk0, rfl, hB2, hlo, hhi⟩
  have HB2 := Lib.hid hB2; have HLO := Lib.hid hlo; have HHI := Lib.hid hhi
  clear hB2 hlo hhi z1
  go_wp2_with fail
  go_loopw [7, 9] (fun kv v wr => ∃ k : Nat, k0 ≤ k ∧ k ≤ L.length ∧ kv = .int .i64 (k : Int) ∧ AtLoop w wr L n k v) (fun kv _ _ => L.length - (intOf kv).toNat)
  case atStart => exact ⟨k0, Nat.le_refl _, hk0, rfl, by unfold AtLoop; rw [zn.atTo_front HLO.out]; exact ⟨World.ownsRow_nil _ _ _ _, HB2.out⟩⟩
  case round =>
    obtain ⟨k, hk1, hk2, rfl, hA⟩ := hrel
    obtain ⟨a, cap', rfl⟩ := atLoop_len hA
    obtain ⟨hown, hB⟩ := hA
    have hsr := hB.size
    have zr := (hB.block z hzl).trans HZ.out
    have z1 : wr.cell? ⟨z, 1, none⟩ = some (.slice (some ⟨rg, 0, none⟩) L.length cap) := by rw [heap_cell zr]; rfl
    have HOWN := Lib.hid hown; have HB := Lib.hid hB
    clear hown hB zr
    by_cases hlt : k < L.length
    · obtain ⟨a', cap2, hv, _, hr⟩ := RecsAt.below HRV.out HB.out
      simp only [Value.slice.injEq, true_and] at hv
      obtain ⟨rfl, rfl⟩ := hv
      obtain ⟨b, off, hbo, hbl, c0, c1, c2, c3, c4⟩ := hr _ hlt
      simp only [Option.some.injEq, Addr.mk.injEq, and_true] at hbo
      obtain ⟨rfl, rfl⟩ := hbo
      simp only [Nat.zero_add] at hbl c0 c1 c2 c3 c4
      have HC := Lib.hid hr
      clear hr
      go_wp2_with fail
      refine (equal_any _ _ _).mono ?_
      rintro e w3 ⟨rfl, hB3⟩
      cases he : equalB L[k].owner n
      · have hpost : NewRecs (zn.atL L n 255) w (.returned (.slice a (zn.atTo L n k).length cap')) w3 := by
          have hAll := zn.atTo_all (zn.at_rest HSO.out HNM.out hlt (HHI.out k hk1 hlt) he)
          rw [← hAll]
          exact ⟨_, rfl, HB.out.trans (hB3.mono hsr), ownsRow_keepOne HOWN.out fun b hb => hB3.block b (HOWN.out.lt b hb).2⟩
        have HP := Lib.hid hpost
        clear hpost hB3 he
        go_wp2_with fail
        go_ret
        exact HP.out
      · have z1' := (hB3.cell (p := ⟨z, 1, none⟩) (by show z < _; omega)).trans z1
        have c0' := (hB3.cell (p := ⟨rg, k * 5, none⟩) hbl).trans c0
        have c1' := (hB3.cell (p := ⟨rg, k * 5 + 1, none⟩) hbl).trans c1
        have c2' := (hB3.cell (p := ⟨rg, k * 5 + 2, none⟩) hbl).trans c2
        have c3' := (hB3.cell (p := ⟨rg, k * 5 + 3, none⟩) hbl).trans c3
        have c4' := (hB3.cell (p := ⟨rg, k * 5 + 4, none⟩) hbl).trans c4
        have HE := Lib.hid he; have HB3 := Lib.hid hB3
        have hs3 := hB3.size
        clear c0 c1 c2 c3 c4 z1 he hB3
        go_wp2_with fail
        refine (signs_any _ _).mono ?_
        rintro e w4 ⟨rfl, hB4⟩
        have hs4 := hB4.size
        have hBr4 : Below wr.heap.size wr w4 := HB3.out.trans (hB4.mono hs3)
        have hown4 := ownsRow_keepOne HOWN.out fun b hb => hBr4.block b (HOWN.out.lt b hb).2
        have hB04 := HB.out.trans (hBr4.mono hsr)
        cases hsg : zn.signsB L[k]
        · have z1'' := (hB4.cell (p := ⟨z, 1, none⟩) (by show z < _; omega)).trans z1'
          have d0 := (hB4.cell (p := ⟨rg, k * 5, none⟩) (by show rg < _; omega)).trans c0'
          have d1 := (hB4.cell (p := ⟨rg, k * 5 + 1, none⟩) (by show rg < _; omega)).trans c1'
          have d2 := (hB4.cell (p := ⟨rg, k * 5 + 2, none⟩) (by show rg < _; omega)).trans c2'
          have d3 := (hB4.cell (p := ⟨rg, k * 5 + 3, none⟩) (by show rg < _; omega)).trans c3'
          have d4 := (hB4.cell (p := ⟨rg, k * 5 + 4, none⟩) (by show rg < _; omega)).trans c4'
          have hnx := (zn.atTo_next (n := n) hlt).trans (if_pos (by rw [HE.out, hsg]; rfl))
          have hB5 := hB04.alloc (by omega) (.cells (recC L[k]).toArray 53)
          have HOWN5 := Lib.hid (ownsRow_keepOne hown4 fun b hb => Below.heap_alloc w4 (.cells (recC L[k]).toArray 53) b (hown4.lt b hb).2)
          have hln := zn.atTo_len L n k
          have p1 : (zn.atTo L n k).length + 1 ≤ maxLen := by unfold maxLen; omega
          have p2 : ((zn.atTo L n k).length + 1) * 56 ≤ 140737488355328 := by omega
          have p3 : w.heap.size ≤ (w4.alloc (.cells (recC L[k]).toArray 53)).heap.size := by simp; omega
          have P1 := Lib.hid p1; have P2 := Lib.hid p2; have P3 := Lib.hid p3; have HB5 := Lib.hid hB5; have HNX := Lib.hid hnx
          have HNEWS := Lib.hid (news_at w4 (recC L[k]) 53)
          clear p1 p2 p3 hB5 hnx hB4 hBr4 hown4 hB04 hsg hln z1' c0' c1' c2' c3' c4'
          go_wp2_with (at_builtin; refine wpList_append_own _ rfl _ _ 22 rfl w.heap.size 53 i0 (.agg #[.string ⟨#[]⟩, .int .i64 0, .int .i64 0, .int .i64 0, .string ⟨#[]⟩]) 5 56 Tryz.underlying22 HI.out HZ0.out HZ1.out HZ2.out rfl (by decide) _ _ _ rfl HOWN5.out ⟨w4.heap.size, 0, none⟩ 1 1 (recC L[k]) rfl rfl HNEWS.out (by simp [Value.oneCell']) P1.out P2.out P3.out ?_)
          intro v' w10 hown10 hg10 hnn
          have hB10 := HB5.out.grown hg10 P3.out (fun j hj => (HOWN5.out.lt j hj).1)
          have HOWN10 := Lib.hid hown10; have HB10 := Lib.hid hB10
          clear hown10 hB10 hg10 hnn d0 d1 d2 d3 d4 z1''
          go_wp2_with fail
          go_roundw
          case rel =>
            refine ⟨k + 1, by omega, by omega, by go_num, ?_, HB10.out⟩
            rw [HNX.out, List.length_append]
            have h := HOWN10.out
            rw [show recsC (zn.atTo L n k ++ [L[k]]) = recsC (zn.atTo L n k) ++ recC L[k] by unfold recsC; simp]
            exact h
          case measure => simp [intOf]; omega
        · have hnx := zn.atTo_next (n := n) hlt
          rw [HE.out, hsg, if_neg (by simp)] at hnx
          have HNX := Lib.hid hnx; have HOWN4 := Lib.hid hown4; have HB04 := Lib.hid hB04
          clear hnx hown4 hB04 hB4 hBr4 hsg z1' c0' c1' c2' c3' c4'
          go_wp2_with fail
          go_roundw
          case rel =>
            refine ⟨k + 1, by omega, by omega, by go_num, ?_⟩
            unfold AtLoop
            rw [HNX.out]
            exact ⟨HOWN4.out, HB04.out⟩
          case measure => simp [intOf]; omega
    · have hke : k = L.length := by omega
      subst hke
      have hpost : NewRecs (zn.atL L n 255) w (.returned (.slice a (zn.atTo L n L.length).length cap')) wr := by
        have hAll : zn.atTo L n L.length = zn.atL L n 255 := zn.atTo_all fun t h1 h2 => by omega
        rw [← hAll]
        exact ⟨_, rfl, HB.out, HOWN.out⟩
      have HP := Lib.hid hpost
      clear hpost
      go_wp2_with fail
      go_ret
      exact HP.out
end Go.Proofs.YtpjoaghnciomeaaGreat
/-
  zone.stands.
-/
namespace Go.Proofs.YtpjoaghnciomeaaGreat
open Go.RowKit Go.Shelf Go.WideMaps Go.Proofs.YtpjoaghnciomeaaGreat.nm Go.Proofs.YtpjoaghnciomeaaGreat.od

/-- A zone, small and in order. -/
structure ZoneF (w : World) (top z : Nat) (apex : ByteArray) (L : List Rec) : Prop where
  v : ZoneV w top z apex L
  small : L.length ≤ 2000
  named : zn.Named L
  sorted : L.Pairwise (fun a b => zn.orderI a b ≤ 0)
theorem ZoneF.kept {w w' : World} {top z : Nat} {apex : ByteArray} {L : List Rec} (h : ZoneF w top z apex L) (hb : Below w.heap.size w w') : ZoneF w' top z apex L :=
  ⟨h.v.below (hb.mono h.v.1), h.small, h.named, h.sorted⟩

theorem atL_type {L : List Rec} {n : ByteArray} {t : Int} (h : t ≠ 255) : zn.atL L n t = zn.rowsS L (foldS n, t) := by unfold zn.atL; rw [if_neg h]
theorem at_any (top z : Nat) (apex : ByteArray) (L : List Rec) (n : ByteArray) (hn : n.size ≤ 140737488355328) (t : Int) (ht : (Lit.int .i64 t).wf = true) (w : World) (hz : ZoneF w top z apex L) :
    Calls Tryz.prog 61 #[.pointer (some ⟨z, 0, none⟩), .string n, .int .i64 t] w fun e w' => NewRecs (zn.atL L n t) w e w' := by
  by_cases h : t = 255
  · subst h
    exact at_all_any top z apex L hz.small hz.named hz.sorted n hn w hz.v
  · rw [atL_type h]
    exact at_type top z apex L hz.small n t ht h w hz.v
theorem atL_len (L : List Rec) (n : ByteArray) (t : Int) : (zn.atL L n t).length ≤ L.length := by
  unfold zn.atL
  split
  · exact List.length_filter_le _ _
  · exact rowsS_len _ _

/-- What is found, in memory. -/
@[reducible] def fndV (f : zn.Fnd) (v : Value) : Value := .agg #[.int .i64 f.kind, .string f.owner, .string f.encl, .bool f.wild, v]
def NewFnd (f : zn.Fnd) (w : World) (e : Ending) (w' : World) : Prop := ∃ v, e = .returned (fndV f v) ∧ Below w.heap.size w w' ∧ w'.ownsRow w.heap.size 53 5 v f.recs.length (recsC f.recs)

/-- Five cells, written one behind the other. -/
theorem fnd_store {B g : Nat} {w wc : World} {T : TypeId} {a0 a1 a2 a3 a4 : Value} (h : wc.heap[g]? = some (.cells #[a0, a1, a2, a3, a4] T (0, 0))) (hB : Below B w wc) (hg : B ≤ g) (v0 v1 v2 v3 v4 : Value) :
    (((((wc.setCell ⟨g, 0, none⟩ v0).setCell ⟨g, 1, none⟩ v1).setCell ⟨g, 2, none⟩ v2).setCell ⟨g, 3, none⟩ v3).setCell ⟨g, 4, none⟩ v4).heap[g]? = some (.cells #[v0, v1, v2, v3, v4] T (0, 0)) ∧
    Below B w (((((wc.setCell ⟨g, 0, none⟩ v0).setCell ⟨g, 1, none⟩ v1).setCell ⟨g, 2, none⟩ v2).setCell ⟨g, 3, none⟩ v3).setCell ⟨g, 4, none⟩ v4) ∧
    ∀ b, b ≠ g → (((((wc.setCell ⟨g, 0, none⟩ v0).setCell ⟨g, 1, none⟩ v1).setCell ⟨g, 2, none⟩ v2).setCell ⟨g, 3, none⟩ v3).setCell ⟨g, 4, none⟩ v4).heap[b]? = wc.heap[b]? := by
  refine ⟨heap_set_at (heap_set_at (heap_set_at (heap_set_at (heap_set_at h 0 v0) 1 v1) 2 v2) 3 v3) 4 v4, ((((hB.setCell hg _).setCell hg _).setCell hg _).setCell hg _).setCell hg _, fun b hb => ?_⟩
  rw [Below.heap_setCell _ _ _ _ hb, Below.heap_setCell _ _ _ _ hb, Below.heap_setCell _ _ _ _ hb, Below.heap_setCell _ _ _ _ hb, Below.heap_setCell _ _ _ _ hb]
theorem found_size : (Tryz.prog.info? 48).map (·.size) = some 5 := by kernel_rfl
/-- What a call hands back out of a block. -/
theorem found_ret {fn : Func} {p : Tmp} (hf : fn.results = #[.cell p 48]) {R : Ending → World → Prop} {a : Act} {w : World} {g : Nat} {v0 v1 v2 v3 v4 : Value} (hp : a.tmps.getD p undef = .pointer (some ⟨g, 0, none⟩))
    (hd : a.defers = []) (hg : w.heap[g]? = some (.cells #[v0, v1, v2, v3, v4] 48 (0, 0))) (hR : R (.returned (.agg #[v0, v1, v2, v3, v4])) w) : bodyPost Tryz.prog fn R .ret a w :=
  bodyPost_ret_by (results_cell_row hf _ w g _ _ _ _ hp hg Tryz.underlying48 rfl found_size) hd hR

set_option maxRecDepth 100000 in
set_option maxHeartbeats 2000000 in
theorem stands_any (top z : Nat) (apex : ByteArray) (L : List Rec) (n : ByteArray) (hn : n.size ≤ 140737488355328) (t : Int) (ht : (Lit.int .i64 t).wf = true) (o e0 : ByteArray) (wl : Bool) (w : World) (hz : ZoneF w top z apex L) :
    Calls Tryz.prog 62 #[.pointer (some ⟨z, 0, none⟩), .string n, .int .i64 t, .agg #[.int .i64 0, .string o, .string e0, .bool wl, .slice none 0 0]] w fun e w' => NewFnd (zn.standsR L n t o e0 wl) w e w' := by
  have HZ := Lib.hid hz; have HTW := Lib.hid ht
  clear hz ht
  go_enter Tryz.func62, Tryz.ntmps62
  go_wp2_with fail
  refine (at_any top z apex L n hn 5 rfl _ (HZ.out.kept (((Below.refl _ w).alloc (Nat.le_refl _) _).alloc (by simp) _))).mono ?_
  rintro e w2 ⟨v5, rfl, hB2, hown5⟩
  have h7 := (hB2.block w.heap.size (by simp; omega)).trans (heap_alloc_keep (heap_new_at rfl) _)
  have h8 := (hB2.block (w.heap.size + 1) (by simp)).trans (heap_new_at (by simp))
  have hBa : Below w.heap.size w ((w.alloc (.cells #[.int .i64 0, .string o, .string e0, .bool wl, .slice none 0 0] 48)).alloc (.cells #[.int .i64 0, .string ⟨#[]⟩, .string ⟨#[]⟩, .bool false, .slice none 0 0] 48)) :=
    ((Below.refl _ w).alloc (Nat.le_refl _) _).alloc (by simp) _
  have hBw := hBa.trans (hB2.mono (by simp; omega))
  obtain ⟨a5, cap5, rfl, _⟩ := ownsRow_len hown5
  have hw2 : w.heap.size + 2 ≤ w2.heap.size := by
    have h := hB2.size
    simp at h
    omega
  rw [atL_type (by decide)] at hown5
  obtain ⟨m5, hm5⟩ : ∃ m, m = (zn.atL L n 5).length := ⟨_, rfl⟩
  have hm5L : m5 ≤ 2000 := by rw [hm5]; exact Nat.le_trans (atL_len L n 5) HZ.out.small
  rw [← hm5]
  obtain ⟨bb, hbb⟩ : ∃ b, b = (decide (0 < m5) && (!decide (t = 5) && !decide (t = 255))) := ⟨_, rfl⟩
  have HOWN5 := Lib.hid hown5; have HBW := Lib.hid hBw; have H7 := Lib.hid h7; have H8 := Lib.hid h8; have HM5 := Lib.hid hm5; have HBB := Lib.hid hbb
  clear hown5 hBw hBa h7 h8 hB2 hm5 hbb
  go_upto_region 2 with fail
  go_cut [24] (fun s wx => s = .bool bb ∧ wx = w2)
  case first =>
    by_cases h0 : 0 < m5
    · have h0' : (0 : Int) < (m5 : Int) := by omega
      by_cases ht5 : t = 5
      · have b1 : (t != 5) = false := by rw [bne_eq_false_iff_eq]; exact ht5
        have HT5 := Lib.hid ht5
        clear ht5
        go_wp2_with fail
        go_meet
        exact ⟨by rw [HBB.out, decide_eq_true h0, decide_eq_true HT5.out]; rfl, rfl⟩
      · have b1 : (t != 5) = true := by rw [bne_iff_ne]; exact ht5
        by_cases ht255 : t = 255
        · have b2 : (t != 255) = false := by rw [bne_eq_false_iff_eq]; exact ht255
          have HT5 := Lib.hid ht5; have HT255 := Lib.hid ht255
          clear ht5 ht255
          go_wp2_with fail
          go_meet
          exact ⟨by rw [HBB.out, decide_eq_true h0, decide_eq_false HT5.out, decide_eq_true HT255.out]; rfl, rfl⟩
        · have b2 : (t != 255) = true := by rw [bne_iff_ne]; exact ht255
          have HT5 := Lib.hid ht5; have HT255 := Lib.hid ht255
          clear ht5 ht255
          go_wp2_with fail
          go_meet
          exact ⟨by rw [HBB.out, decide_eq_true h0, decide_eq_false HT5.out, decide_eq_false HT255.out]; rfl, rfl⟩
    · have h0' : (m5 : Int) ≤ 0 := by omega
      have H0 := Lib.hid h0
      clear h0
      go_wp2_with fail
      go_meet
      exact ⟨by rw [HBB.out, decide_eq_false H0.out]; rfl, rfl⟩
  case rest =>
  obtain ⟨rfl, rfl⟩ := hcut
  have f70 : wc.frozen? ⟨w.heap.size, 0, none⟩ = false := heap_frozen H7.out 0
  have f74 : wc.frozen? ⟨w.heap.size, 4, none⟩ = false := heap_frozen H7.out 4
  have c70 : wc.cell? ⟨w.heap.size, 0, none⟩ = some (.int .i64 0) := by rw [heap_cell H7.out]; rfl
  have c71 : wc.cell? ⟨w.heap.size, 1, none⟩ = some (.string o) := by rw [heap_cell H7.out]; rfl
  have c72 : wc.cell? ⟨w.heap.size, 2, none⟩ = some (.string e0) := by rw [heap_cell H7.out]; rfl
  have c73 : wc.cell? ⟨w.heap.size, 3, none⟩ = some (.bool wl) := by rw [heap_cell H7.out]; rfl
  have c74 : wc.cell? ⟨w.heap.size, 4, none⟩ = some (.slice none 0 0) := by rw [heap_cell H7.out]; rfl
  have g0 : wc.cell? ⟨w.heap.size + 1, 0, none⟩ = some (.int .i64 0) := by rw [heap_cell H8.out]; rfl
  have g1 : wc.cell? ⟨w.heap.size + 1, 1, none⟩ = some (.string ⟨#[]⟩) := by rw [heap_cell H8.out]; rfl
  have g2 : wc.cell? ⟨w.heap.size + 1, 2, none⟩ = some (.string ⟨#[]⟩) := by rw [heap_cell H8.out]; rfl
  have g3 : wc.cell? ⟨w.heap.size + 1, 3, none⟩ = some (.bool false) := by rw [heap_cell H8.out]; rfl
  have g4 : wc.cell? ⟨w.heap.size + 1, 4, none⟩ = some (.slice none 0 0) := by rw [heap_cell H8.out]; rfl
  have k0 : wc.frozen? ⟨w.heap.size + 1, 0, none⟩ = false := heap_frozen H8.out 0
  have k1 : wc.frozen? ⟨w.heap.size + 1, 1, none⟩ = false := heap_frozen H8.out 1
  have k2 : wc.frozen? ⟨w.heap.size + 1, 2, none⟩ = false := heap_frozen H8.out 2
  have k3 : wc.frozen? ⟨w.heap.size + 1, 3, none⟩ = false := heap_frozen H8.out 3
  have k4 : wc.frozen? ⟨w.heap.size + 1, 4, none⟩ = false := heap_frozen H8.out 4
  cases bb
  · have hW5 : (wc.setCell ⟨w.heap.size, 0, none⟩ (.int .i64 5)).heap.size = wc.heap.size := by simp [World.setCell]
    have hB5 := HBW.out.setCell (p := ⟨w.heap.size, 0, none⟩) (Nat.le_refl _) (.int .i64 5)
    have hno : ¬ (zn.atL L n 5 ≠ [] ∧ t ≠ 5 ∧ t ≠ 255) := fun h => by
      have h1 := HBB.out
      have h2 : 0 < m5 := by rw [HM5.out]; exact List.length_pos_iff.2 h.1
      rw [decide_eq_true h2, decide_eq_false h.2.1, decide_eq_false h.2.2] at h1
      cases h1
    have H70 := Lib.hid (heap_set_at H7.out 0 (.int .i64 5)); have H80 := Lib.hid (heap_set_keep (a := ⟨w.heap.size, 0, none⟩) H8.out (by simp) (.int .i64 5))
    have HNO := Lib.hid hno; have HB5 := Lib.hid hB5
    clear hno hB5
    go_wp2_with fail
    refine (at_any top z apex L n hn t HTW.out _ (HZ.out.kept HB5.out)).mono ?_
    rintro e w6 ⟨v6, rfl, hB6, hown6⟩
    obtain ⟨a6, cap6, rfl, _⟩ := ownsRow_len hown6
    have h7 := (hB6.block w.heap.size (by rw [hW5]; omega)).trans H70.out
    have h8 := (hB6.block (w.heap.size + 1) (by rw [hW5]; omega)).trans H80.out
    have hs6 : w.heap.size + 2 ≤ w6.heap.size := by have := hB6.size; rw [hW5] at this; omega
    have hB6' := HB5.out.trans (hB6.mono (by rw [hW5]; omega))
    obtain ⟨m6, hm6⟩ : ∃ m, m = (zn.atL L n t).length := ⟨_, rfl⟩
    have hm6L : m6 ≤ 2000 := by rw [hm6]; exact Nat.le_trans (atL_len L n t) HZ.out.small
    rw [← hm6] at hown6 ⊢
    simp only [Array.setIfInBounds, List.size_toArray, List.length_cons, List.length_nil] at h7
    have r0 : w6.cell? ⟨w.heap.size, 0, none⟩ = some (.int .i64 5) := by rw [heap_cell h7]; rfl
    have r1 : w6.cell? ⟨w.heap.size, 1, none⟩ = some (.string o) := by rw [heap_cell h7]; rfl
    have r2 : w6.cell? ⟨w.heap.size, 2, none⟩ = some (.string e0) := by rw [heap_cell h7]; rfl
    have r3 : w6.cell? ⟨w.heap.size, 3, none⟩ = some (.bool wl) := by rw [heap_cell h7]; rfl
    have r4 : w6.cell? ⟨w.heap.size, 4, none⟩ = some (.slice none 0 0) := by rw [heap_cell h7]; rfl
    have l0 : w6.frozen? ⟨w.heap.size, 0, none⟩ = false := heap_frozen h7 0
    have l4 : w6.frozen? ⟨w.heap.size, 4, none⟩ = false := heap_frozen h7 4
    have s0 : w6.cell? ⟨w.heap.size + 1, 0, none⟩ = some (.int .i64 0) := by rw [heap_cell h8]; rfl
    have s1 : w6.cell? ⟨w.heap.size + 1, 1, none⟩ = some (.string ⟨#[]⟩) := by rw [heap_cell h8]; rfl
    have s2 : w6.cell? ⟨w.heap.size + 1, 2, none⟩ = some (.string ⟨#[]⟩) := by rw [heap_cell h8]; rfl
    have s3 : w6.cell? ⟨w.heap.size + 1, 3, none⟩ = some (.bool false) := by rw [heap_cell h8]; rfl
    have s4 : w6.cell? ⟨w.heap.size + 1, 4, none⟩ = some (.slice none 0 0) := by rw [heap_cell h8]; rfl
    have n0 : w6.frozen? ⟨w.heap.size + 1, 0, none⟩ = false := heap_frozen h8 0
    have n1 : w6.frozen? ⟨w.heap.size + 1, 1, none⟩ = false := heap_frozen h8 1
    have n2 : w6.frozen? ⟨w.heap.size + 1, 2, none⟩ = false := heap_frozen h8 2
    have n3 : w6.frozen? ⟨w.heap.size + 1, 3, none⟩ = false := heap_frozen h8 3
    have n4 : w6.frozen? ⟨w.heap.size + 1, 4, none⟩ = false := heap_frozen h8 4
    have HOWN6 := Lib.hid hown6; have HB6 := Lib.hid hB6'; have H76 := Lib.hid h7; have H86 := Lib.hid h8; have HM6 := Lib.hid hm6
    clear hown6 hB6' hB6 h7 h8 hm6 f70 f74 c70 c71 c72 c73 c74 g0 g1 g2 g3 g4 k0 k1 k2 k3 k4
    by_cases h6 : 0 < m6
    · have h6' : (0 : Int) < (m6 : Int) := by omega
      have hr : zn.standsR L n t o e0 wl = ⟨1, o, e0, wl, zn.atL L n t⟩ := by
        unfold zn.standsR
        rw [if_neg HNO.out, if_pos (List.length_pos_iff.1 (by rw [← HM6.out]; exact h6))]
      have HR := Lib.hid hr
      clear hr h6
      go_wp2_with fail
      obtain ⟨x1, x2, x3⟩ := fnd_store (B := w.heap.size) (w := w) (heap_set_keep (a := ⟨w.heap.size, 4, none⟩) (heap_set_keep (a := ⟨w.heap.size, 0, none⟩) H86.out (by simp) (.int .i64 1)) (by simp) (.slice a6 m6 cap6))
        ((HB6.out.setCell (p := ⟨w.heap.size, 0, none⟩) (Nat.le_refl _) (.int .i64 1)).setCell (p := ⟨w.heap.size, 4, none⟩) (Nat.le_refl _) (.slice a6 m6 cap6)) (by omega) (.int .i64 1) (.string o) (.string e0) (.bool wl) (.slice a6 m6 cap6)
      refine found_ret rfl rfl rfl x1 ?_
      rw [HR.out]
      refine ⟨_, rfl, x2, ?_⟩
      rw [← HM6.out]
      refine ownsRow_base (ownsRow_keepOne HOWN6.out fun b hb => ?_) (by rw [hW5]; omega)
      have hb2 := (HOWN6.out.lt b hb).1
      rw [hW5] at hb2
      rw [x3 b (by omega), Below.heap_setCell _ _ _ _ (by simp only; omega), Below.heap_setCell _ _ _ _ (by simp only; omega)]
    · have h6' : (m6 : Int) ≤ 0 := by omega
      have hr : zn.standsR L n t o e0 wl = ⟨5, o, e0, wl, []⟩ := by
        unfold zn.standsR
        rw [if_neg HNO.out, if_neg (fun h => h6 (by rw [HM6.out]; exact List.length_pos_iff.2 h))]
      have HR := Lib.hid hr
      clear hr h6
      go_wp2_with fail
      obtain ⟨x1, x2, x3⟩ := fnd_store (B := w.heap.size) (w := w) H86.out HB6.out (by omega) (.int .i64 5) (.string o) (.string e0) (.bool wl) (.slice none 0 0)
      refine found_ret rfl rfl rfl x1 ?_
      rw [HR.out]
      exact ⟨_, rfl, x2, World.ownsRow_nil _ _ _ _⟩
  · have hr : zn.standsR L n t o e0 wl = ⟨2, o, e0, wl, zn.atL L n 5⟩ := by
      unfold zn.standsR
      have h1 := HBB.out
      simp only [Bool.true_eq, Bool.and_eq_true, Bool.not_eq_true', decide_eq_false_iff_not, decide_eq_true_eq] at h1
      rw [if_pos ⟨List.length_pos_iff.1 (by rw [← HM5.out]; exact h1.1), h1.2⟩]
    have HR := Lib.hid hr
    clear hr
    go_wp2_with fail
    obtain ⟨x1, x2, x3⟩ := fnd_store (B := w.heap.size) (w := w) (heap_set_keep (a := ⟨w.heap.size, 4, none⟩) (heap_set_keep (a := ⟨w.heap.size, 0, none⟩) H8.out (by simp) (.int .i64 2)) (by simp) (.slice a5 m5 cap5))
      ((HBW.out.setCell (p := ⟨w.heap.size, 0, none⟩) (Nat.le_refl _) (.int .i64 2)).setCell (p := ⟨w.heap.size, 4, none⟩) (Nat.le_refl _) (.slice a5 m5 cap5)) (by omega) (.int .i64 2) (.string o) (.string e0) (.bool wl) (.slice a5 m5 cap5)
    refine found_ret rfl rfl rfl x1 ?_
    rw [HR.out]
    refine ⟨_, rfl, x2, ?_⟩
    have hown5 := HOWN5.out
    rw [← atL_type (by decide), ← HM5.out] at hown5
    rw [← HM5.out]
    refine ownsRow_base (ownsRow_keepOne hown5 fun b hb => ?_) (by simp; omega)
    have hb2 := (hown5.lt b hb).1
    simp at hb2
    rw [x3 b (by omega), Below.heap_setCell _ _ _ _ (by simp only; omega), Below.heap_setCell _ _ _ _ (by simp only; omega)]
end Go.Proofs.YtpjoaghnciomeaaGreat

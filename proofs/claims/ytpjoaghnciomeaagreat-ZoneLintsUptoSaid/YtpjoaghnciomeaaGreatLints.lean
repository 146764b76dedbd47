/-
  gazetteerlaw3.ZoneLints, walked.
-/
import Derived.Test.YtpjoaghnciomeaaGreatRzH
namespace Go.Proofs.YtpjoaghnciomeaaGreat
open Go.RowKit Go.Shelf Go.WideMaps Go.Proofs.YtpjoaghnciomeaaGreat.nm Go.Proofs.YtpjoaghnciomeaaGreat.od

theorem fdsC_get : ∀ (l : List Fd) (k : Nat) (hk : k < l.length) (j : Nat) (v : Value), (fdC l[k])[j]? = some v → (fdsC l)[k * 4 + j]? = some v
  | f :: l, 0, hk, j, v, h => by
    show (fdC f ++ fdsC l)[0 * 4 + j]? = some v
    rw [List.getElem?_append_left (by have h1 := (List.getElem?_eq_some_iff.1 h).1; have h2 : j < (fdC f).length := h1; omega), Nat.zero_mul, Nat.zero_add]
    exact h
  | f :: l, k + 1, hk, j, v, h => by
    show (fdC f ++ fdsC l)[(k + 1) * 4 + j]? = some v
    have h4 : (fdC f).length = 4 := rfl
    rw [List.getElem?_append_right (by omega), show (k + 1) * 4 + j - (fdC f).length = k * 4 + j by omega]
    exact fdsC_get l k (by simpa using hk) j v h
/-- A finding in memory. -/
def FdAt (w : World) (g k : Nat) (f : Fd) : Prop := w.cell? ⟨g, k * 4, none⟩ = some (.int .i64 f.code) ∧ w.cell? ⟨g, k * 4 + 1, none⟩ = some (.string f.owner) ∧ w.cell? ⟨g, k * 4 + 2, none⟩ = some (.int .i64 f.typ) ∧ w.cell? ⟨g, k * 4 + 3, none⟩ = some (.string f.target)
theorem owns_fd {w : World} {base n cap : Nat} {a : Option Addr} {l : List Fd} (h : w.ownsRow base 64 4 (.slice a n cap) l.length (fdsC l)) {k : Nat} (hk : k < l.length) : ∃ g, a = some ⟨g, 0, none⟩ ∧ FdAt w g k l[k] ∧ l.length ≤ cap := by
  rcases h.2 with ⟨_, h1⟩ | ⟨g, cap', cur, hv, hb, hg, hn, rest⟩
  · omega
  · simp only [Value.slice.injEq] at hv
    obtain ⟨rfl, rfl, rfl⟩ := hv
    have hcl : ∀ j u, (fdsC l)[j]? = some u → w.cell? ⟨g, j, none⟩ = some u := fun j u hu => by
      have := h.cells (g := g) rfl j u hu
      rw [Addr.add_lit, Nat.zero_add] at this
      exact this
    have hat : ∀ j v, (fdC l[k])[j]? = some v → w.cell? ⟨g, k * 4 + j, none⟩ = some v := fun j v hv => hcl _ _ (fdsC_get l k hk j v hv)
    exact ⟨g, rfl, ⟨hat 0 _ rfl, hat 1 _ rfl, hat 2 _ rfl, hat 3 _ rfl⟩, hn⟩

set_option maxRecDepth 100000 in
set_option maxHeartbeats 8000000 in
theorem lints_any (apex : ByteArray) (hapz : apex.size ≤ 1099511627776) (l : List Rec) (hok : ∀ r ∈ l, (Lit.int .i64 r.typ).wf = true) (_hl : l.length ≤ 1048576) (hsz : ∀ r ∈ l, r.owner.size ≤ 1099511627776) (a : Option Addr) (cap : Nat) (hf : SliceForm (.slice a l.length cap))
    (w : World) (hrv : RecsAt w (.slice a l.length cap) l) :
    Calls Tryz.prog 9 #[.string apex, .slice a l.length cap] w fun e w' => e = .returned (.bool true) ∧ Below w.heap.size w w' := by
  have hnew := new_any apex l hok _ hf w hrv
  have hmake := fun W (hB : Below w.heap.size w W) => rmake_any apex hapz l hsz _ hf W (hrv.below hB)
  have HNEW := Lib.hid hnew; have HMAKE := Lib.hid hmake; have HOK := Lib.hid hok; have HSZ := Lib.hid hsz; have HRV := Lib.hid hrv
  clear hnew hmake hok hsz hrv
  go_enter Tryz.func9, Tryz.ntmps9
  go_wp2_with fail
  refine HNEW.out.mono ?_
  intro e w1 hp
  rcases hne : zn.newE apex l with _ | ⟨k0, c0⟩
  · obtain ⟨hB1, z, L, _, hs, rfl, hzf⟩ := newPost_zone hp hne
    have hva0 := zn.valid_of hne
    have hva : zn.Valid apex L := zn.valid_of (zn.newE_of hs.1.symm hne)
    have hHM := HMAKE.out w1 hB1
    have HB1 := Lib.hid hB1; have HZ1 := Lib.hid hzf; have HVA := Lib.hid hva; have HVA0 := Lib.hid hva0; have HS := Lib.hid hs; have HM := Lib.hid hHM; have HNE := Lib.hid hne
    have hs1 := hB1.size
    clear hp hB1 hzf hva hva0 hs hHM hne
    go_wp2_with fail
    refine HM.out.mono ?_
    rintro e w2 ⟨hB2, hm⟩
    rw [HNE.out] at hm
    obtain ⟨y, L', hs', rfl, hy⟩ := hm
    obtain rfl : L' = L := hs'.eq HS.out HVA0.out.named (zn.uniq_of (zn.distinct_of (zn.rules_twice HVA0.out.rules)))
    have HB2 := Lib.hid (HB1.out.trans (hB2.mono hs1)); have HZ2 := Lib.hid (HZ1.out.kept hB2); have HY2 := Lib.hid hy
    have hs2 := HB2.out.size
    clear hB2 hs' hy
    obtain ⟨D, hD⟩ : ∃ D, D = zn.lintR apex L' := ⟨_, rfl⟩
    have hDl : D.length ≤ 2001 := by
      have h1 := zn.lintTo_len apex L' L'.length (Nat.le_refl _)
      have h2 := HVA.out.small
      rw [zn.lintTo_all, ← hD] at h1
      omega
    have hl1 := lint_any w1.heap.size z apex L' HVA.out w2 HZ2.out
    have hl2 := fun W (hB : Below w2.heap.size w2 W) => rlint_any y apex L' HVA.out W (HY2.out.below hB)
    rw [← hD] at hl1 hl2
    have HL1 := Lib.hid hl1; have HL2 := Lib.hid hl2; have HD := Lib.hid hD
    clear hl1 hl2 hD
    go_wp2_with fail
    refine (HL1.out).mono ?_
    rintro e w3 ⟨v3, rfl, hB3, hown3⟩
    have hs3 : w2.heap.size ≤ w3.heap.size := hB3.size
    obtain ⟨a3, c3, rfl, _⟩ := ownsRow_len hown3
    have HB3 := Lib.hid hB3; have HOWN3 := Lib.hid hown3
    clear hB3 hown3
    go_wp2_with fail
    refine (HL2.out w3 HB3.out).mono ?_
    rintro e w4 ⟨v4, rfl, hB4, hown4⟩
    obtain ⟨a4, c4, rfl, _⟩ := ownsRow_len hown4
    have hown34 := ownsRow_below HOWN3.out hB4
    have HB4 := Lib.hid (HB2.out.trans ((HB3.out.trans (hB4.mono hs3)).mono hs2))
    have hs4 := HB4.out.size
    have hlen : ((D.length : Int) != (D.length : Int)) = false := by rw [bne_eq_false_iff_eq]
    clear hB4
    have HOWN4 := Lib.hid hown4; have HOWN34 := Lib.hid hown34
    clear hown4 hown34
    go_wp2_with fail
    clear hlen
    go_loopw [51, 13] (fun kv _ wr => ∃ k : Nat, k ≤ D.length ∧ kv = .int .i64 (k : Int) ∧ Below w4.heap.size w4 wr) (fun kv _ _ => D.length - (intOf kv).toNat)
    case atStart => exact ⟨0, Nat.zero_le _, rfl, Below.refl _ _⟩
    case round =>
      obtain ⟨k, hk, rfl, hB⟩ := hrel
      have hsr := hB.size
      by_cases hlt : k < D.length
      · obtain ⟨g, rfl, ⟨c0, c1, c2, c3⟩, hc⟩ := owns_fd (ownsRow_below HOWN34.out hB) hlt
        obtain ⟨g', rfl, ⟨d0, d1, d2, d3⟩, hd⟩ := owns_fd (ownsRow_below HOWN4.out hB) hlt
        have hki : (k : Int) < (D.length : Int) := by omega
        obtain ⟨f, hf⟩ : ∃ f, f = D[k] := ⟨_, rfl⟩
        rw [← hf] at c0 c1 c2 c3 d0 d1 d2 d3
        clear hf
        have HB := Lib.hid hB
        clear hB
        have e0 := gw_cell c0; have e1 := gw_cell c1; have e2 := gw_cell c2; have e3 := gw_cell c3
        have f0 := gw_cell d0; have f1 := gw_cell d1; have f2 := gw_cell d2; have f3 := gw_cell d3
        go_upto_region 13 with fail
        clear c0 c1 c2 c3 d0 d1 d2 d3
        refine wp_region_gw (by kernel_rfl) (by kernel_rfl) ?_
        repeat (with_reducible refine wpQuiet_step (fun K hK => ?_); go_simp; (try simp only [undef]); first | (with_reducible refine hK _ ?_; clear hK K))
        refine wpQuiet_nil ?_
        (try simp only [show Value.tuple #[] = undef from rfl])
        intro W hW
        have hBW : Below wr.heap.size wr W := by obtain ⟨g, rfl⟩ := hW; exact gw_below _ g
        clear hW
        have HBW := Lib.hid (HB.out.trans (hBW.mono HB.out.size))
        clear e0 e1 e2 e3 f0 f1 f2 f3 hBW
        go_wp2_with fail
        go_roundw
        case rel => exact ⟨k + 1, by omega, by go_num, HBW.out⟩
        case measure => simp [intOf]; omega
      · obtain rfl : k = D.length := by omega
        have HBE := Lib.hid (HB4.out.trans (hB.mono hs4))
        clear hB
        go_wp2_with fail
        go_ret
        exact ⟨rfl, HBE.out⟩
  · obtain ⟨hB1, rfl⟩ := newPost_bad hp hne
    have hHM := HMAKE.out w1 hB1
    have HB1 := Lib.hid hB1; have HM := Lib.hid hHM; have HNE := Lib.hid hne
    clear hp hB1 hHM hne
    go_wp2_with fail
    refine HM.out.mono ?_
    rintro e w2 ⟨hB2, hm⟩
    rw [HNE.out] at hm
    obtain rfl := hm
    have HB2 := Lib.hid (HB1.out.trans (hB2.mono HB1.out.size))
    clear hB2
    go_wp2_with fail
    go_ret
    exact ⟨rfl, HB2.out⟩
end Go.Proofs.YtpjoaghnciomeaaGreat

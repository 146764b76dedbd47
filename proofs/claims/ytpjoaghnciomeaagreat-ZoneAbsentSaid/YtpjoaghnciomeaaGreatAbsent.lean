/-
  gazetteerlaw3.ZoneAbsent: its walk.
-/
import Derived.Test.YtpjoaghnciomeaaGreatGives
namespace Go.Proofs.YtpjoaghnciomeaaGreat
open Go.RowKit Go.Shelf Go.WideMaps Go.Proofs.YtpjoaghnciomeaaGreat.nm Go.Proofs.YtpjoaghnciomeaaGreat.od

set_option maxRecDepth 100000 in
set_option maxHeartbeats 4000000 in
theorem absent_any (apex : ByteArray) (l : List Rec) (hok : ∀ r ∈ l, (Lit.int .i64 r.typ).wf = true) (a : Option Addr) (cap : Nat) (hf : SliceForm (.slice a l.length cap)) (q : ByteArray) (t : Int) (ht : (Lit.int .i64 t).wf = true) (w : World) (hrv : RecsAt w (.slice a l.length cap) l) :
    Calls Tryz.prog 7 #[.string apex, .slice a l.length cap, .string q, .int .i64 t] w fun e w' => e = .returned (.bool true) ∧ Below w.heap.size w w' := by
  have HN := Lib.hid (new_any apex l hok _ hf w hrv)
  have HRV := Lib.hid hrv; have HTW := Lib.hid ht
  clear hrv hok hf ht
  go_enter Tryz.func7, Tryz.ntmps7
  go_wp2_with fail
  refine HN.out.mono ?_
  intro e w1 hp
  rcases hne : zn.newE apex l with _ | ⟨k, c⟩
  · obtain ⟨hB1, z, L, hz, hs, rfl, hzf⟩ := newPost_zone hp hne
    have hva : zn.Valid apex L := zn.valid_of (zn.newE_of hs.1.symm hne)
    have HB1 := Lib.hid hB1; have HZ := Lib.hid hzf; have HVA := Lib.hid hva; have HPM := Lib.hid hs.1
    clear hp hne hB1 hs hzf hz hva HN
    go_wp2_with fail
    refine (begins_any _).mono ?_
    rintro e w2 ⟨rfl, hB2⟩
    have HB2 := Lib.hid (HB1.out.trans (hB2.mono HB1.out.size)); have HZ2 := Lib.hid (HZ.out.kept hB2)
    have hlL : l.length ≤ 2000 := by rw [← HPM.out.length_eq]; exact HZ.out.small
    have hs2 := HB2.out.size
    clear hB2
    go_wp2_with fail
    refine (find_any w1.heap.size z apex L q t HTW.out w2 HZ2.out).mono ?_
    rintro e w3 ⟨v3, rfl, hB3, hown3⟩
    obtain ⟨f, hfe⟩ : ∃ f, f = zn.findR apex L q t := ⟨_, rfl⟩
    have hG : ∀ r ∈ L, zn.signsB r = false → _ := fun r hr hs => zn.absent HVA.out q t hr hs
    rw [← hfe] at hown3 hG ⊢
    obtain ⟨a3, cap3, rfl, _⟩ := ownsRow_len hown3
    have hs3 := hB3.size
    obtain ⟨m, hm⟩ : ∃ m, m = f.recs.length := ⟨_, rfl⟩
    rw [← hm]
    obtain ⟨wf, hwf⟩ : ∃ X, X = w3.alloc (.cells #[.int .i64 f.kind, .string f.owner, .string f.encl, .bool f.wild, .slice a3 m cap3] 48) := ⟨_, rfl⟩
    have hBf : Below w3.heap.size w3 wf := by rw [hwf]; exact (Below.refl _ _).alloc (Nat.le_refl _) _
    have hfb : wf.heap[w3.heap.size]? = some (.cells #[.int .i64 f.kind, .string f.owner, .string f.encl, .bool f.wild, .slice a3 m cap3] 48 (0, 0)) := by rw [hwf]; exact heap_new_at rfl
    have hsf : wf.heap.size = w3.heap.size + 1 := by rw [hwf]; simp
    have HBF := Lib.hid (HB2.out.trans ((hB3.mono (by omega)).trans (hBf.mono (by omega))))
    have HWF := Lib.hid hwf; have HFB := Lib.hid hfb; have HG := Lib.hid hG
    clear hfe hG hm hown3 hBf hfb hwf hB3
    go_upto_region 7 with fail
    rw [← HWF.out]
    have hsw := HBF.out.size
    go_wp2_with fail
    go_loopw [34, 14] (fun kv _ wr => ∃ k : Nat, k ≤ l.length ∧ kv = .int .i64 (k : Int) ∧ Below wf.heap.size wf wr) (fun kv _ _ => l.length - (intOf kv).toNat)
    case atStart => exact ⟨0, Nat.zero_le _, rfl, Below.refl _ _⟩
    case round =>
      obtain ⟨k, hk, rfl, hB⟩ := hrel
      obtain ⟨wo, hwo⟩ : ∃ wo : World, wo = wr := ⟨_, rfl⟩
      subst hwo
      have hsr := hB.size
      by_cases hlt : k < l.length
      · obtain ⟨a', cap', hv, _, hr⟩ := RecsAt.below HRV.out (HBF.out.trans (hB.mono hsw))
        simp only [Value.slice.injEq, true_and] at hv
        obtain ⟨rfl, rfl⟩ := hv
        obtain ⟨b, off, rfl, hbl, c0, c1, c2, c3, c4⟩ := hr k hlt
        clear hr
        obtain ⟨x, hx⟩ : ∃ x, x = l[k] := ⟨_, rfl⟩
        have hxm : x ∈ L := HPM.out.mem_iff.2 (by rw [hx]; exact List.getElem_mem hlt)
        rw [← hx] at c0 c1 c2 c3 c4
        obtain ⟨wx, hwx⟩ : ∃ X, X = wo.alloc (.cells (recC x).toArray 53) := ⟨_, rfl⟩
        have hBx : Below wf.heap.size wf wx := by rw [hwx]; exact hB.alloc hsr _
        have hxb : wx.heap[wo.heap.size]? = some (.cells (recC x).toArray 53 (0, 0)) := by rw [hwx]; exact heap_new_at rfl
        have hsx : wx.heap.size = wo.heap.size + 1 := by rw [hwx]; simp
        obtain ⟨x0, x1, x2, x3, x4, _, _, _, _, _⟩ := found_facts hxb
        have HWX := Lib.hid hwx; have HBX := Lib.hid hBx; have HXB := Lib.hid hxb; have HXM := Lib.hid hxm
        clear hx hwx hBx hxb hxm hB
        go_upto_region 10 with fail
        rw [← HWX.out]
        clear c0 c1 c2 c3 c4
        go_wp2_with fail
        refine (rcounts_any x wx).mono ?_
        rintro e w4 ⟨rfl, hB4⟩
        have hs4 := hB4.size
        have hxb := (hB4.block _ (by omega)).trans HXB.out
        have hB4' := HBX.out.trans (hB4.mono (by omega))
        have hfb := (hB4'.block _ (by omega)).trans HFB.out
        have HB4 := Lib.hid hB4'; have HXB := Lib.hid hxb; have HFB4 := Lib.hid hfb
        clear x0 x1 x2 x3 x4 hB4 hB4' hxb hfb
        cases hsg : zn.signsB x
        · have hg := HG.out x HXM.out hsg
          obtain ⟨g1, g2, g3⟩ := hg
          have G1 := Lib.hid g1; have G2 := Lib.hid g2; have G3 := Lib.hid g3
          clear g1 g2 g3 hsg
          obtain ⟨x0, x1, x2, x3, x4, _, _, _, _, _⟩ := found_facts HXB.out
          obtain ⟨p0, p1, p2, p3, p4, _, _, _, _, _⟩ := found_facts HFB4.out
          have e0 := gw_cell x0; have q0 := gw_cell p0; have q2 := gw_cell p2
          go_upto_region 11 with fail
          go_cut [57] (fun s wx' => s = .bool false ∧ Below w4.heap.size w4 wx')
          case first =>
            clear x0 x1 x2 x3 x4 p0 p1 p2 p3 p4
            by_cases h6 : f.kind = 6
            · have b6 : (f.kind == 6) = true := by rw [beq_iff_eq]; exact h6
              have i1 : withinB x.owner q = false := by
                cases h : withinB x.owner q
                · rfl
                · exact absurd ⟨h6, .inl h⟩ G1.out
              have i2 : withinB x.owner (starS f.encl) = false := by
                cases h : withinB x.owner (starS f.encl)
                · rfl
                · exact absurd ⟨h6, .inr h⟩ G1.out
              clear h6
              refine wp_region_gw (by kernel_rfl) (by kernel_rfl) ?_
              repeat (with_reducible refine wpQuiet_step (fun K hK => ?_); go_simp; (try simp only [undef]); first | (with_reducible refine hK _ ?_; clear hK K) | (apply Exists.intro; refine ⟨fun _ => ?_, hK _ ?_⟩; (first | (go_at_call 32; exact calls_gw (within_any _ _ _)) | (go_at_call 33; exact calls_gw (star_any _ _)) | (go_at_call 35; exact calls_gw (count_any _ _)) | (go_at_call 34; exact calls_gw (tail_any _ _ _))); clear hK K))
              with_reducible refine wpQuiet_nil ?_
              intro W hW
              have hBW : Below w4.heap.size w4 W := by obtain ⟨p, rfl⟩ := hW; exact gw_below _ p
              have HBW := Lib.hid hBW
              clear hW hBW e0 q0 q2
              go_wp2_with fail
              go_meet
              exact ⟨rfl, HBW.out⟩
            · have b6 : (f.kind == 6) = false := by rw [beq_eq_false_iff_ne]; exact h6
              clear h6
              refine wp_region_gw (by kernel_rfl) (by kernel_rfl) ?_
              repeat (with_reducible refine wpQuiet_step (fun K hK => ?_); go_simp; (try simp only [undef]); first | (with_reducible refine hK _ ?_; clear hK K) | (apply Exists.intro; refine ⟨fun _ => ?_, hK _ ?_⟩; (first | (go_at_call 32; exact calls_gw (within_any _ _ _)) | (go_at_call 33; exact calls_gw (star_any _ _)) | (go_at_call 35; exact calls_gw (count_any _ _)) | (go_at_call 34; exact calls_gw (tail_any _ _ _))); clear hK K))
              with_reducible refine wpQuiet_nil ?_
              intro W hW
              have hBW : Below w4.heap.size w4 W := by obtain ⟨p, rfl⟩ := hW; exact gw_below _ p
              have HBW := Lib.hid hBW
              clear hW hBW e0 q0 q2
              go_wp2_with fail
              go_meet
              exact ⟨rfl, HBW.out⟩
          case rest =>
          obtain ⟨rfl, hBc⟩ := hcut
          have hsc := hBc.size
          have hxb := (hBc.block _ (by omega)).trans HXB.out
          have hfb := (hBc.block _ (by have := HB4.out.size; omega)).trans HFB4.out
          have HBC := Lib.hid (HB4.out.trans (hBc.mono (by have := HB4.out.size; omega))); have HXC := Lib.hid hxb; have HFC := Lib.hid hfb
          clear hBc hxb hfb e0 q0 q2 x0 x1 x2 x3 x4 p0 p1 p2 p3 p4
          obtain ⟨x0, x1, x2, x3, x4, _, _, _, _, _⟩ := found_facts HXC.out
          obtain ⟨p0, p1, p2, p3, p4, _, _, _, _, _⟩ := found_facts HFC.out
          go_upto_region 13 with fail
          go_cut [81] (fun s wx' => s = .bool false ∧ Below wc.heap.size wc wx')
          case first =>
            by_cases h5 : f.kind = 5
            · have b5 : (f.kind == 5) = true := by rw [beq_iff_eq]; exact h5
              cases hwl : f.wild
              · rw [hwl] at p3
                have HWL := Lib.hid hwl; have H5 := Lib.hid h5
                clear h5 hwl
                go_wp2_with fail
                refine (equal_any _ _ _).mono ?_
                rintro e w5 ⟨rfl, hB5⟩
                have hxb := (hB5.block _ (by omega)).trans HXC.out
                obtain ⟨x0, x1, x2, x3, x4, _, _, _, _, _⟩ := found_facts hxb
                have HB5 := Lib.hid hB5
                clear hB5 hxb
                cases he : equalB x.owner q
                · clear he
                  go_wp2_with fail
                  go_meet
                  exact ⟨rfl, HB5.out⟩
                · have d1 : (x.typ == t) = false := by
                    rw [beq_eq_false_iff_ne]
                    exact fun h => G2.out ⟨H5.out, HWL.out, he, .inl h⟩
                  have d2 : (t == 255) = false := by
                    rw [beq_eq_false_iff_ne]
                    exact fun h => G2.out ⟨H5.out, HWL.out, he, .inr h⟩
                  clear he
                  go_wp2_with fail
                  go_meet
                  exact ⟨rfl, HB5.out⟩
              · rw [hwl] at p3
                clear h5 hwl
                go_wp2_with fail
                go_meet
                exact ⟨rfl, Below.refl _ _⟩
            · have b5 : (f.kind == 5) = false := by rw [beq_eq_false_iff_ne]; exact h5
              clear h5
              go_wp2_with fail
              go_meet
              exact ⟨rfl, Below.refl _ _⟩
          case rest =>
          obtain ⟨rfl, hBd⟩ := hcut
          have hsd := hBd.size
          have hsf0 := HBC.out.size
          have hxb := (hBd.block _ (by omega)).trans HXC.out
          have hfb := (hBd.block _ (by omega)).trans HFC.out
          have HBD := Lib.hid (HBC.out.trans (hBd.mono (by omega)))
          clear x0 x1 x2 x3 x4 p0 p1 p2 p3 p4
          obtain ⟨x0, x1, x2, x3, x4, _, _, _, _, _⟩ := found_facts hxb
          obtain ⟨p0, p1, p2, p3, p4, _, _, _, _, _⟩ := found_facts hfb
          obtain ⟨we, hwe⟩ : ∃ X : World, X = wc := ⟨_, rfl⟩
          subst hwe
          clear hxb hfb hBd
          go_upto_region 15 with fail
          go_cut [100] (fun s wx' => s = .bool false ∧ Below we.heap.size we wx')
          case first =>
            cases hwl : f.wild
            · rw [hwl] at p3
              have e0 := gw_cell x0; have q2 := gw_cell p2; have q3 := gw_cell p3
              clear hwl x0 x1 x2 x3 x4 p0 p1 p2 p3 p4
              refine wp_region_gw (by kernel_rfl) (by kernel_rfl) ?_
              repeat (with_reducible refine wpQuiet_step (fun K hK => ?_); go_simp; (try simp only [undef]); first | (with_reducible refine hK _ ?_; clear hK K) | (apply Exists.intro; refine ⟨fun _ => ?_, hK _ ?_⟩; (first | (go_at_call 32; exact calls_gw (within_any _ _ _)) | (go_at_call 33; exact calls_gw (star_any _ _)) | (go_at_call 35; exact calls_gw (count_any _ _)) | (go_at_call 34; exact calls_gw (tail_any _ _ _))); clear hK K))
              with_reducible refine wpQuiet_nil ?_
              intro W hW
              have hBW : Below we.heap.size we W := by obtain ⟨p, rfl⟩ := hW; exact gw_below _ p
              have HBW := Lib.hid hBW
              clear hW hBW e0 q2 q3
              go_wp2_with fail
              go_meet
              exact ⟨rfl, HBW.out⟩
            · rw [hwl] at p3
              have e0 := gw_cell x0; have q2 := gw_cell p2; have q3 := gw_cell p3
              have hce := countI_le f.encl
              have hce0 := countI_ge f.encl
              have hwr : IntKind.i64.wrap (countI f.encl + 1) = countI f.encl + 1 := by rw [IntKind.wrap_i64]; omega
              have HWR := Lib.hid hwr
              clear hwr
              have i1 : withinB x.owner q = false := by
                cases h : withinB x.owner q
                · rfl
                · exact absurd ⟨hwl, .inl h⟩ G3.out
              have i2 : withinB x.owner (tailS q (countI f.encl + 1)) = false := by
                cases h : withinB x.owner (tailS q (countI f.encl + 1))
                · rfl
                · exact absurd ⟨hwl, .inr h⟩ G3.out
              clear hwl x0 x1 x2 x3 x4 p0 p1 p2 p3 p4
              refine wp_region_gw (by kernel_rfl) (by kernel_rfl) ?_
              repeat (with_reducible refine wpQuiet_step (fun K hK => ?_); go_simp; (try simp only [undef]); first | (with_reducible refine hK _ ?_; clear hK K) | (apply Exists.intro; refine ⟨fun _ => ?_, hK _ ?_⟩; (first | (go_at_call 32; exact calls_gw (within_any _ _ _)) | (go_at_call 33; exact calls_gw (star_any _ _)) | (go_at_call 35; exact calls_gw (count_any _ _)) | (go_at_call 34; exact calls_gw (tail_any _ _ _))); clear hK K))
              with_reducible refine wpQuiet_nil ?_
              intro W hW
              have hBW : Below we.heap.size we W := by obtain ⟨p, rfl⟩ := hW; exact gw_below _ p
              have HBW := Lib.hid hBW
              clear hW hBW e0 q2 q3
              go_wp2_with fail
              go_meet
              exact ⟨by rw [HWR.out, i2], HBW.out⟩
          case rest =>
          obtain ⟨rfl, hBe⟩ := hcut
          have HBE := Lib.hid (HBD.out.trans (hBe.mono (by have := HBD.out.size; omega)))
          clear hBe x0 x1 x2 x3 x4 p0 p1 p2 p3 p4
          go_wp2_with fail
          go_roundw
          case rel => exact ⟨k + 1, by omega, by go_num, HBE.out⟩
          case measure => simp [intOf]; omega
        · clear hsg
          go_wp2_with fail
          go_roundw
          case rel => exact ⟨k + 1, by omega, by go_num, HB4.out⟩
          case measure => simp [intOf]; omega
      · have HBE := Lib.hid (HBF.out.trans (hB.mono hsw))
        have hlt' : (l.length : Int) ≤ (k : Int) := by omega
        clear hB hlt
        go_wp2_with fail
        go_ret
        exact ⟨rfl, HBE.out⟩
  · obtain ⟨hB1, rfl⟩ := newPost_bad hp hne
    have hc := zn.newE_code hne
    have b1 : (c != 0) = true := by rw [bne_iff_ne]; exact hc
    have HB1 := Lib.hid hB1
    clear hp hne hc hB1 HN
    go_wp2_with fail
    refine (begins_any _).mono ?_
    rintro e w2 ⟨rfl, hB2⟩
    have HB2 := Lib.hid (HB1.out.trans (hB2.mono HB1.out.size))
    clear hB2
    go_wp2_with fail
    go_ret
    exact ⟨rfl, HB2.out⟩
end Go.Proofs.YtpjoaghnciomeaaGreat

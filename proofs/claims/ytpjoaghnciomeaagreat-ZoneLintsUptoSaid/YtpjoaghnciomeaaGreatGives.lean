/-
  gazetteerlaw3.ZoneGives: its walk.
-/
import Derived.Test.YtpjoaghnciomeaaGreatSerial
namespace Go.Proofs.YtpjoaghnciomeaaGreat
open Go.RowKit Go.Shelf Go.WideMaps Go.Proofs.YtpjoaghnciomeaaGreat.nm Go.Proofs.YtpjoaghnciomeaaGreat.od
attribute [local go_sem] rec_if

namespace zn
/-- Does a record of the list tell what was found? -/
def tells (f : Fnd) (q : ByteArray) (y x : Rec) : Bool :=
  if f.wild = true then equalB x.owner f.owner && decide (x.typ = y.typ) && (x.data.toList == y.data.toList) && decide (x.ttl = y.ttl) && (y.owner.toList == q.toList) else decide (x = y) && withinB q x.owner
theorem newE_code {apex : ByteArray} {l : List Rec} {k c : Int} (h : newE apex l = some (k, c)) : c ≠ 0 := by
  unfold newE at h
  split at h
  · cases h; decide
  · split at h
    · cases h; decide
    · split at h
      · rename_i e he
        cases h
        unfold plainR at he
        split at he
        · cases he; decide
        · split at he
          · cases he; decide
          · cases he
      · unfold rulesR at h
        repeat' (split at h)
        all_goals (first | (cases h; done) | (cases h; decide))
theorem tells_some {apex : ByteArray} {L l : List Rec} (hv : Valid apex L) (hp : L.Perm l) (q : ByteArray) (t : Int) : ∀ y ∈ (findR apex L q t).recs, l.any (tells (findR apex L q t) q y) = true := by
  intro y hy
  rw [List.any_eq_true]
  rcases gives2 hv q t y hy with ⟨hw, r, hr, he, rfl⟩ | ⟨hw, hm, hwi⟩
  · refine ⟨r, hp.mem_iff.1 hr, ?_⟩
    unfold tells
    rw [if_pos hw, he]
    simp
  · refine ⟨y, hp.mem_iff.1 hm, ?_⟩
    unfold tells
    rw [if_neg (by rw [hw]; simp), hwi]
    simp
end zn
theorem find_len (apex : ByteArray) (L : List Rec) (q : ByteArray) (t : Int) : (zn.findR apex L q t).recs.length ≤ L.length := by
  by_cases hw : withinB q apex = true ∧ 1 ≤ t ∧ t ≤ 65535
  · obtain ⟨x, a, hx⟩ := zn.ask_in hw.1
    rcases zn.find_cases apex L q t hw.1 hx hw.2 with ⟨k, _, _, h⟩ | h
    · rcases (zn.stop_kind h).2 with g | g
      · rw [g.2]; exact rowsS_len _ _
      · rw [g.2]; exact rowsS_len _ _
    · rw [h]
      unfold zn.restR
      split
      · exact stands_len _ _ _ _ _ _
      · split
        · show (zn.owned q _).length ≤ _
          unfold zn.owned
          rw [List.length_map]
          exact stands_len _ _ _ _ _ _
        · exact Nat.zero_le _
  · rw [zn.findR_out hw]; exact Nat.zero_le _

set_option maxRecDepth 100000 in
set_option maxHeartbeats 4000000 in
theorem gives_any (apex : ByteArray) (l : List Rec) (hok : ∀ r ∈ l, (Lit.int .i64 r.typ).wf = true) (a : Option Addr) (cap : Nat) (hf : SliceForm (.slice a l.length cap)) (q : ByteArray) (t : Int) (ht : (Lit.int .i64 t).wf = true) (w : World) (hrv : RecsAt w (.slice a l.length cap) l) :
    Calls Tryz.prog 6 #[.string apex, .slice a l.length cap, .string q, .int .i64 t] w fun e w' => e = .returned (.bool true) ∧ Below w.heap.size w w' := by
  have HN := Lib.hid (new_any apex l hok _ hf w hrv)
  have HRV := Lib.hid hrv; have HOK := Lib.hid hok; have HTW := Lib.hid ht
  clear hrv hok hf ht
  go_enter Tryz.func6, Tryz.ntmps6
  go_wp2_with fail
  refine HN.out.mono ?_
  intro e w1 hp
  rcases hne : zn.newE apex l with _ | ⟨k, c⟩
  · obtain ⟨hB1, z, L, hz, hs, rfl, hzf⟩ := newPost_zone hp hne
    have hva : zn.Valid apex L := zn.valid_of (zn.newE_of hs.1.symm hne)
    have HB1 := Lib.hid hB1; have HZ := Lib.hid hzf; have HVA := Lib.hid hva; have HPM := Lib.hid hs.1
    clear hp hne hB1 hs hzf hz hva HN
    go_wp2_with fail
    refine (begins_any _).mono ?_
    rintro e w2 ⟨rfl, hB2⟩
    have HB2 := Lib.hid (HB1.out.trans (hB2.mono HB1.out.size)); have HZ2 := Lib.hid (HZ.out.kept hB2)
    have hlL : l.length ≤ 2000 := by rw [← HPM.out.length_eq]; exact HZ.out.small
    clear hB2
    go_wp2_with fail
    go_loopw [39, 13, 14, 15, 17] (fun kv _ _ _ _ wr => ∃ k : Nat, k ≤ l.length ∧ kv = .int .i64 (k : Int) ∧ Below w2.heap.size w2 wr) (fun kv _ _ _ _ _ => l.length - (intOf kv).toNat)
    case atStart => exact ⟨0, Nat.zero_le _, rfl, Below.refl _ _⟩
    case round =>
      obtain ⟨k, hk, rfl, hB⟩ := hrel
      obtain ⟨wo, hwo⟩ : ∃ wo : World, wo = wr := ⟨_, rfl⟩
      subst hwo
      have hsr := hB.size
      have hs2 := HB2.out.size
      by_cases hlt : k < l.length
      · obtain ⟨a', cap', hv, _, hr⟩ := RecsAt.below HRV.out (HB2.out.trans (hB.mono hs2))
        simp only [Value.slice.injEq, true_and] at hv
        obtain ⟨rfl, rfl⟩ := hv
        obtain ⟨b, off, rfl, hbl, c0, c1, c2, c3, c4⟩ := hr k hlt
        clear hr
        obtain ⟨x, hx⟩ : ∃ x, x = l[k] := ⟨_, rfl⟩
        have hxm : x ∈ L := HPM.out.mem_iff.2 (by rw [hx]; exact List.getElem_mem hlt)
        have hxo : (Lit.int .i64 x.typ).wf = true := HOK.out x (by rw [hx]; exact List.getElem_mem hlt)
        rw [← hx] at c0 c1 c2 c3 c4
        obtain ⟨wx, hwx⟩ : ∃ X, X = wo.alloc (.cells (recC x).toArray 53) := ⟨_, rfl⟩
        have hBx : Below wo.heap.size wo wx := by rw [hwx]; exact (Below.refl _ _).alloc (Nat.le_refl _) _
        have hxb : wx.heap[wo.heap.size]? = some (.cells (recC x).toArray 53 (0, 0)) := by rw [hwx]; exact heap_new_at rfl
        have hsx : wx.heap.size = wo.heap.size + 1 := by rw [hwx]; simp
        have x0 : wx.cell? ⟨wo.heap.size, 0, none⟩ = some (.string x.owner) := by rw [heap_cell hxb]; rfl
        have x1 : wx.cell? ⟨wo.heap.size, 1, none⟩ = some (.int .i64 x.typ) := by rw [heap_cell hxb]; rfl
        have HWX := Lib.hid hwx; have HBX := Lib.hid (hB.trans (hBx.mono hsr)); have HXB := Lib.hid hxb; have HXM := Lib.hid hxm; have HXO := Lib.hid hxo
        clear hx hwx hBx hxb hxm hxo hB
        go_wp2_with fail
        rw [← HWX.out]
        refine (find_any w1.heap.size z apex L x.owner x.typ HXO.out wx (HZ2.out.kept HBX.out)).mono ?_
        rintro e w3 ⟨v3, rfl, hB3, hown3⟩
        obtain ⟨f, hfe⟩ : ∃ f, f = zn.findR apex L x.owner x.typ := ⟨_, rfl⟩
        have hG := zn.gives1 HVA.out HXM.out
        rw [← hfe] at hown3 hG ⊢
        obtain ⟨a3, cap3, rfl, _⟩ := ownsRow_len hown3
        obtain ⟨m, hm⟩ : ∃ m, m = f.recs.length := ⟨_, rfl⟩
        have hmL : m ≤ 2000 := by rw [hm, hfe]; exact Nat.le_trans (find_len apex L _ _) HZ2.out.small
        rw [← hm] at hown3 ⊢
        have hs3 := hB3.size
        obtain ⟨wf, hwf⟩ : ∃ X, X = w3.alloc (.cells #[.int .i64 f.kind, .string f.owner, .string f.encl, .bool f.wild, .slice a3 m cap3] 48) := ⟨_, rfl⟩
        have hBf : Below w3.heap.size w3 wf := by rw [hwf]; exact (Below.refl _ _).alloc (Nat.le_refl _) _
        have hfb : wf.heap[w3.heap.size]? = some (.cells #[.int .i64 f.kind, .string f.owner, .string f.encl, .bool f.wild, .slice a3 m cap3] 48 (0, 0)) := by rw [hwf]; exact heap_new_at rfl
        have hsf : wf.heap.size = w3.heap.size + 1 := by rw [hwf]; simp
        have hxb : wf.heap[wo.heap.size]? = some (.cells (recC x).toArray 53 (0, 0)) := (hBf.block _ (by omega)).trans ((hB3.block _ (by omega)).trans HXB.out)
        have hrf : RecsAt wf (.slice a3 m cap3) f.recs := (owns_recs (by rw [← hm]; exact hown3)).below hBf
        have HBF := Lib.hid (HBX.out.trans ((hB3.mono (by omega)).trans (hBf.mono (by omega))))
        have HWF := Lib.hid hwf; have HFB := Lib.hid hfb; have HXB := Lib.hid hxb; have HRF := Lib.hid hrf; have HG := Lib.hid hG; have HM := Lib.hid hm
        have x0 : wf.cell? ⟨wo.heap.size, 0, none⟩ = some (.string x.owner) := by rw [heap_cell hxb]; rfl
        have x1 : wf.cell? ⟨wo.heap.size, 1, none⟩ = some (.int .i64 x.typ) := by rw [heap_cell hxb]; rfl
        have x2 : wf.cell? ⟨wo.heap.size, 2, none⟩ = some (.int .i64 x.cls) := by rw [heap_cell hxb]; rfl
        have x3 : wf.cell? ⟨wo.heap.size, 3, none⟩ = some (.int .i64 x.ttl) := by rw [heap_cell hxb]; rfl
        have x4 : wf.cell? ⟨wo.heap.size, 4, none⟩ = some (.string x.data) := by rw [heap_cell hxb]; rfl
        obtain ⟨p0, p1, p2, p3, p4, _, _, _, _, _⟩ := found_facts hfb
        clear hfe hG hm hown3 hBf hfb hxb hwf hrf hB3 c0 c1 c2 c3 c4
        go_upto_region 10 with fail
        rw [← HWF.out]
        by_cases k4 : f.kind = 4
        · have b4 : (f.kind == 4) = true := by rw [beq_iff_eq]; exact k4
          clear k4
          go_wp2_with fail
          go_roundw
          case rel => exact ⟨k + 1, by omega, by go_num, HBF.out⟩
          case measure => simp [intOf]; omega
        · have b4 : (f.kind == 4) = false := by rw [beq_eq_false_iff_ne]; exact k4
          have K4 := Lib.hid k4
          clear k4
          by_cases k3 : f.kind = 3
          · have b3 : (f.kind == 3) = true := by rw [beq_iff_eq]; exact k3
            clear k3
            go_wp2_with fail
            go_roundw
            case rel => exact ⟨k + 1, by omega, by go_num, HBF.out⟩
            case measure => simp [intOf]; omega
          · have b3 : (f.kind == 3) = false := by rw [beq_eq_false_iff_ne]; exact k3
            have K3 := Lib.hid k3
            clear k3
            go_wp2_with fail
            refine (rcounts_any x wf).mono ?_
            rintro e w4 ⟨rfl, hB4⟩
            have hs4 := hB4.size
            have hxb := (hB4.block _ (by omega)).trans HXB.out
            have hfb := (hB4.block _ (by omega)).trans HFB.out
            have hrf := HRF.out.below hB4
            have HB4 := Lib.hid (HBF.out.trans (hB4.mono (by omega))); have HXB := Lib.hid hxb; have HFB := Lib.hid hfb; have HRF := Lib.hid hrf
            have x0 : w4.cell? ⟨wo.heap.size, 0, none⟩ = some (.string x.owner) := by rw [heap_cell hxb]; rfl
            have x1 : w4.cell? ⟨wo.heap.size, 1, none⟩ = some (.int .i64 x.typ) := by rw [heap_cell hxb]; rfl
            have x2 : w4.cell? ⟨wo.heap.size, 2, none⟩ = some (.int .i64 x.cls) := by rw [heap_cell hxb]; rfl
            have x3 : w4.cell? ⟨wo.heap.size, 3, none⟩ = some (.int .i64 x.ttl) := by rw [heap_cell hxb]; rfl
            have x4 : w4.cell? ⟨wo.heap.size, 4, none⟩ = some (.string x.data) := by rw [heap_cell hxb]; rfl
            obtain ⟨p0, p1, p2, p3, p4, _, _, _, _, _⟩ := found_facts hfb
            clear hB4 hxb hfb hrf
            cases hsg : zn.signsB x
            · have HSG := Lib.hid hsg
              clear hsg
              by_cases k2 : f.kind = 2
              · have b2 : (f.kind == 2) = true := by rw [beq_iff_eq]; exact k2
                have ht : x.typ = 46 ∨ x.typ = 47 := by
                  rcases HG.out with h | h | h | h | h
                  · exact absurd h K4.out
                  · exact absurd h K3.out
                  · rw [HSG.out] at h; cases h
                  · exact h.2
                  · rw [k2] at h; exact absurd h.2.1 (by decide)
                by_cases t46 : x.typ = 46
                · have d46 : (x.typ == 46) = true := by rw [beq_iff_eq]; exact t46
                  clear t46 ht k2
                  go_wp2_with fail
                  go_roundw
                  case rel => exact ⟨k + 1, by omega, by go_num, HB4.out⟩
                  case measure => simp [intOf]; omega
                · have d46 : (x.typ == 46) = false := by rw [beq_eq_false_iff_ne]; exact t46
                  have d47 : (x.typ == 47) = true := by rw [beq_iff_eq]; exact ht.resolve_left t46
                  clear t46 ht k2
                  go_wp2_with fail
                  go_roundw
                  case rel => exact ⟨k + 1, by omega, by go_num, HB4.out⟩
                  case measure => simp [intOf]; omega
              · have b2 : (f.kind == 2) = false := by rw [beq_eq_false_iff_ne]; exact k2
                have hin : x ∈ f.recs ∧ f.kind = 1 ∧ f.wild = false := by
                  rcases HG.out with h | h | h | h | h
                  · exact absurd h K4.out
                  · exact absurd h K3.out
                  · rw [HSG.out] at h; cases h
                  · exact absurd h.1 k2
                  · exact h
                have b1 : (f.kind != 1) = false := by rw [bne_eq_false_iff_eq]; exact hin.2.1
                have hwl : f.wild = false := hin.2.2
                have HIN := Lib.hid hin.1; have HWL := Lib.hid hwl
                clear hin k2 hwl
                go_wp2_with fail
                go_loopw [78, 15, 17] (fun jv iv _ wr => ∃ j : Nat, j ≤ m ∧ jv = .int .i64 (j : Int) ∧ iv = .bool (decide (x ∈ f.recs.take j)) ∧ Below w4.heap.size w4 wr) (fun jv _ _ _ => m - (intOf jv).toNat)
                case atStart => exact ⟨0, Nat.zero_le _, rfl, by simp, Below.refl _ _⟩
                case round =>
                  obtain ⟨j, hj, rfl, rfl, hBq⟩ := hrel
                  have hsq := hBq.size
                  have hsw4 := HB4.out.size
                  have hxb := (hBq.block _ (by omega)).trans HXB.out
                  have hfb := (hBq.block _ (by omega)).trans HFB.out
                  by_cases hjm : j < m
                  · obtain ⟨a', cap', hv, _, hr⟩ := RecsAt.below HRF.out hBq
                    simp only [Value.slice.injEq] at hv
                    obtain ⟨rfl, -, rfl⟩ := hv
                    have hjf : j < f.recs.length := by rw [← HM.out]; exact hjm
                    obtain ⟨g, offg, rfl, hgl, d0, d1, d2, d3, d4⟩ := hr j hjf
                    obtain ⟨y, hy⟩ : ∃ y, y = f.recs[j] := ⟨_, rfl⟩
                    have hnx : decide (x ∈ f.recs.take (j + 1)) = (decide (x ∈ f.recs.take j) || decide (y = x)) := by
                      rw [List.take_succ_eq_append_getElem hjf, ← hy]
                      simp [eq_comm]
                    rw [← hy] at d0 d1 d2 d3 d4
                    obtain ⟨wy, hwy⟩ : ∃ X, X = wr.alloc (.cells (recC y).toArray 53) := ⟨_, rfl⟩
                    have hBy : Below w4.heap.size w4 wy := by rw [hwy]; exact hBq.alloc hsq _
                    have hyb : wy.heap[wr.heap.size]? = some (.cells (recC y).toArray 53 (0, 0)) := by rw [hwy]; exact heap_new_at rfl
                    have hxb : wy.heap[wo.heap.size]? = some (.cells (recC x).toArray 53 (0, 0)) := by rw [hwy]; exact heap_alloc_keep hxb _
                    have y0 : wy.cell? ⟨wr.heap.size, 0, none⟩ = some (.string y.owner) := by rw [heap_cell hyb]; rfl
                    have y1 : wy.cell? ⟨wr.heap.size, 1, none⟩ = some (.int .i64 y.typ) := by rw [heap_cell hyb]; rfl
                    have y2 : wy.cell? ⟨wr.heap.size, 2, none⟩ = some (.int .i64 y.cls) := by rw [heap_cell hyb]; rfl
                    have y3 : wy.cell? ⟨wr.heap.size, 3, none⟩ = some (.int .i64 y.ttl) := by rw [heap_cell hyb]; rfl
                    have y4 : wy.cell? ⟨wr.heap.size, 4, none⟩ = some (.string y.data) := by rw [heap_cell hyb]; rfl
                    have x0 : wy.cell? ⟨wo.heap.size, 0, none⟩ = some (.string x.owner) := by rw [heap_cell hxb]; rfl
                    have x1 : wy.cell? ⟨wo.heap.size, 1, none⟩ = some (.int .i64 x.typ) := by rw [heap_cell hxb]; rfl
                    have x2 : wy.cell? ⟨wo.heap.size, 2, none⟩ = some (.int .i64 x.cls) := by rw [heap_cell hxb]; rfl
                    have x3 : wy.cell? ⟨wo.heap.size, 3, none⟩ = some (.int .i64 x.ttl) := by rw [heap_cell hxb]; rfl
                    have x4 : wy.cell? ⟨wo.heap.size, 4, none⟩ = some (.string x.data) := by rw [heap_cell hxb]; rfl
                    have HNX := Lib.hid hnx; have HWY := Lib.hid hwy; have HBY := Lib.hid hBy
                    clear hnx hwy hBy hyb hxb hfb hr hy hBq
                    go_upto_region 16 with fail
                    rw [← HWY.out]
                    by_cases hin : x ∈ f.recs.take j
                    · rw [decide_eq_true hin]
                      have HIJ := Lib.hid hin
                      clear hin
                      go_wp2_with fail
                      go_roundw
                      case rel => exact ⟨j + 1, by omega, by go_num, by rw [HNX.out, decide_eq_true HIJ.out]; rfl, HBY.out⟩
                      case measure => simp [intOf]; omega
                    · rw [decide_eq_false hin]
                      have HIJ := Lib.hid hin
                      clear hin
                      by_cases hyx : y = x
                      · have HYX := Lib.hid hyx
                        go_wp2_with fail
                        go_roundw
                        case rel => exact ⟨j + 1, by omega, by go_num, by rw [HNX.out, decide_eq_true HYX.out, Bool.or_true], HBY.out⟩
                        case measure => simp [intOf]; omega
                      · have HYX := Lib.hid hyx
                        go_wp2_with fail
                        go_roundw
                        case rel => exact ⟨j + 1, by omega, by go_num, by rw [HNX.out, decide_eq_false HYX.out, decide_eq_false HIJ.out]; rfl, HBY.out⟩
                        case measure => simp [intOf]; omega
                  · obtain rfl : j = m := by omega
                    rw [List.take_of_length_le (show f.recs.length ≤ j by rw [← HM.out]; exact Nat.le_refl _), decide_eq_true HIN.out]
                    obtain ⟨p0, p1, p2, p3, p4, _, _, _, _, _⟩ := found_facts hfb
                    rw [HWL.out] at p3
                    have HBQ := Lib.hid (HB4.out.trans (hBq.mono (by omega)))
                    clear hfb hxb hBq
                    go_wp2_with fail
                    go_roundw
                    case rel => exact ⟨k + 1, by omega, by go_num, HBQ.out⟩
                    case measure => simp [intOf]; omega
            · clear hsg
              go_wp2_with fail
              go_roundw
              case rel => exact ⟨k + 1, by omega, by go_num, HB4.out⟩
              case measure => simp [intOf]; omega
      · have hBe := HB2.out.trans (hB.mono hs2)
        have HBE := Lib.hid hBe; have HZE := Lib.hid (HZ2.out.kept hB)
        have hse := hBe.size
        have hlt' : (l.length : Int) ≤ (k : Int) := by omega
        clear hBe hB hlt
        go_wp2_with fail
        refine (find_any w1.heap.size z apex L q t HTW.out wo HZE.out).mono ?_
        rintro e w3 ⟨v3, rfl, hB3, hown3⟩
        obtain ⟨f, hfe⟩ : ∃ f, f = zn.findR apex L q t := ⟨_, rfl⟩
        have hG : ∀ y ∈ f.recs, l.any (zn.tells f q y) = true := by
          intro y hy
          rw [hfe] at hy ⊢
          exact zn.tells_some HVA.out HPM.out q t y hy
        rw [← hfe] at hown3 ⊢
        obtain ⟨a3, cap3, rfl, _⟩ := ownsRow_len hown3
        obtain ⟨m, hm⟩ : ∃ m, m = f.recs.length := ⟨_, rfl⟩
        have hmL : m ≤ 2000 := by rw [hm, hfe]; exact Nat.le_trans (find_len apex L _ _) HZ2.out.small
        rw [← hm] at hown3 ⊢
        have hs3 := hB3.size
        obtain ⟨wf, hwf⟩ : ∃ X, X = w3.alloc (.cells #[.int .i64 f.kind, .string f.owner, .string f.encl, .bool f.wild, .slice a3 m cap3] 48) := ⟨_, rfl⟩
        have hBf : Below w3.heap.size w3 wf := by rw [hwf]; exact (Below.refl _ _).alloc (Nat.le_refl _) _
        have hfb : wf.heap[w3.heap.size]? = some (.cells #[.int .i64 f.kind, .string f.owner, .string f.encl, .bool f.wild, .slice a3 m cap3] 48 (0, 0)) := by rw [hwf]; exact heap_new_at rfl
        have hsf : wf.heap.size = w3.heap.size + 1 := by rw [hwf]; simp
        have hrf : RecsAt wf (.slice a3 m cap3) f.recs := (owns_recs (by rw [← hm]; exact hown3)).below hBf
        have HBF := Lib.hid (HBE.out.trans ((hB3.mono (by omega)).trans (hBf.mono (by omega))))
        have HWF := Lib.hid hwf; have HFB := Lib.hid hfb; have HRF := Lib.hid hrf; have HG := Lib.hid hG; have HM := Lib.hid hm
        have p4 : wf.cell? ⟨w3.heap.size, 4, none⟩ = some (.slice a3 m cap3) := by rw [heap_cell hfb]; rfl
        clear hfe hG hm hown3 hBf hfb hwf hrf hB3
        go_upto_region 22 with fail
        rw [← HWF.out]
        have hsw := HBF.out.size
        go_wp2_with fail
        clear p4
        go_loopw [108, 20, 21, 23] (fun jv _ _ _ wr => ∃ j : Nat, j ≤ m ∧ jv = .int .i64 (j : Int) ∧ Below wf.heap.size wf wr) (fun jv _ _ _ _ => m - (intOf jv).toNat)
        case atStart => exact ⟨0, Nat.zero_le _, rfl, Below.refl _ _⟩
        case round =>
          obtain ⟨j, hj, rfl, hBq⟩ := hrel
          obtain ⟨wo, hwo⟩ : ∃ wo : World, wo = wr := ⟨_, rfl⟩
          subst hwo
          have hsq := hBq.size
          by_cases hjm : j < m
          · obtain ⟨a', cap', hv, _, hr⟩ := RecsAt.below HRF.out hBq
            simp only [Value.slice.injEq] at hv
            obtain ⟨rfl, -, rfl⟩ := hv
            have hjf : j < f.recs.length := by rw [← HM.out]; exact hjm
            obtain ⟨g, offg, rfl, hgl, d0, d1, d2, d3, d4⟩ := hr j hjf
            obtain ⟨y, hy⟩ : ∃ y, y = f.recs[j] := ⟨_, rfl⟩
            have hany := HG.out y (by rw [hy]; exact List.getElem_mem hjf)
            rw [← hy] at d0 d1 d2 d3 d4
            obtain ⟨wy, hwy⟩ : ∃ X, X = wo.alloc (.cells (recC y).toArray 53) := ⟨_, rfl⟩
            have hBy : Below wf.heap.size wf wy := by rw [hwy]; exact hBq.alloc hsq _
            have hyb : wy.heap[wo.heap.size]? = some (.cells (recC y).toArray 53 (0, 0)) := by rw [hwy]; exact heap_new_at rfl
            have hsy : wy.heap.size = wo.heap.size + 1 := by rw [hwy]; simp
            have HANY := Lib.hid hany; have HWY := Lib.hid hwy; have HBY := Lib.hid hBy; have HYB := Lib.hid hyb
            clear hany hwy hBy hyb hy hr hBq
            go_upto_region 25 with fail
            rw [← HWY.out]
            clear d0 d1 d2 d3 d4
            go_wp2_with fail
            go_loopw [114, 21, 23] (fun iv bv _ wr => ∃ i : Nat, i ≤ l.length ∧ iv = .int .i64 (i : Int) ∧ bv = .bool ((l.take i).any (zn.tells f q y)) ∧ Below wy.heap.size wy wr) (fun iv _ _ _ => l.length - (intOf iv).toNat)
            case atStart => exact ⟨0, Nat.zero_le _, rfl, rfl, Below.refl _ _⟩
            case round =>
              obtain ⟨i, hi, rfl, rfl, hBr⟩ := hrel
              have hsr := hBr.size
              have hyb := (hBr.block _ (by omega)).trans HYB.out
              have hfb := (hBr.block _ (by omega)).trans ((HBY.out.block _ (by omega)).trans HFB.out)
              have hBw : Below w.heap.size w wr := HBF.out.trans ((HBY.out.mono hsw).trans (hBr.mono (by omega)))
              by_cases hil : i < l.length
              · obtain ⟨a', cap', hv, _, hr⟩ := RecsAt.below HRV.out hBw
                simp only [Value.slice.injEq, true_and] at hv
                obtain ⟨rfl, rfl⟩ := hv
                obtain ⟨b, off, rfl, hbl, c0, c1, c2, c3, c4⟩ := hr i hil
                obtain ⟨x, hx⟩ : ∃ x, x = l[i] := ⟨_, rfl⟩
                have hnx : (l.take (i + 1)).any (zn.tells f q y) = ((l.take i).any (zn.tells f q y) || zn.tells f q y x) := by
                  rw [List.take_succ_eq_append_getElem hil, List.any_append, ← hx]
                  simp
                rw [← hx] at c0 c1 c2 c3 c4
                obtain ⟨wx, hwx⟩ : ∃ X, X = wr.alloc (.cells (recC x).toArray 53) := ⟨_, rfl⟩
                have hBx : Below wy.heap.size wy wx := by rw [hwx]; exact hBr.alloc hsr _
                have hxb : wx.heap[wr.heap.size]? = some (.cells (recC x).toArray 53 (0, 0)) := by rw [hwx]; exact heap_new_at rfl
                have hyb : wx.heap[wo.heap.size]? = some (.cells (recC y).toArray 53 (0, 0)) := by rw [hwx]; exact heap_alloc_keep hyb _
                have hfb := heap_alloc_keep hfb (.cells (recC x).toArray 53)
                rw [← hwx] at hfb
                have hsx : wx.heap.size = wr.heap.size + 1 := by rw [hwx]; simp
                obtain ⟨x0, x1, x2, x3, x4, _, _, _, _, _⟩ := found_facts hxb
                obtain ⟨y0, y1, y2, y3, y4, _, _, _, _, _⟩ := found_facts hyb
                obtain ⟨p0, p1, p2, p3, p4, _, _, _, _, _⟩ := found_facts hfb
                obtain ⟨bb, hbb⟩ : ∃ b, b = (l.take i).any (zn.tells f q y) := ⟨_, rfl⟩
                rw [← hbb] at hnx ⊢
                have HNX := Lib.hid hnx; have HWX := Lib.hid hwx; have HBX := Lib.hid hBx; have HXB := Lib.hid hxb; have HYB := Lib.hid hyb
                have hsxy := hBx.size
                clear hnx hwx hBx hxb hyb hfb hr hx hBr hBw hbb
                go_upto_region 29 with fail
                rw [← HWX.out]
                clear c0 c1 c2 c3 c4
                cases hwl : f.wild
                · rw [hwl] at p3
                  have htl : zn.tells f q y x = (decide (x = y) && withinB q x.owner) := by unfold zn.tells; rw [if_neg (by rw [hwl]; simp)]
                  have HTL := Lib.hid htl
                  clear htl hwl
                  cases bb
                  · by_cases hxy : x = y
                    · have HXY := Lib.hid hxy
                      go_wp2_with fail
                      refine (within_any _ _ _).mono ?_
                      rintro e w5 ⟨rfl, hB5⟩
                      have HB5 := Lib.hid (HBX.out.trans (hB5.mono hsxy))
                      clear hB5
                      go_wp2_with fail
                      go_roundw
                      case rel => exact ⟨i + 1, by omega, by go_num, by rw [HNX.out, HTL.out, decide_eq_true HXY.out, Bool.true_and, Bool.false_or, HXY.out], HB5.out⟩
                      case measure => simp [intOf]; omega
                    · have HXY := Lib.hid hxy
                      go_wp2_with fail
                      go_roundw
                      case rel => exact ⟨i + 1, by omega, by go_num, by rw [HNX.out, HTL.out, decide_eq_false HXY.out]; rfl, HBX.out⟩
                      case measure => simp [intOf]; omega
                  · go_wp2_with fail
                    go_roundw
                    case rel => exact ⟨i + 1, by omega, by go_num, by rw [HNX.out, Bool.true_or], HBX.out⟩
                    case measure => simp [intOf]; omega
                · rw [hwl] at p3
                  have htl : zn.tells f q y x = (equalB x.owner f.owner && decide (x.typ = y.typ) && (x.data.toList == y.data.toList) && decide (x.ttl = y.ttl) && (y.owner.toList == q.toList)) := by unfold zn.tells; rw [if_pos hwl]
                  have HTL := Lib.hid htl
                  clear htl hwl
                  cases bb
                  · go_wp2_with fail
                    refine (equal_any _ _ _).mono ?_
                    rintro e w5 ⟨rfl, hB5⟩
                    have hxb := (hB5.block _ (by omega)).trans HXB.out
                    have hyb := (hB5.block _ (by omega)).trans HYB.out
                    obtain ⟨x0, x1, x2, x3, x4, _, _, _, _, _⟩ := found_facts hxb
                    obtain ⟨y0, y1, y2, y3, y4, _, _, _, _, _⟩ := found_facts hyb
                    have HB5 := Lib.hid (HBX.out.trans (hB5.mono hsxy))
                    clear hB5 hxb hyb
                    cases he : equalB x.owner f.owner
                    · have HE := Lib.hid he
                      clear he
                      go_wp2_with fail
                      go_roundw
                      case rel => exact ⟨i + 1, by omega, by go_num, by rw [HNX.out, HTL.out, HE.out]; rfl, HB5.out⟩
                      case measure => simp [intOf]; omega
                    · have HE := Lib.hid he
                      clear he
                      by_cases ht : x.typ = y.typ
                      · have d1 : (x.typ == y.typ) = true := by rw [beq_iff_eq]; exact ht
                        have HT := Lib.hid ht
                        clear ht
                        cases hd : (x.data.toList == y.data.toList)
                        · have HD := Lib.hid hd
                          go_wp2_with fail
                          go_roundw
                          case rel => exact ⟨i + 1, by omega, by go_num, by rw [HNX.out, HTL.out, HE.out, decide_eq_true HT.out, HD.out]; rfl, HB5.out⟩
                          case measure => simp [intOf]; omega
                        · have HD := Lib.hid hd
                          by_cases hl : x.ttl = y.ttl
                          · have d2 : (x.ttl == y.ttl) = true := by rw [beq_iff_eq]; exact hl
                            have HL := Lib.hid hl
                            clear hl
                            go_wp2_with fail
                            go_roundw
                            case rel => exact ⟨i + 1, by omega, by go_num, by rw [HNX.out, HTL.out, HE.out, decide_eq_true HT.out, HD.out, decide_eq_true HL.out]; rfl, HB5.out⟩
                            case measure => simp [intOf]; omega
                          · have d2 : (x.ttl == y.ttl) = false := by rw [beq_eq_false_iff_ne]; exact hl
                            have HL := Lib.hid hl
                            clear hl
                            go_wp2_with fail
                            go_roundw
                            case rel => exact ⟨i + 1, by omega, by go_num, by rw [HNX.out, HTL.out, HE.out, decide_eq_true HT.out, HD.out, decide_eq_false HL.out]; rfl, HB5.out⟩
                            case measure => simp [intOf]; omega
                      · have d1 : (x.typ == y.typ) = false := by rw [beq_eq_false_iff_ne]; exact ht
                        have HT := Lib.hid ht
                        clear ht
                        go_wp2_with fail
                        go_roundw
                        case rel => exact ⟨i + 1, by omega, by go_num, by rw [HNX.out, HTL.out, HE.out, decide_eq_false HT.out]; rfl, HB5.out⟩
                        case measure => simp [intOf]; omega
                  · go_wp2_with fail
                    go_roundw
                    case rel => exact ⟨i + 1, by omega, by go_num, by rw [HNX.out, Bool.true_or], HBX.out⟩
                    case measure => simp [intOf]; omega
              · have hil' : (l.length : Int) ≤ (i : Int) := by omega
                rw [List.take_of_length_le (show l.length ≤ i by omega), HANY.out]
                have HBR := Lib.hid (HBY.out.trans (hBr.mono (by omega)))
                clear hil hyb hfb hBw hBr
                go_wp2_with fail
                go_roundw
                case rel => exact ⟨j + 1, by omega, by go_num, HBR.out⟩
                case measure => simp [intOf]; omega
          · have hjm' : (m : Int) ≤ (j : Int) := by omega
            have HBQ := Lib.hid (HBF.out.trans (hBq.mono hsw))
            clear hjm hBq
            go_wp2_with fail
            go_ret
            exact ⟨rfl, HBQ.out⟩
  · obtain ⟨hB1, rfl⟩ := newPost_bad hp hne
    have hc := zn.newE_code hne
    have b1 : (c != 0) = true := by rw [bne_iff_ne]; exact hc
    have HB1 := Lib.hid hB1
    clear hp hne hc hB1 HN
    go_wp2_with fail
    refine (begins_any _).mono ?_
    rintro e w2 ⟨rfl, hB2⟩
    have HB2 := Lib.hid (HB1.out.trans (hB2.mono HB1.out.size))
    clear hB2
    go_wp2_with fail
    go_ret
    exact ⟨rfl, HB2.out⟩
end Go.Proofs.YtpjoaghnciomeaaGreat

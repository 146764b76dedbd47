/-
  (*policy.Limiter).Allow: the walk.
-/
import Derived.Test.YtnloommafgnanaaGreatQLimB
namespace Go.Proofs.YtnloommafgnanaaGreat
open Go.RowKit

theorem limInfoStr : (Tryz.prog.info? 9).map (fun i => (i.zero, i.size, i.bytes)) = some (some (.string ByteArray.empty), 1, 16) := by kernel_rfl

/-- Where the asking stands when one's place is known. -/
def Mid (w : World) (B lp : Nat) (rate burst : Int) (S : List lim.One) (k : Nat) (s8 : Value) (wx : World) : Prop :=
  ∃ Z mb ov z, Z.map (·.1) = S ∧ Lim wx B lp rate burst Z mb ov ∧ Z[k]? = some z ∧ s8 = .pointer (some ⟨z.2, 0, none⟩) ∧ Fr B LimT w wx

set_option maxHeartbeats 1000000 in
set_option maxRecDepth 100000 in
theorem allow_ask (s : ByteArray) (now : Int) (B lp : Nat) (rate burst : Int) (S : List lim.One) (w : World) (hs : addrB s = true) (hg : lim.Good burst S)
    (hr0 : 0 ≤ rate) (hr1 : rate ≤ 1000) (hb0 : 1 ≤ burst) (hb1 : burst ≤ 1000) (hn0 : -9223372036854775808 ≤ now) (hn1 : now ≤ 9223372036854775807)
    (hinv : LimInv w B lp rate burst S) :
    Calls Tryz.prog 16 #[.pointer (some ⟨lp, 0, none⟩), .string s, .int .i64 now] w fun e w' =>
      e = .returned (.bool (lim.ask rate burst now S (lim.keyOf s)).1) ∧ LimInv w' B lp rate burst (lim.ask rate burst now S (lim.keyOf s)).2 ∧ Fr B LimT w w' := by
  have HI := Lib.hid hinv; clear hinv
  have HG := Lib.hid hg; clear hg
  have hk : lim.keyOf s = if s.size = 16 then s.extract 0 7 else s.extract 0 3 := rfl
  have hsz : s.size = 4 ∨ s.size = 16 := by simpa [addrB] using hs
  have h3 : (3 : Int) ≤ s.size := by omega
  have HK := Lib.hid hk; clear hk
  have HZ := Lib.hid hsz; clear hsz
  have HW := Lib.hid (lim.key_size (s := s))
  go_enter Tryz.func16, Tryz.ntmps16
  go_upto_if 17 with (first | (go_at_call 37; refine (address_any _ _).mono ?_; rintro e w' ⟨rfl, rfl⟩))
  go_cut [7] (fun s7 wx => s7 = .string (lim.keyOf s) ∧ w = wx)
  case first =>
    rcases HZ.out with h | h
    · have b16 : ((s.size : Int) == 16) = false := by rw [beq_eq_false_iff_ne]; omega
      have hk : lim.keyOf s = s.extract 0 3 := by rw [HK.out, if_neg (by omega)]
      have HK2 := Lib.hid hk
      clear hk h
      go_wp2
      go_meet
      exact ⟨by rw [HK2.out], rfl⟩
    · have b16 : ((s.size : Int) == 16) = true := by rw [beq_iff_eq]; omega
      have h7 : (7 : Int) ≤ s.size := by omega
      have hk : lim.keyOf s = s.extract 0 7 := by rw [HK.out, if_pos h]
      have HK2 := Lib.hid hk
      clear hk h
      go_wp2
      go_meet
      exact ⟨by rw [HK2.out], rfl⟩
  case rest =>
    obtain ⟨rfl, rfl⟩ := hcut
    clear h3
    generalize hwho : lim.keyOf s = who at *
    have HWHO := Lib.hid hwho
    clear hwho HK HZ
    obtain ⟨Z, mb, ov, hZ, hL⟩ := HI.out
    have c0 : w.cell? ⟨lp, 0, none⟩ = some (.int .i64 rate) := by rw [heap_cell hL.lim]; rfl
    have c1 : w.cell? ⟨lp, 1, none⟩ = some (.int .i64 burst) := by rw [heap_cell hL.lim]; rfl
    have c2 : w.cell? ⟨lp, 2, none⟩ = some (.map (some mb)) := by rw [heap_cell hL.lim]; rfl
    have c3 : w.cell? ⟨lp, 3, none⟩ = some ov := by rw [heap_cell hL.lim]; rfl
    have HC := Lib.hid c0; clear c0
    obtain ⟨o8, hlook⟩ : ∃ o8, (Instr.lookup 59 (.map (some mb)) (.string who) false).run Tryz.prog w = .ok (.pointer o8) w ∧ Hid (
        (lim.place S who < S.length ∧ ∃ z, Z[lim.place S who]? = some z ∧ z.1.1 = who ∧ o8 = some ⟨z.2, 0, none⟩) ∨ (¬ lim.place S who < S.length ∧ o8 = none)) := by
      have hg := HG.out
      subst hZ
      by_cases hp : lim.place (Z.map (·.1)) who < (Z.map (·.1)).length
      · obtain ⟨z, hz, hz2, hr⟩ := hL.look_there hg hp HW.out
        exact ⟨_, hr, .inl ⟨hp, z, hz, hz2, rfl⟩⟩
      · exact ⟨_, hL.look_new hg hp HW.out, .inr ⟨hp, rfl⟩⟩
    obtain ⟨hlk, HP⟩ := hlook
    go_upto_if 27 with fail
    clear hlk
    go_cut [8] (fun s8 wx => Mid w B lp rate burst (lim.enter burst now S who).1 (lim.enter burst now S who).2 s8 wx)
    case first =>
      rcases HP.out with ⟨hp, z, hz, hz2, rfl⟩ | ⟨hp, rfl⟩
      · have hfin : Mid w B lp rate burst (lim.enter burst now S who).1 (lim.enter burst now S who).2 (.pointer (some ⟨z.2, 0, none⟩)) w := by
          unfold lim.enter
          rw [if_pos hp]
          exact ⟨Z, mb, ov, z, hZ, hL, hz, rfl, Fr.refl _ _ _⟩
        have HF := Lib.hid hfin
        clear hz hz2 hp hfin hL hZ
        go_wp2
        go_meet
        exact HF.out
      · obtain ⟨i0, hi, hz0, hz1, hz2⟩ := info_parts limInfoStr
        obtain ⟨es, c, hup, hm⟩ := Lim.update_new (w1 := w.alloc (.cells (cellsV (burst, now)) 65)) (who := who) (burst := burst) (hL.map.alloc _) (by rw [hZ]; exact HG.out) (by rw [hZ]; exact hp) HW.out (.pointer (some ⟨w.heap.size, 0, none⟩))
        have hlp2 := fun (w4 : World) hg4 => hL.keep4 (now := now) (who := who) (es := es) (c := c) (w4 := w4) hg4 hL.lim (by decide)
        have hrow3 := hL.row3 (now := now) (who := who) (es := es) (c := c)
        have hent := fun (v' : Value) (w4 : World) hr4 hg4 => hL.entered (now := now) (who := who) (v' := v') (w4 := w4) hm hr4 hg4
        have HS := Lib.hid hL.hsz
        have Hsz2 : Hid ((putMap (w.alloc (.cells (cellsV (burst, now)) 65)) mb es c).heap.size = w.heap.size + 1) := by show _ = _; simp [putMap]
        have hlp2' := (hlp2 _ (World.grownBy.refl _ _)).1
        obtain ⟨w2, hw2⟩ : ∃ w2, w2 = putMap (w.alloc (.cells (cellsV (burst, now)) 65)) mb es c := ⟨_, rfl⟩
        rw [← hw2] at hup hm hrow3 hlp2 hlp2' Hsz2
        unfold cellsV at hup
        have d2a : (w.alloc (.cells #[.int .i64 burst, .int .i64 now] 65)).cell? ⟨lp, 2, none⟩ = some (.map (some mb)) := by rw [heap_cell (heap_alloc_keep hL.lim _)]; rfl
        have d1 : w2.cell? ⟨lp, 1, none⟩ = some (.int .i64 burst) := by rw [heap_cell hlp2']; rfl
        have d2 : w2.cell? ⟨lp, 2, none⟩ = some (.map (some mb)) := by rw [heap_cell hlp2']; rfl
        have d3 : w2.cell? ⟨lp, 3, none⟩ = some ov := by rw [heap_cell hlp2']; rfl
        have HE := Lib.hid hent; have HW2 := Lib.hid hw2; have HM := Lib.hid hm; have HL2 := Lib.hid hlp2; have HR3 := Lib.hid hrow3; have HL := Lib.hid hL; have HZ := Lib.hid hZ; have HPn := Lib.hid hp
        clear hent hw2 hm hlp2 hlp2' hrow3 hL hZ hp HP HI
        have hZl : Z.length = S.length := by rw [← HZ.out]; simp
        have q3 : Z.length + 1 ≤ maxLen := by have := HG.out.len; unfold maxLen; omega
        have q4 : (Z.length + 1) * 16 ≤ 140737488355328 := by have := HG.out.len; omega
        have q5 : B ≤ (w2.alloc (.cells #[.string who] 9)).heap.size := by have h1 := HS.out; have h2 := Hsz2.out; simp; omega
        have Q3 := Lib.hid q3; have Q4 := Lib.hid q4; have Q5 := Lib.hid q5; have HL1 := Lib.hid hZl
        clear q3 q4 q5 hZl
        by_cases hlen : S.length < 1000
        · go_wp2_with (first
            | (at_builtin; refine wpList_append_row _ rfl _ _ 45 rfl B 9 i0 (.string ByteArray.empty) 1 16 Tryz.underlying45 hi hz0 hz1 hz2 rfl (by decide) ov Z.length (Z.map limKeyV) rfl HR3.out ⟨w2.heap.size, 0, none⟩ 1 1 [.string who] rfl rfl (cell_one_new _ _ _) (by simp [Value.oneCell']) Q3.out Q4.out Q5.out ?_))
          intro v' w4 hr4 hg4
          obtain ⟨e1, e2⟩ := HE.out v' w4 hr4 (by have h := hg4; rw [HW2.out] at h; exact h)
          have h4 := (HL2.out w4 hg4).2
          have f3 : w4.cell? ⟨lp, 3, none⟩ = some ov := by rw [heap_cell h4]; rfl
          have f3' : w4.frozen? ⟨lp, 3, none⟩ = false := heap_frozen h4 _
          obtain ⟨g, off, cap, rfl, hcap, _⟩ := hr4.form (by omega)
          have hl2 : (Z.length : Int) + 1 ≤ 1000 := by have := HL1.out; omega
          have hfin : Mid w B lp rate burst (lim.enter burst now S who).1 (lim.enter burst now S who).2 (.pointer (some ⟨w.heap.size, 0, none⟩)) (w4.setCell ⟨lp, 3, none⟩ (.slice (some ⟨g, off, none⟩) (Z.length + 1) cap)) := by
            unfold lim.enter
            rw [if_neg HPn.out, if_pos hlen]
            refine ⟨_, _, _, ((who, burst, now), w.heap.size), ?_, e1, ?_, rfl, e2⟩
            · rw [List.map_append, HZ.out]; rfl
            · dsimp only
              rw [← HL1.out, List.getElem?_append_right (Nat.le_refl _), Nat.sub_self]; rfl
          have HF := Lib.hid hfin
          clear hr4 hg4 h4 e1 e2 hfin
          go_wp2
          go_meet
          exact HF.out
        · have hfull : S.length = 1000 := by have := HG.out.len; omega
          obtain ⟨z0, Zr, hz0⟩ : ∃ z0 Zr, Z = z0 :: Zr := by
            cases Z with
            | nil => have := HL1.out; simp at this; omega
            | cons z0 Zr => exact ⟨z0, Zr, rfl⟩
          have HFu := Lib.hid hfull
          have HZ0 := Lib.hid hz0
          clear hfull hz0 hlen
          go_wp2_with (first
            | (at_builtin; refine wpList_append_row _ rfl _ _ 45 rfl B 9 i0 (.string ByteArray.empty) 1 16 Tryz.underlying45 hi hz0 hz1 hz2 rfl (by decide) ov Z.length (Z.map limKeyV) rfl HR3.out ⟨w2.heap.size, 0, none⟩ 1 1 [.string who] rfl rfl (cell_one_new _ _ _) (by simp [Value.oneCell']) Q3.out Q4.out Q5.out ?_))
          intro v' w4 hr4 hg4
          obtain ⟨e1, e2⟩ := HE.out v' w4 hr4 (by have h := hg4; rw [HW2.out] at h; exact h)
          have h4 := (HL2.out w4 hg4).2
          have f3 : w4.cell? ⟨lp, 3, none⟩ = some ov := by rw [heap_cell h4]; rfl
          have f3' : w4.frozen? ⟨lp, 3, none⟩ = false := heap_frozen h4 _
          have f2 : w4.cell? ⟨lp, 2, none⟩ = some (.map (some mb)) := by rw [heap_cell h4]; rfl
          obtain ⟨g, off, cap, rfl, hcap, hBg, hcg, hfg, cur, hcur, _⟩ := hr4.form (by omega)
          have hne : g ≠ lp := heap_ne hcur h4 (by simp)
          -- the eldest's text
          have k0 : w4.cell? ⟨g, off, none⟩ = some (.string z0.1.1) := by
            have := hcg 0 (.string z0.1.1) (by rw [HZ0.out]; rfl)
            simpa using this
          have hl2 : (Z.length : Int) = 1000 := by have := HL1.out; have := HFu.out; omega
          have hl3 : ((cap : Nat) : Int) = cap := rfl
          go_upto_if 56 with fail
          clear hup c1 c2 c3 d1 d2 d2a d3 f3 f3' f2
          generalize hw5 : w4.setCell ⟨lp, 3, none⟩ (.slice (some ⟨g, off, none⟩) (Z.length + 1) cap) = w5 at *
          have g2 : w5.cell? ⟨lp, 2, none⟩ = some (.map (some mb)) := by rw [heap_cell e1.lim]; rfl
          have g3 : w5.cell? ⟨lp, 3, none⟩ = some (.slice (some ⟨g, off, none⟩) (Z.length + 1) cap) := by rw [heap_cell e1.lim]; rfl
          have g0 : w5.cell? ⟨g, off, none⟩ = some (.string z0.1.1) := by
            rw [← hw5]
            exact (World.cell?_setCell_other _ _ _ _ (fun e => hne (by cases e; rfl))).trans k0
          have e1' := e1
          rw [HZ0.out, List.cons_append] at e1'
          have hS : z0.1 :: Zr.map (·.1) = S := by rw [← HZ.out, HZ0.out]; rfl
          have hsz : ∀ x ∈ z0 :: (Zr ++ [((who, burst, now), w.heap.size)]), x.1.1.size ≤ 7 := by
            intro x hx
            rw [← List.cons_append, List.mem_append] at hx
            rcases hx with hx | hx
            · exact HG.out.size x.1 (by rw [← hS]; exact List.mem_map_of_mem (f := (·.1)) hx)
            · rw [List.mem_singleton] at hx; subst hx; exact HW.out
          have hnn : ∀ x ∈ Zr ++ [((who, burst, now), w.heap.size)], x.1.1 ≠ z0.1.1 := by
            intro x hx
            rw [List.mem_append] at hx
            rcases hx with hx | hx
            · have := HG.out.keys
              rw [← hS] at this
              exact fun e => (List.pairwise_cons.1 this).1 x.1 (List.mem_map_of_mem hx) e.symm
            · rw [List.mem_singleton] at hx; subst hx
              exact fun e => lim.place_not HPn.out z0.1 (by rw [← hS]; exact List.mem_cons_self) e.symm
          obtain ⟨es6, c6, hdel, hm6⟩ := Lim.delete_first (w1 := w5.drew) (z := z0) (Z := Zr ++ [((who, burst, now), w.heap.size)]) e1'.map.drew hsz hnn
          have hlen : (Zr ++ [((who, burst, now), w.heap.size)]).length = Z.length := by rw [HZ0.out]; simp
          have hst := Lim.struck (w := w5.drew) (z := z0) (g := g) (off := off) (cap := cap) (es := es6) (c := c6) (by rw [hlen, HZ0.out]; exact e1'.drew) hm6
          rw [hlen] at hst
          have h6 : (putMap w5.drew mb es6 c6).heap[lp]? = some (.cells #[.int .i64 rate, .int .i64 burst, .map (some mb), .slice (some ⟨g, off, none⟩) (Z.length + 1) cap] 61 (0, 0)) := by
            have hl := e1.lim
            obtain ⟨es0, cc0, hm0, _⟩ := e1.map
            rw [putMap_grown.block lp (heap_lt (w := w5.drew) hl) (fun e => heap_ne hl hm0 (by simp) (Option.some.inj e))]
            exact hl
          have g6 : (putMap w5.drew mb es6 c6).cell? ⟨lp, 3, none⟩ = some (.slice (some ⟨g, off, none⟩) (Z.length + 1) cap) := by rw [heap_cell h6]; rfl
          have g6f : (putMap w5.drew mb es6 c6).frozen? ⟨lp, 3, none⟩ = false := heap_frozen h6 _
          have hfin : Mid w B lp rate burst (lim.enter burst now S who).1 (lim.enter burst now S who).2 (.pointer (some ⟨w.heap.size, 0, none⟩)) ((putMap w5.drew mb es6 c6).setCell ⟨lp, 3, none⟩ (.slice (some ⟨g, off + 1, none⟩) Z.length (cap - 1))) := by
            unfold lim.enter
            rw [if_neg HPn.out, if_neg (by have := HFu.out; omega)]
            refine ⟨_, _, _, ((who, burst, now), w.heap.size), ?_, hst.1, ?_, rfl, (e2.drew).trans hst.2⟩
            · rw [← hS]; simp
            · dsimp only
              have : S.length - 1 = Zr.length := by rw [← hS]; simp
              rw [this, List.getElem?_append_right (Nat.le_refl _), Nat.sub_self]; rfl
          have HF := Lib.hid hfin
          clear hw5 e1 e1' e2 k0 hm6 hcg hfg hr4 hg4 h4 hcur hst h6 hS hsz hnn hlen hfin
          generalize hw6 : putMap w5.drew mb es6 c6 = w6 at *
          clear hw6
          go_wp2
          go_region
          go_wp2
          go_meet
          exact HF.out
    case rest =>
      obtain ⟨Z1, mb1, ov1, z, hZ1, hL1, hzk, rfl, hfr⟩ := hcut
      have hmem := List.mem_of_getElem? hzk
      have hzs := hL1.seen z hmem
      clear c1 c2 c3 HP HI hZ hL
      obtain ⟨⟨zw, zl, zt⟩, zb⟩ := z
      have c0 : wc.cell? ⟨lp, 0, none⟩ = some (.int .i64 rate) := by rw [heap_cell hL1.lim]; rfl
      have c1 : wc.cell? ⟨lp, 1, none⟩ = some (.int .i64 burst) := by rw [heap_cell hL1.lim]; rfl
      have s0 : wc.cell? ⟨zb, 0, none⟩ = some (.int .i64 zl) := by rw [heap_cell hzs.2]; rfl
      have s1 : wc.cell? ⟨zb, 1, none⟩ = some (.int .i64 zt) := by rw [heap_cell hzs.2]; rfl
      have sf : ∀ i, wc.frozen? ⟨zb, i, none⟩ = false := heap_frozen hzs.2
      have hne : lp ≠ zb := heap_ne hL1.lim hzs.2 (by simp)
      obtain ⟨hgood, _⟩ := lim.enter_good (S := S) (who := who) hb0 ⟨hn0, hn1⟩ HW.out HG.out
      rw [← hZ1] at hgood
      have hb := hgood.left (zw, zl, zt) (List.mem_map_of_mem (f := (·.1)) hmem)
      have htm := hgood.time (zw, zl, zt) (List.mem_map_of_mem (f := (·.1)) hmem)
      have hask := lim.ask_at (rate := rate) (burst := burst) (now := now) (S := S) (who := who) (w' := zw) (x := (zl, zt)) (by rw [← hZ1, List.getElem?_map, hzk]; rfl)
      rw [← hZ1] at hask
      obtain ⟨l0, l1⟩ := hb
      obtain ⟨t0, t1⟩ := htm
      dsimp only at l0 l1 t0 t1
      have hfin := fun (w' : World) (r : Bool) (x : Int × Int) ha hw hg => hL1.finish (w' := w') (r := r) (x := x) (now := now) (S := S) (who := who) hzk hfr ha hw hg
      have HFIN := Lib.hid hfin; have HASK := Lib.hid hask; have HZS := Lib.hid hzs
      clear hL1 hzk hZ1 hfr hzs hmem hgood hask hfin
      by_cases ht : zt < now
      · by_cases hr : 0 < rate
        · have e9 : IntKind.u64.wrap (IntKind.u64.wrap now - IntKind.u64.wrap zt) = now - zt := gone_go t0 hn1 ht
          have HV := Lib.hid (refill_go hr0 hr1 hb0 hb1 l0 l1 hr ht)
          go_wp2
          clear e9
          have e10 : IntKind.u64.wrap burst = burst := by rw [IntKind.wrap_u64]; omega
          go_region
          rw [HV.out.1]
          obtain ⟨_, n1, n2, n3⟩ := HV.out
          have hask := HASK.out
          rw [if_neg (by omega), n3] at hask
          have HASK2 := Lib.hid hask
          clear HV HASK n3 hask
          generalize (lim.refill rate burst now (zl, zt)).1 = nl at *
          have bz : (nl == 0) = false := by rw [beq_eq_false_iff_ne]; omega
          go_wp2
          all_goals
            go_ret
            rw [HWHO.out]
            refine HFIN.out _ _ (nl - 1, now) HASK2.out ?_ ?_
            · exact heap_set_at (heap_set_at (w := (wc.setCell ⟨zb, 0, none⟩ (.int .i64 nl)).drew) (heap_set_at HZS.out.2 0 (.int .i64 nl)) 1 (.int .i64 now)) 0 (.int .i64 (nl - 1))
            · exact grownBy_trans (grownBy_trans (grownBy_drew (grownBy_setCell wc ⟨zb, 0, none⟩ (.int .i64 nl))) (grownBy_setCell _ ⟨zb, 1, none⟩ _)) (grownBy_setCell _ ⟨zb, 0, none⟩ _)
        · have hrf : lim.refill rate burst now (zl, zt) = (zl, now) := by unfold lim.refill; rw [if_pos (by exact ht), if_neg hr]
          have hask := HASK.out
          rw [hrf] at hask
          by_cases hz : zl = 0
          · rw [if_pos hz] at hask
            have HASK2 := Lib.hid hask
            have bz : (zl == 0) = true := by rw [beq_iff_eq]; exact hz
            clear hrf hask hz HASK
            go_wp2
            go_ret
            rw [HWHO.out]
            exact HFIN.out _ _ (zl, now) HASK2.out (heap_set_at HZS.out.2 1 _) (grownBy_setCell _ ⟨zb, 1, none⟩ _)
          · rw [if_neg hz] at hask
            have HASK2 := Lib.hid hask
            have bz : (zl == 0) = false := by rw [beq_eq_false_iff_ne]; exact hz
            clear hrf hask hz HASK
            go_wp2
            go_ret
            rw [HWHO.out]
            exact HFIN.out _ _ (zl - 1, now) HASK2.out (heap_set_at (heap_set_at HZS.out.2 1 _) 0 _) (grownBy_trans (grownBy_setCell _ ⟨zb, 1, none⟩ _) (grownBy_setCell _ ⟨zb, 0, none⟩ _))
      · have hrf : lim.refill rate burst now (zl, zt) = (zl, zt) := by unfold lim.refill; rw [if_neg (by exact ht)]
        have hask := HASK.out
        rw [hrf] at hask
        by_cases hz : zl = 0
        · rw [if_pos hz] at hask
          have HASK2 := Lib.hid hask
          have bz : (zl == 0) = true := by rw [beq_iff_eq]; exact hz
          clear hrf hask hz HASK
          go_wp2
          go_ret
          rw [HWHO.out]
          exact HFIN.out _ _ (zl, zt) HASK2.out HZS.out.2 (World.grownBy.refl _ _)
        · rw [if_neg hz] at hask
          have HASK2 := Lib.hid hask
          have bz : (zl == 0) = false := by rw [beq_eq_false_iff_ne]; exact hz
          clear hrf hask hz HASK
          go_wp2
          go_ret
          rw [HWHO.out]
          exact HFIN.out _ _ (zl - 1, zt) HASK2.out (heap_set_at HZS.out.2 0 _) (grownBy_setCell _ ⟨zb, 0, none⟩ _)

set_option maxRecDepth 100000 in
theorem allow_bad (s : ByteArray) (now : Int) (p : Value) (w : World) (hs : addrB s = false) :
    Calls Tryz.prog 16 #[p, .string s, .int .i64 now] w fun e w' => e = .returned (.bool false) ∧ w = w' := by
  go_enter Tryz.func16, Tryz.ntmps16
  go_wp2_with (first | (go_at_call 37; refine (address_any _ _).mono ?_; rintro e w' ⟨rfl, rfl⟩))
  go_ret
  exact ⟨rfl, rfl⟩

/-- (*policy.Limiter).Allow. -/
theorem allow_any (s : ByteArray) (now : Int) (B lp : Nat) (rate burst : Int) (S : List lim.One) (w : World) (hg : lim.Good burst S)
    (hr0 : 0 ≤ rate) (hr1 : rate ≤ 1000) (hb0 : 1 ≤ burst) (hb1 : burst ≤ 1000) (hn0 : -9223372036854775808 ≤ now) (hn1 : now ≤ 9223372036854775807)
    (hinv : LimInv w B lp rate burst S) :
    Calls Tryz.prog 16 #[.pointer (some ⟨lp, 0, none⟩), .string s, .int .i64 now] w fun e w' =>
      e = .returned (.bool (lim.allow rate burst now S s).1) ∧ LimInv w' B lp rate burst (lim.allow rate burst now S s).2 ∧ Fr B LimT w w' := by
  by_cases hs : addrB s = true
  · have h : s.size = 4 ∨ s.size = 16 := by simpa [addrB] using hs
    have ha : lim.allow rate burst now S s = lim.ask rate burst now S (lim.keyOf s) := by unfold lim.allow; rw [if_pos h]
    rw [ha]
    exact allow_ask s now B lp rate burst S w hs hg hr0 hr1 hb0 hb1 hn0 hn1 hinv
  · have hs' : addrB s = false := by simpa using hs
    have h : ¬ (s.size = 4 ∨ s.size = 16) := by intro h; exact hs (by simpa [addrB] using h)
    have ha : lim.allow rate burst now S s = (false, S) := by unfold lim.allow; rw [if_neg h]
    rw [ha]
    exact (allow_bad s now _ w hs').mono fun e w' ⟨he, hw⟩ => ⟨he, by rw [← hw]; exact hinv, by rw [← hw]; exact Fr.refl _ _ _⟩
end Go.Proofs.YtnloommafgnanaaGreat

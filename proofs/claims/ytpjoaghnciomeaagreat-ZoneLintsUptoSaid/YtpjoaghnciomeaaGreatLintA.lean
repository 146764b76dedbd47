/-
  zone.Lint.
-/
import Derived.Test.YtpjoaghnciomeaaGreatLint
namespace Go.Proofs.YtpjoaghnciomeaaGreat
open Go.RowKit Go.Shelf Go.WideMaps Go.Proofs.YtpjoaghnciomeaaGreat.nm Go.Proofs.YtpjoaghnciomeaaGreat.od

/-- What is unwise. -/
structure Fd where
  code : Int
  owner : ByteArray
  typ : Int
  target : ByteArray
  deriving DecidableEq
@[reducible] def fdC (f : Fd) : List Value := [.int .i64 f.code, .string f.owner, .int .i64 f.typ, .string f.target]
def fdsC (l : List Fd) : List Value := l.flatMap fdC
theorem fdsC_app (l : List Fd) (f : Fd) : fdsC (l ++ [f]) = fdsC l ++ fdC f := by unfold fdsC; rw [List.flatMap_append]; simp
theorem info_fd : (Tryz.prog.info? 64).map (fun i => (i.zero, i.size, i.bytes)) = some (some (.agg #[.int .i64 0, .string ⟨#[]⟩, .int .i64 0, .string ⟨#[]⟩]), 4, 48) := by kernel_rfl

namespace zn
/-- The last name in data. -/
def lastName (t : Int) (d : ByteArray) : ByteArray := match dt.formF t with
  | some fs => match dt.splitF fs d [] with
    | some (ps, _) => (dt.nameParts fs ps).getLast?.getD ByteArray.empty
    | none => ByteArray.empty
  | none => ByteArray.empty
/-- What is unwise of a record. -/
def lint1 (apex : ByteArray) (L : List Rec) (r : Rec) : List Fd :=
  if hiddenR apex L r = true then [⟨4, r.owner, r.typ, ByteArray.empty⟩]
  else if r.typ ≠ 2 ∧ r.typ ≠ 15 ∧ r.typ ≠ 33 then []
  else if targetR apex L r.typ (lastName r.typ r.data) ≠ 0 then [⟨targetR apex L r.typ (lastName r.typ r.data), r.owner, r.typ, lastName r.typ r.data⟩] else []
def lone (apex : ByteArray) (L : List Rec) : List Fd := if (rowsS L (foldS apex, 2)).length = 1 then [⟨1, apex, 2, ByteArray.empty⟩] else []
def lintR (apex : ByteArray) (L : List Rec) : List Fd := lone apex L ++ L.flatMap (lint1 apex L)
def lintTo (apex : ByteArray) (L : List Rec) (k : Nat) : List Fd := lone apex L ++ (L.take k).flatMap (lint1 apex L)
theorem lintTo_next {apex : ByteArray} {L : List Rec} {k : Nat} (h : k < L.length) : lintTo apex L (k + 1) = lintTo apex L k ++ lint1 apex L L[k] := by
  unfold lintTo
  rw [List.take_succ_eq_append_getElem h, List.flatMap_append, ← List.append_assoc]
  simp
theorem lintTo_all (apex : ByteArray) (L : List Rec) : lintTo apex L L.length = lintR apex L := by unfold lintTo lintR; rw [List.take_length]
theorem lint1_len (apex : ByteArray) (L : List Rec) (r : Rec) : (lint1 apex L r).length ≤ 1 := by
  unfold lint1
  split
  · simp
  · split
    · simp
    · split <;> simp
theorem lintTo_len (apex : ByteArray) (L : List Rec) : ∀ k, k ≤ L.length → (lintTo apex L k).length ≤ k + 1
  | 0, _ => by
    unfold lintTo lone
    simp
    split <;> simp
  | k + 1, h => by
    have h1 := lintTo_len apex L k (by omega)
    have h2 := lint1_len apex L L[k]
    rw [lintTo_next (by omega), List.length_append]
    omega
/-- Data that hold a name, and it is the last. -/
theorem named_data {t : Int} {d : ByteArray} (ht : t = 2 ∨ t = 15 ∨ t = 33) (h : dt.chkI t d = 0) : ∃ fs ps r0 s, dt.formF t = some fs ∧ dt.splitF fs d [] = some (ps, r0) ∧ dt.nameParts fs ps = [s] ∧ lastName t d = s ∧ d.size ≤ 65535 := by
  unfold dt.chkI at h
  split at h
  · split at h
    · cases h
    · rename_i hs
      split at h
      · rename_i hf
        unfold dt.fits at hf
        have hfs : ∃ fs, dt.formF t = some fs ∧ (fs = [.host] ∨ fs = [.num 2, .host] ∨ fs = [.num 2, .num 2, .num 2, .host]) := by
          rcases ht with rfl | rfl | rfl
          · exact ⟨_, rfl, .inl rfl⟩
          · exact ⟨_, rfl, .inr (.inl rfl)⟩
          · exact ⟨_, rfl, .inr (.inr rfl)⟩
        obtain ⟨fs, hfs, hcase⟩ := hfs
        rw [hfs] at hf
        simp only at hf
        split at hf
        · rename_i ps r0 hsp
          have hl := (dt.splitF_len fs d [] ps r0 hsp).1
          have : ∃ s, dt.nameParts fs ps = [s] := by
            rcases hcase with rfl | rfl | rfl
            · rcases ps with _ | ⟨p1, _ | ⟨p2, l⟩⟩ <;> simp at hl
              exact ⟨p1, rfl⟩
            · rcases ps with _ | ⟨p1, _ | ⟨p2, _ | ⟨p3, l⟩⟩⟩ <;> simp at hl
              exact ⟨p2, rfl⟩
            · rcases ps with _ | ⟨p1, _ | ⟨p2, _ | ⟨p3, _ | ⟨p4, _ | ⟨p5, l⟩⟩⟩⟩⟩ <;> simp at hl
              exact ⟨p4, rfl⟩
          obtain ⟨s, hns⟩ := this
          refine ⟨fs, ps, r0, s, hfs, hsp, hns, ?_, by omega⟩
          unfold lastName
          rw [hfs]
          simp only [hsp, hns]
          rfl
        · cases hf
      · cases h
  · cases h
end zn

/-- A list of findings of its own. -/
def NewFds (l : List Fd) (w : World) (e : Ending) (w' : World) : Prop := ∃ v, e = .returned v ∧ Below w.heap.size w w' ∧ w'.ownsRow w.heap.size 64 4 v l.length (fdsC l)

set_option maxRecDepth 100000 in
set_option maxHeartbeats 4000000 in
theorem lint_any (top z : Nat) (apex : ByteArray) (L : List Rec) (hva : zn.Valid apex L) (w : World) (hz : ZoneF w top z apex L) :
    Calls Tryz.prog 37 #[.pointer (some ⟨z, 0, none⟩)] w fun e w' => NewFds (zn.lintR apex L) w e w' := by
  obtain ⟨base, rg, cap, sb, tb, l0, _, hzc, h3, _⟩ := hz.v.parts
  have z0 : w.cell? ⟨z, 0, none⟩ = some (.string apex) := by rw [heap_cell hzc]; rfl
  have hzl := heap_lt hzc
  have hL := hz.small
  obtain ⟨i0, hi0, hz0, hz1, hz2⟩ := info_parts info_fd
  have HI := Lib.hid hi0; have HZ0 := Lib.hid hz0; have HZ1 := Lib.hid hz1; have HZ2 := Lib.hid hz2
  have HZ := Lib.hid hz; have HZC := Lib.hid hzc; have HRV := Lib.hid (owns_recs h3); have HVA := Lib.hid hva
  clear hzc hz h3 hva hi0 hz0 hz1 hz2
  go_enter Tryz.func37, Tryz.ntmps37
  go_wp2_with fail
  refine (set_any top z apex L hL apex 2 rfl _ HZ.out.v).mono ?_
  rintro e w1 ⟨v1, rfl, hB1, hown1⟩
  obtain ⟨a1, cap1, rfl, _⟩ := ownsRow_len hown1
  obtain ⟨m, hm⟩ : ∃ m, m = (zn.rowsS L (foldS apex, 2)).length := ⟨_, rfl⟩
  rw [← hm]
  have hzc1 := (hB1.block z hzl).trans HZC.out
  have z0' : w1.cell? ⟨z, 0, none⟩ = some (.string apex) := by rw [heap_cell hzc1]; rfl
  have z1' : w1.cell? ⟨z, 1, none⟩ = some (.slice (some ⟨rg, 0, none⟩) L.length cap) := by rw [heap_cell hzc1]; rfl
  have HB1 := Lib.hid hB1; have HM := Lib.hid hm
  have hs1 := hB1.size
  clear hB1 hown1 hm hzc1 z0
  have hm63 : m ≤ 2000 := by rw [HM.out]; exact Nat.le_trans (rowsS_len L _) hL
  go_upto_if 16 with fail
  go_cut [3] (fun s wx => wx.ownsRow w.heap.size 64 4 s (zn.lone apex L).length (fdsC (zn.lone apex L)) ∧ Below w.heap.size w wx)
  case first =>
    by_cases h1 : m = 1
    · have b1 : ((m : Int) == 1) = true := by rw [beq_iff_eq]; omega
      have hlo : zn.lone apex L = [⟨1, apex, 2, ByteArray.empty⟩] := by unfold zn.lone; rw [if_pos (by rw [← HM.out]; exact h1)]
      have HLO := Lib.hid hlo
      have HB2 := Lib.hid (HB1.out.alloc hs1 (.cells #[.int .i64 1, .string apex, .int .i64 2, .string ⟨#[]⟩] 64))
      have HNEWS := Lib.hid (news_at w1 [.int .i64 1, .string apex, .int .i64 2, .string ⟨#[]⟩] 64)
      have p3 : w.heap.size ≤ (w1.alloc (.cells #[.int .i64 1, .string apex, .int .i64 2, .string ⟨#[]⟩] 64)).heap.size := by simp; omega
      have P3 := Lib.hid p3
      clear h1 hlo p3
      go_wp2_with (at_builtin; refine wpList_append_own _ rfl _ _ 61 rfl w.heap.size 64 i0 (.agg #[.int .i64 0, .string ⟨#[]⟩, .int .i64 0, .string ⟨#[]⟩]) 4 48 Tryz.underlying61 HI.out HZ0.out HZ1.out HZ2.out rfl (by decide) _ 0 [] rfl (World.ownsRow_nil _ _ _ _) ⟨w1.heap.size, 0, none⟩ 1 1 [.int .i64 1, .string apex, .int .i64 2, .string ⟨#[]⟩] rfl rfl HNEWS.out (by simp [Value.oneCell']) (by unfold maxLen; omega) (by omega) P3.out ?_)
      intro v' w3 hown3 hg3 hnn
      have HOWN3 := Lib.hid hown3
      have HB3 := Lib.hid (HB2.out.grown hg3 P3.out (fun j hj => by cases hj))
      clear hown3 hg3 hnn
      go_wp2_with fail
      go_meet
      rw [HLO.out]
      exact ⟨HOWN3.out, HB3.out⟩
    · have b1 : ((m : Int) == 1) = false := by rw [beq_eq_false_iff_ne]; omega
      have hlo : zn.lone apex L = [] := by unfold zn.lone; rw [if_neg (by rw [← HM.out]; exact h1)]
      have HLO := Lib.hid hlo
      clear h1 hlo
      go_wp2_with fail
      go_meet
      rw [HLO.out]
      exact ⟨World.ownsRow_nil _ _ _ _, HB1.out⟩
  case rest =>
  obtain ⟨hown, hB⟩ := hcut
  obtain ⟨a3, cap3, rfl, _⟩ := ownsRow_len hown
  have hzc := (hB.block z hzl).trans HZC.out
  have z1c : wc.cell? ⟨z, 1, none⟩ = some (.slice (some ⟨rg, 0, none⟩) L.length cap) := by rw [heap_cell hzc]; rfl
  have HOWN := Lib.hid hown; have HB := Lib.hid hB
  clear hown hB hzc z0' z1'
  go_wp2_with fail
  clear z1c
  go_loopw [30, 3, 5, 6, 7, 8] (fun kv ov _ _ _ _ wr => ∃ k : Nat, k ≤ L.length ∧ kv = .int .i64 (k : Int) ∧ wr.ownsRow w.heap.size 64 4 ov (zn.lintTo apex L k).length (fdsC (zn.lintTo apex L k)) ∧ Below w.heap.size w wr) (fun kv _ _ _ _ _ _ => L.length - (intOf kv).toNat)
  case atStart => exact ⟨0, Nat.zero_le _, rfl, by unfold zn.lintTo; simpa using HOWN.out, HB.out⟩
  case round =>
    obtain ⟨k, hk, rfl, hown, hB⟩ := hrel
    obtain ⟨ao, co, rfl, _⟩ := ownsRow_len hown
    have hsr := hB.size
    have HOW := Lib.hid hown; have HBR := Lib.hid hB
    by_cases hlt : k < L.length
    · obtain ⟨a', cap', hv, _, hr⟩ := RecsAt.below HRV.out hB
      simp only [Value.slice.injEq, true_and] at hv
      obtain ⟨rfl, rfl⟩ := hv
      obtain ⟨b, off, hbo, hbl, c0, c1, c2, c3, c4⟩ := hr k hlt
      simp only [Option.some.injEq, Addr.mk.injEq, and_true] at hbo
      obtain ⟨rfl, rfl⟩ := hbo
      simp only [Nat.zero_add] at hbl c0 c1 c2 c3 c4
      obtain ⟨x, hx⟩ : ∃ x, x = L[k] := ⟨_, rfl⟩
      have hxm : x ∈ L := by rw [hx]; exact List.getElem_mem hlt
      rw [← hx] at c0 c1 c2 c3 c4
      have hnx := zn.lintTo_next (apex := apex) hlt
      rw [← hx] at hnx
      have hlen := zn.lintTo_len apex L k (by omega)
      obtain ⟨wx, hwx⟩ : ∃ X, X = wr.alloc (.cells (recC x).toArray 53) := ⟨_, rfl⟩
      have hBx : Below w.heap.size w wx := by rw [hwx]; exact hB.alloc hsr _
      have hxb : wx.heap[wr.heap.size]? = some (.cells (recC x).toArray 53 (0, 0)) := by rw [hwx]; exact heap_new_at rfl
      have hownx : wx.ownsRow w.heap.size 64 4 (.slice ao (zn.lintTo apex L k).length co) (zn.lintTo apex L k).length (fdsC (zn.lintTo apex L k)) := by rw [hwx]; exact ownsRow_keepOne hown fun b hb => Below.heap_alloc wr _ b (hown.lt b hb).2
      obtain ⟨x0, x1, x2, x3, x4, _, _, _, _, _⟩ := found_facts hxb
      have HWX := Lib.hid hwx; have HBX := Lib.hid hBx; have HXB := Lib.hid hxb; have HOWX := Lib.hid hownx; have HXM := Lib.hid hxm; have HNX := Lib.hid hnx
      have hsx : wx.heap.size = wr.heap.size + 1 := by rw [hwx]; simp
      have hsx0 := hBx.size
      clear hx hwx hBx hxb hownx hxm hnx hr hown hB
      go_upto_region 7 with fail
      rw [← HWX.out]
      clear c0 c1 c2 c3 c4
      go_wp2_with fail
      refine (hidden_any top z apex L x (HVA.out.each x HXM.out).2.2 wx (HZ.out.kept HBX.out)).mono ?_
      rintro e w4 ⟨rfl, hB4⟩
      have hs4 := hB4.size
      have hxb := (hB4.block wr.heap.size (by omega)).trans HXB.out
      have hown4 := ownsRow_keepOne HOWX.out fun b hb => hB4.block b (HOWX.out.lt b hb).2
      obtain ⟨y0, y1, y2, y3, y4, _, _, _, _, _⟩ := found_facts hxb
      have HB4 := Lib.hid (HBX.out.trans (hB4.mono (by omega))); have HXB4 := Lib.hid hxb; have HOW4 := Lib.hid hown4
      clear hB4 hxb hown4 x0 x1 x2 x3 x4
      cases hh : zn.hiddenR apex L x
      · have hck : dt.chkI x.typ x.data = 0 := by
          have h := (HVA.out.each x HXM.out).2.1
          unfold zn.bad1 at h
          simp only [Bool.not_eq_false', Bool.and_eq_true, decide_eq_true_eq] at h
          exact h.2
        have HH := Lib.hid hh; have HCK := Lib.hid hck
        clear hh hck
        obtain ⟨bb, hbb⟩ : ∃ b, b = (!decide (x.typ = 2) && !decide (x.typ = 15) && !decide (x.typ = 33)) := ⟨_, rfl⟩
        have HBB := Lib.hid hbb
        clear hbb
        go_upto_region 9 with fail
        go_cut [57] (fun s wx' => s = .bool bb ∧ wx' = w4)
        case first =>
          by_cases t2 : x.typ = 2
          · have d2 : (x.typ != 2) = false := by rw [bne_eq_false_iff_eq]; exact t2
            have T2 := Lib.hid t2
            clear t2
            go_wp2_with fail
            go_meet
            exact ⟨by rw [HBB.out, decide_eq_true T2.out]; rfl, rfl⟩
          · have d2 : (x.typ != 2) = true := by rw [bne_iff_ne]; exact t2
            have T2 := Lib.hid t2
            clear t2
            by_cases t15 : x.typ = 15
            · have d15 : (x.typ != 15) = false := by rw [bne_eq_false_iff_eq]; exact t15
              have T15 := Lib.hid t15
              clear t15
              go_wp2_with fail
              go_meet
              exact ⟨by rw [HBB.out, decide_eq_false T2.out, decide_eq_true T15.out]; rfl, rfl⟩
            · have d15 : (x.typ != 15) = true := by rw [bne_iff_ne]; exact t15
              have T15 := Lib.hid t15
              clear t15
              by_cases t33 : x.typ = 33
              · have d33 : (x.typ != 33) = false := by rw [bne_eq_false_iff_eq]; exact t33
                have T33 := Lib.hid t33
                clear t33
                go_wp2_with fail
                go_meet
                exact ⟨by rw [HBB.out, decide_eq_false T2.out, decide_eq_false T15.out, decide_eq_true T33.out]; rfl, rfl⟩
              · have d33 : (x.typ != 33) = true := by rw [bne_iff_ne]; exact t33
                have T33 := Lib.hid t33
                clear t33
                go_wp2_with fail
                go_meet
                exact ⟨by rw [HBB.out, decide_eq_false T2.out, decide_eq_false T15.out, decide_eq_false T33.out]; rfl, rfl⟩
        case rest =>
        obtain ⟨rfl, hwe⟩ := hcut
        rw [hwe]
        clear hwe
        cases bb
        · have ht : x.typ = 2 ∨ x.typ = 15 ∨ x.typ = 33 := by
            have h := HBB.out
            by_cases t2 : x.typ = 2
            · exact .inl t2
            · by_cases t15 : x.typ = 15
              · exact .inr (.inl t15)
              · by_cases t33 : x.typ = 33
                · exact .inr (.inr t33)
                · rw [decide_eq_false t2, decide_eq_false t15, decide_eq_false t33] at h; cases h
          obtain ⟨fs, ps, r0, s, q1, q2, q3, q4, q5⟩ := zn.named_data ht HCK.out
          have HDN := Lib.hid (dnames_form x.typ x.data fs ps r0 HCK.out q1 q2 q5 w4)
          have hl1 : zn.lint1 apex L x = if zn.targetR apex L x.typ s ≠ 0 then [⟨zn.targetR apex L x.typ s, x.owner, x.typ, s⟩] else [] := by
            unfold zn.lint1
            rw [if_neg (by rw [HH.out]; simp), if_neg (by omega), q4]
          have HL1 := Lib.hid hl1; have HQ3 := Lib.hid q3
          clear ht q1 q2 q3 q4 q5 hl1
          go_wp2_with fail
          refine HDN.out.mono ?_
          rintro e w5 ⟨v5, rfl, hB5, hown5⟩
          rw [HQ3.out] at hown5
          obtain ⟨g, cap5, rfl, hg5, hg5'⟩ := hown5.form (by simp)
          have cs : w5.cell? ⟨g, 0, none⟩ = some (.string s) := by
            have h := hown5.cells (g := g) rfl 0 (.string s) (by simp)
            simpa [Addr.add] using h
          have hxb := (hB5.block wr.heap.size (by omega)).trans HXB4.out
          obtain ⟨y0, y1, y2, y3, y4, _, _, _, _, _⟩ := found_facts hxb
          have hs5 := hB5.size
          have HB5 := Lib.hid (HB4.out.trans (hB5.mono (by omega))); have HXB5 := Lib.hid hxb; have HOW5 := Lib.hid (ownsRow_keepOne HOW4.out fun b hb => hB5.block b (HOW4.out.lt b hb).2)
          have hlen1 : ([s] : List ByteArray).length = 1 := rfl
          rw [hlen1]
          clear hB5 hown5 hxb
          go_wp2_with fail
          refine (target_any top z apex L x s w5 (HZ.out.kept HB5.out)).mono ?_
          rintro e w6 ⟨rfl, hB6⟩
          obtain ⟨c, hc⟩ : ∃ c, c = zn.targetR apex L x.typ s := ⟨_, rfl⟩
          rw [← hc]
          have hxb := (hB6.block wr.heap.size (by omega)).trans HXB5.out
          have HB6 := Lib.hid (HB5.out.trans (hB6.mono (by omega))); have HOW6 := Lib.hid (ownsRow_keepOne HOW5.out fun b hb => hB6.block b (HOW5.out.lt b hb).2)
          have hs6 := hB6.size
          clear cs y0 y1 y2 y3 y4
          obtain ⟨y0, y1, y2, y3, y4, _, _, _, _, _⟩ := found_facts hxb
          have HC := Lib.hid hc
          clear hB6 hxb hc
          by_cases hc0 : c = 0
          · have b0 : (c != 0) = false := by rw [bne_eq_false_iff_eq]; exact hc0
            have hl1 : zn.lint1 apex L x = [] := by rw [HL1.out, ← HC.out, if_neg (fun h => h hc0)]
            have HLE := Lib.hid hl1
            clear hc0 hl1
            go_wp2_with fail
            go_roundw
            case rel =>
              refine ⟨k + 1, by omega, by go_num, ?_, HB6.out⟩
              rw [HNX.out, HLE.out, List.append_nil]
              exact HOW6.out
            case measure => simp [intOf]; omega
          · have b0 : (c != 0) = true := by rw [bne_iff_ne]; exact hc0
            have hl1 : zn.lint1 apex L x = [⟨c, x.owner, x.typ, s⟩] := by rw [HL1.out, ← HC.out, if_pos hc0]
            have HLE := Lib.hid hl1
            have HB7 := Lib.hid (HB6.out.alloc (by omega) (.cells #[.int .i64 c, .string x.owner, .int .i64 x.typ, .string s] 64))
            have HOW7 := Lib.hid (ownsRow_keepOne HOW6.out fun b hb => Below.heap_alloc w6 (.cells #[.int .i64 c, .string x.owner, .int .i64 x.typ, .string s] 64) b (HOW6.out.lt b hb).2)
            have HNEWS := Lib.hid (news_at w6 [.int .i64 c, .string x.owner, .int .i64 x.typ, .string s] 64)
            have p1 : (zn.lintTo apex L k).length + 1 ≤ maxLen := by unfold maxLen; omega
            have p2 : ((zn.lintTo apex L k).length + 1) * 48 ≤ 140737488355328 := by omega
            have p3 : w.heap.size ≤ (w6.alloc (.cells #[.int .i64 c, .string x.owner, .int .i64 x.typ, .string s] 64)).heap.size := by simp; omega
            have P1 := Lib.hid p1; have P2 := Lib.hid p2; have P3 := Lib.hid p3
            clear hc0 hl1 p1 p2 p3
            go_wp2_with (at_builtin; refine wpList_append_own _ rfl _ _ 61 rfl w.heap.size 64 i0 (.agg #[.int .i64 0, .string ⟨#[]⟩, .int .i64 0, .string ⟨#[]⟩]) 4 48 Tryz.underlying61 HI.out HZ0.out HZ1.out HZ2.out rfl (by decide) _ _ _ rfl HOW7.out ⟨w6.heap.size, 0, none⟩ 1 1 [.int .i64 c, .string x.owner, .int .i64 x.typ, .string s] rfl rfl HNEWS.out (by simp [Value.oneCell']) P1.out P2.out P3.out ?_)
            intro v' w10 hown10 hg10 hnn
            have HB10 := Lib.hid (HB7.out.grown hg10 P3.out (fun j hj => (HOW7.out.lt j hj).1)); have HOWN10 := Lib.hid hown10
            clear hown10 hg10 hnn y0 y1 y2 y3 y4
            go_wp2_with fail
            go_roundw
            case rel =>
              refine ⟨k + 1, by omega, by go_num, ?_, HB10.out⟩
              rw [HNX.out, HLE.out, List.length_append, fdsC_app]
              exact HOWN10.out
            case measure => simp [intOf]; omega
        · have hl1 : zn.lint1 apex L x = [] := by
            unfold zn.lint1
            have h := HBB.out
            simp only [Bool.true_eq, Bool.and_eq_true, Bool.not_eq_true', decide_eq_false_iff_not] at h
            rw [if_neg (by rw [HH.out]; simp), if_pos ⟨h.1.1, h.1.2, h.2⟩]
          have HLE := Lib.hid hl1
          clear hl1
          go_wp2_with fail
          go_roundw
          case rel =>
            refine ⟨k + 1, by omega, by go_num, ?_, HB4.out⟩
            rw [HNX.out, HLE.out, List.append_nil]
            exact HOW4.out
          case measure => simp [intOf]; omega
      · have hl1 : zn.lint1 apex L x = [⟨4, x.owner, x.typ, ByteArray.empty⟩] := by unfold zn.lint1; rw [if_pos hh]
        have HL1 := Lib.hid hl1
        have HB5 := Lib.hid (HB4.out.alloc (by omega) (.cells #[.int .i64 4, .string x.owner, .int .i64 x.typ, .string ⟨#[]⟩] 64))
        have HOW5 := Lib.hid (ownsRow_keepOne HOW4.out fun b hb => Below.heap_alloc w4 (.cells #[.int .i64 4, .string x.owner, .int .i64 x.typ, .string ⟨#[]⟩] 64) b (HOW4.out.lt b hb).2)
        have HNEWS := Lib.hid (news_at w4 [.int .i64 4, .string x.owner, .int .i64 x.typ, .string ⟨#[]⟩] 64)
        have p1 : (zn.lintTo apex L k).length + 1 ≤ maxLen := by unfold maxLen; omega
        have p2 : ((zn.lintTo apex L k).length + 1) * 48 ≤ 140737488355328 := by omega
        have p3 : w.heap.size ≤ (w4.alloc (.cells #[.int .i64 4, .string x.owner, .int .i64 x.typ, .string ⟨#[]⟩] 64)).heap.size := by simp; omega
        have P1 := Lib.hid p1; have P2 := Lib.hid p2; have P3 := Lib.hid p3
        clear hh hl1 p1 p2 p3
        go_wp2_with (at_builtin; refine wpList_append_own _ rfl _ _ 61 rfl w.heap.size 64 i0 (.agg #[.int .i64 0, .string ⟨#[]⟩, .int .i64 0, .string ⟨#[]⟩]) 4 48 Tryz.underlying61 HI.out HZ0.out HZ1.out HZ2.out rfl (by decide) _ _ _ rfl HOW5.out ⟨w4.heap.size, 0, none⟩ 1 1 [.int .i64 4, .string x.owner, .int .i64 x.typ, .string ⟨#[]⟩] rfl rfl HNEWS.out (by simp [Value.oneCell']) P1.out P2.out P3.out ?_)
        intro v' w10 hown10 hg10 hnn
        have HB10 := Lib.hid (HB5.out.grown hg10 P3.out (fun j hj => (HOW5.out.lt j hj).1)); have HOWN10 := Lib.hid hown10
        clear hown10 hg10 hnn y0 y1 y2 y3 y4
        go_wp2_with fail
        go_roundw
        case rel =>
          refine ⟨k + 1, by omega, by go_num, ?_, HB10.out⟩
          rw [HNX.out, HL1.out, List.length_append, fdsC_app]
          exact HOWN10.out
        case measure => simp [intOf]; omega
    · have hke : k = L.length := by omega
      subst hke
      have hall := zn.lintTo_all apex L
      have HALL := Lib.hid hall
      clear hown hB hall hlt
      go_wp2_with fail
      go_ret
      rw [← HALL.out]
      exact ⟨_, rfl, HBR.out, HOW.out⟩
end Go.Proofs.YtpjoaghnciomeaaGreat

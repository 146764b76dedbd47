/-
  zone.New: the walk.
-/
import Derived.Test.YtnloommafgnanaaGreatQZoneM
namespace Go.Proofs.YtnloommafgnanaaGreat
open Go.RowKit Go.Shelf Go.WideMaps Go.Proofs.YtnloommafgnanaaGreat.nm Go.Proofs.YtnloommafgnanaaGreat.od

end Go.Proofs.YtnloommafgnanaaGreat
/-
  What a zone answers: Apex, Records, Set.
-/
namespace Go.Proofs.YtnloommafgnanaaGreat
open Go.RowKit Go.Shelf Go.WideMaps Go.Proofs.YtnloommafgnanaaGreat.nm Go.Proofs.YtnloommafgnanaaGreat.od

end Go.Proofs.YtnloommafgnanaaGreat
/-
  What a zone answers: Names.
-/
namespace Go.Proofs.YtnloommafgnanaaGreat
open Go.RowKit Go.Shelf Go.WideMaps Go.Proofs.YtnloommafgnanaaGreat.nm Go.Proofs.YtnloommafgnanaaGreat.od

namespace zn
end zn

/-- A row of names of its own. -/
def NewNames (N : List ByteArray) (w : World) (e : Ending) (w' : World) : Prop := ∃ v, e = .returned v ∧ Below w.heap.size w w' ∧ w'.ownsRow w.heap.size 9 1 v N.length (N.map .string)
end Go.Proofs.YtnloommafgnanaaGreat

/-
  data.Names, of data of a form.
-/
namespace Go.Proofs.YtnloommafgnanaaGreat
open Go.RowKit Go.Shelf Go.Proofs.YtnloommafgnanaaGreat.nm
open dt (Fld)

namespace dt
/-- The names among the parts. -/
def nameParts : List Fld → List ByteArray → List ByteArray
  | .host :: fs, p :: ps => p :: nameParts fs ps
  | _ :: fs, _ :: ps => nameParts fs ps
  | _, _ => []
theorem nameParts_host {f : Fld} {fs : List Fld} {p : ByteArray} {ps : List ByteArray} (h : f = .host) : nameParts (f :: fs) (p :: ps) = p :: nameParts fs ps := by subst h; rfl
theorem nameParts_other {f : Fld} {fs : List Fld} {p : ByteArray} {ps : List ByteArray} (h : f ≠ .host) : nameParts (f :: fs) (p :: ps) = nameParts fs ps := by
  cases f <;> first | rfl | exact absurd rfl h
end dt

set_option maxRecDepth 100000 in
set_option maxHeartbeats 4000000 in
theorem dnames_form (t : Int) (d : ByteArray) (fs : List Fld) (ps : List ByteArray) (r0 : ByteArray) (hchk : dt.chkI t d = 0) (hf : dt.formF t = some fs) (hs : dt.splitF fs d [] = some (ps, r0)) (hd : d.size ≤ 65535) (w : World) :
    Calls Tryz.prog 19 #[.int .i64 t, .string d] w fun e w' => NewNames (dt.nameParts fs ps) w e w' := by
  have hlen := dt.form_len t fs hf
  obtain ⟨hpl, _, hps⟩ := dt.splitF_len fs d [] ps r0 hs
  have hpl : ps.length = fs.length := by simpa using hpl
  have HSZ := Lib.hid (fun p (hp : p ∈ ps) => show p.size ≤ 65535 from by
    rcases hps p hp with h | h
    · simp at h
    · omega)
  have HCHK := Lib.hid hchk; have HF := Lib.hid hf; have HS := Lib.hid hs; have HPL := Lib.hid hpl
  obtain ⟨i0, hi0, hz0, hz1, hz2⟩ := info_parts info_str
  have HI := Lib.hid hi0; have HZ := Lib.hid hz0; have HZ1 := Lib.hid hz1; have HZ2 := Lib.hid hz2
  clear hchk hf hs hps hpl hi0 hz0 hz1 hz2
  go_enter Tryz.func19, Tryz.ntmps19
  go_wp2_with fail
  refine (dcheck_any t d _).mono ?_
  rintro e w1 ⟨rfl, hB1⟩
  rw [HCHK.out]
  go_wp2_with fail
  refine (form_any t _).mono ?_
  rintro e w2 hp
  unfold FormPost at hp
  rw [HF.out] at hp
  obtain ⟨rfl, rfl⟩ := hp
  go_wp2_with fail
  refine (split_any fs hlen d hd w1.heap.size _ (fldRow_new w1 fs) (by simp)).mono ?_
  rintro e w3 ⟨hp, hB3⟩
  rw [HS.out] at hp
  obtain ⟨v, rfl, hv⟩ := hp
  obtain ⟨av, cv, rfl, hcv, fv⟩ := row_form hv (W' := w3) (fun g _ => rfl)
  have FV := Lib.hid fv
  have z1 := hB1.size; have z3 := hB3.size
  simp only [World.size_alloc] at z3
  have hfld : FldRow w3 w1.heap.size fs := fun j hj => (hB3.cell (p := ⟨w1.heap.size, j, none⟩) (by simp)).trans (fldRow_new w1 fs j hj)
  have HFLD := Lib.hid hfld
  have HBW := Lib.hid ((hB1.alloc z1 (.cells (fs.map encF).toArray 77)).trans (hB3.mono (by simp; omega)))
  have hz3 := HBW.out.size
  clear fv hv hfld
  go_wp2_with fail
  go_loopw [31, 5, 10, 11, 12, 13] (fun kv ov _ _ _ _ wr => ∃ (k : Nat) (acc : List ByteArray), k ≤ fs.length ∧ kv = .int .i64 k ∧ acc.length ≤ k ∧ acc ++ dt.nameParts (fs.drop k) (ps.drop k) = dt.nameParts fs ps ∧
      wr.ownsRow w3.heap.size 9 1 ov acc.length (acc.map .string) ∧ Below w3.heap.size w3 wr) (fun kv _ _ _ _ _ _ => fs.length - (intOf kv).toNat)
  case atStart => exact ⟨0, [], by omega, rfl, by simp, by simp, World.ownsRow_nil _ _ _ _, Below.refl _ _⟩
  case round =>
    obtain ⟨k, acc, hk, rfl, hal, hacc, hown, hb⟩ := hrel
    obtain ⟨ao, co, rfl, _⟩ := ownsRow_len hown
    have HACC := Lib.hid hacc; have HOWN := Lib.hid hown; have HB := Lib.hid hb
    clear hacc hown hb
    have hz := HB.out.size
    by_cases hlt : k < fs.length
    · have hkp : k < ps.length := by have := HPL.out; omega
      have hcell : wr.cell? ⟨w1.heap.size, k, none⟩ = some (encF fs[k]) := (HB.out.cell (p := ⟨w1.heap.size, k, none⟩) (by show w1.heap.size < w3.heap.size; omega)).trans (HFLD.out k hlt)
      obtain ⟨gv, rfl, cx⟩ := FV.out k hkp
      have cx' : wr.cell? ⟨gv, k, none⟩ = some (.string ps[k]) := (HB.out.cell (p := ⟨gv, k, none⟩) (cell_lt cx)).trans cx
      have cx2 := fun o => cell_alloc_l (W := wr) o cx'
      have CX := Lib.hid cx
      clear cx
      by_cases hh : fs[k] = .host
      · have hta := ta_host
        rw [hh] at hcell
        have hnx : (acc ++ [ps[k]]) ++ dt.nameParts (fs.drop (k + 1)) (ps.drop (k + 1)) = dt.nameParts fs ps := by
          rw [← HACC.out, List.drop_eq_getElem_cons hlt, List.drop_eq_getElem_cons hkp, dt.nameParts_host hh]
          simp
        have HNX := Lib.hid hnx
        clear hnx hh
        go_wp2_with fail
        refine (clone_any ps[k] (by have := HSZ.out ps[k] (List.getElem_mem _); omega) _).mono ?_
        rintro e w5 ⟨rfl, hB5⟩
        have hbA := (Below.refl wr.heap.size wr).alloc (Nat.le_refl _) (.cells #[] 79)
        have hb5 := hbA.trans (hB5.mono (by simp))
        have z5 := hb5.size
        have hown5 := ownsRow_keepOne HOWN.out fun b hb => hb5.block b (HOWN.out.lt b hb).2
        have hB6 := (HB.out.trans (hb5.mono hz)).alloc (by omega) (.cells #[.string ps[k]] 9)
        have HOWN6 := Lib.hid (ownsRow_keepOne hown5 fun b hb => Below.heap_alloc w5 (.cells #[.string ps[k]] 9) b (hown5.lt b hb).2)
        have p1 : acc.length + 1 ≤ maxLen := by unfold maxLen; omega
        have p2 : (acc.length + 1) * 16 ≤ 140737488355328 := by omega
        have p3 : w3.heap.size ≤ (w5.alloc (.cells #[.string ps[k]] 9)).heap.size := by simp; omega
        have P1 := Lib.hid p1; have P2 := Lib.hid p2; have P3 := Lib.hid p3; have HB6 := Lib.hid hB6
        clear p1 p2 p3 hB6 hown5 hb5 hbA hB5 hcell cx' cx2 hta
        go_wp2_with (at_builtin; refine wpList_append_own _ rfl _ _ 45 rfl w3.heap.size 9 i0 (.string ByteArray.empty) 1 16 Tryz.underlying45 HI.out HZ.out HZ1.out HZ2.out rfl (by decide) _ _ _ rfl HOWN6.out ⟨w5.heap.size, 0, none⟩ 1 1 [.string ps[k]] rfl rfl (cell_one_new _ _ _) (by simp [Value.oneCell']) P1.out P2.out P3.out ?_)
        intro v' w10 hown10 hg10 hnn
        have hB10 := HB6.out.grown hg10 P3.out (fun j hj => (HOWN6.out.lt j hj).1)
        have HOWN10 := Lib.hid hown10; have HB10 := Lib.hid hB10
        clear hown10 hB10 hg10 hnn
        go_wp2_with fail
        go_roundw
        case rel =>
          refine ⟨k + 1, acc ++ [ps[k]], by omega, by go_num, by simp; omega, HNX.out, ?_, HB10.out⟩
          have := HOWN10.out
          rw [List.length_append, List.map_append]
          exact this
        case measure => simp [intOf]; omega
      · have hta := ta_other fs[k] hh
        have hnx : acc ++ dt.nameParts (fs.drop (k + 1)) (ps.drop (k + 1)) = dt.nameParts fs ps := by
          rw [← HACC.out, List.drop_eq_getElem_cons hlt, List.drop_eq_getElem_cons hkp, dt.nameParts_other hh]
        have HNX := Lib.hid hnx; have HH := Lib.hid hh
        have HBA := Lib.hid (HB.out.alloc hz (.cells #[] 79))
        have HOWNA := Lib.hid (ownsRow_keepOne HOWN.out fun b hb => Below.heap_alloc wr (.cells #[] 79) b (HOWN.out.lt b hb).2)
        clear hnx hh
        go_wp2_with fail
        go_roundw
        case rel => exact ⟨k + 1, acc, by omega, by go_num, by omega, HNX.out, HOWNA.out, HBA.out⟩
        case measure => simp [intOf]; omega
    · have hke : k = fs.length := by omega
      have hfin : dt.nameParts fs ps = acc := by
        rw [← HACC.out, hke, List.drop_length]
        simp [dt.nameParts]
      have HFIN := Lib.hid hfin
      clear hke hfin
      go_wp2_with fail
      go_ret
      refine ⟨_, rfl, HBW.out.trans (HB.out.mono hz3), ?_⟩
      rw [HFIN.out]
      exact ownsRow_base HOWN.out hz3
end Go.Proofs.YtnloommafgnanaaGreat

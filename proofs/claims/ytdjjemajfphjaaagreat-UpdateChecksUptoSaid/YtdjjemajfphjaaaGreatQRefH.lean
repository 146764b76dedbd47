import Derived.Test.YtdjjemajfphjaaaGreatQMem
import Derived.Test.YtdjjemajfphjaaaGreatQRefA
import Derived.Test.YtdjjemajfphjaaaGreatQDataS
namespace Go.Proofs.YtdjjemajfphjaaaGreat
open Go.RowKit
section
variable {P : Program} (w : World)
theorem append_block (base : Nat) (t ty e : TypeId) (i : TypeInfo) (z : Value) (size bytes : Nat) (ht : P.underlying t = some (.slice e)) (hi : P.info? e = some i) (hz : i.zero = some z)
    (hsize : i.size = size) (hby : i.bytes = bytes) (v : Value) (n : Nat) (xs : List Value) (hown : w.ownsRow base e size v n xs)
    (a : Addr) (m c : Nat) (news : List Value) (hl : news.length = m * size) (hnews : ∀ j u, news[j]? = some u → w.cell? (a.add j) = some u) (h1 : ∀ u ∈ news, u.oneCell' = true)
    (h63 : n + m ≤ maxLen) (hbytes : (n + m) * bytes ≤ 140737488355328) {v' : Value} {w' : World} (hr : (Builtin.append_ #[t, t] ty #[v, .slice (some a) m c]).run P w = .ok v' w') :
    ∀ b, v'.ownBlock = some b → v.ownBlock = some b ∨ w.heap.size ≤ b := by
  subst hsize
  subst hby
  have hsmall : n + m ≤ 9223372036854775807 := by simp only [maxLen] at h63; omega
  have one : ∀ (k c' : Nat) (w2 : World), Result.ok (Value.slice (some ⟨w.heap.size, 0, none⟩) k c') w2 = Result.ok v' w' → ∀ b, v'.ownBlock = some b → v.ownBlock = some b ∨ w.heap.size ≤ b := fun k c' w2 h b hb => by
    cases h
    right
    simp [Value.ownBlock] at hb
    omega
  rcases hown.2 with ⟨rfl, rfl⟩ | ⟨g, cap, cur, rfl, hbg, hg, hnc, hcm, hcs, htake⟩
  · by_cases hm : m = 0
    · subst hm
      have hn : news = [] := List.eq_nil_of_length_eq_zero (by simpa using hl)
      subst hn
      have h0 : (Builtin.append_ #[t, t] ty #[.slice none 0 0, .slice (some a) 0 c]).run P w = .ok (.slice none 0 0) w := by
        simp [Builtin.append_, run_underlying ht, sizeOf, typeInfo, hi, Builtin.lenOf, Builtin.firstCells, loadCells, loadCellsFrom]
      rw [h0] at hr
      cases hr
      intro b hb
      cases hb
    · have h2 := run_append_nil (P := P) w t ty e i z ht hi hz a m c news hl hnews (by omega) (by omega) (by have hb := hbytes; simp only [Nat.zero_add] at hb; omega)
      exact one _ _ _ (h2.symm.trans hr)
  · by_cases hroom : n + m ≤ cap
    · have hmul : (n + m) * i.size ≤ cap * i.size := Nat.mul_le_mul_right _ hroom
      rw [Nat.add_mul, ← hl] at hmul
      have h2 := run_append_room_cells (P := P) w t ty e i ht hi g 0 n cap a m c news hl hnews h1 hroom
        (fun j hj => by rw [heap_cell hg]; simp; omega) (fun j _ => heap_frozen hg _)
      have h3 := h2.symm.trans hr
      cases h3
      intro b hb
      left
      simpa [Value.ownBlock] using hb
    · have holds : ∀ j u, xs[j]? = some u → w.cell? ((⟨g, 0, none⟩ : Addr).add j) = some u := fun j u hu => by
        rw [Addr.add_lit, heap_cell hg, Nat.zero_add]
        rw [← htake, List.getElem?_take] at hu
        split at hu
        · simpa using hu
        · cases hu
      have h2 := run_append_grow (P := P) w t ty e i z ht hi hz ⟨g, 0, none⟩ n cap xs hown.1 holds a m c news hl hnews (by omega) (by omega) (growslice_fits (by omega) hbytes)
      exact one _ _ _ (h2.symm.trans hr)
theorem wpList_append_new {ops : Array Oper} {rest : List Oper} {o : Oper} {a : Act} {Q : Exit → Act → World → Prop} (hgd : o.guard = none) (s x : Operand) (t : TypeId)
    (ho : o.op = .call { callee := .builtin .append, args := #[s, x], argTypes := #[t, t] })
    (base : Nat) (e : TypeId) (i : TypeInfo) (z : Value) (size bytes : Nat) (ht : P.underlying t = some (.slice e)) (hi : P.info? e = some i) (hz : i.zero = some z)
    (hsize : i.size = size) (hby : i.bytes = bytes) (hzs : z.cells.size = size) (hsz : 0 < size)
    (v : Value) (n : Nat) (xs : List Value) (hs : a.eval s = v) (hown : w.ownsRow base e size v n xs)
    (ad : Addr) (m c : Nat) (news : List Value) (hx : a.eval x = .slice (some ad) m c) (hl : news.length = m * size) (hnews : ∀ j u, news[j]? = some u → w.cell? (ad.add j) = some u) (h1 : ∀ u ∈ news, u.oneCell' = true)
    (h63 : n + m ≤ maxLen) (hbytes : (n + m) * bytes ≤ 140737488355328) (hbase : base ≤ w.heap.size)
    (h : ∀ v' w', w'.ownsRow base e size v' (n + m) (xs ++ news) → w.grownBy w' v.ownBlock → (∀ b, v'.ownBlock = some b → v.ownBlock = some b ∨ w.heap.size ≤ b) → wpList P ops Q rest (a.put o.dst v') w') : wpList P ops Q (o :: rest) a w := by
  obtain ⟨v', w', hr, h2, h3, _⟩ := run_append_own (P := P) w base t o.type e i z size bytes ht hi hz hsize hby hzs hsz v n xs hown ad m c news hl hnews h1 h63 hbytes hbase
  have h4 := append_block w base t o.type e i z size bytes ht hi hz hsize hby v n xs hown ad m c news hl hnews h1 h63 hbytes hr
  refine wpList_plain hgd fun K hK => ?_
  unfold Oper.wp execOp
  simp only [ho, resolve, invoke, builtin, Sem.run_bind, Sem.run_pure, Result.andThen_ok, List.map_toArray, List.map_cons, List.map_nil, hs, hx, hr]
  exact hK _ _ (h v' w' h2 h3 h4)
end
end Go.Proofs.YtdjjemajfphjaaaGreat
namespace Go.Proofs.YtdjjemajfphjaaaGreat
open Go.RowKit Go.Shelf Go.Proofs.YtdjjemajfphjaaaGreat.nm
open dt (Fld)
namespace dt
theorem host_at (d : ByteArray) : ∀ (ls : List (List UInt8)) (f p : Nat) (rest : List UInt8), RowOk ls → d.data.toList.drop p = putL ls ++ rest → ls.length < f → hostGo d f p + 1 = p + (putL ls).length := by
  intro ls
  induction ls with
  | nil =>
    intro f p rest _ h hf
    have hp : d.data.toList[p]? = some 0 := by
      have := congrArg (·[0]?) h
      simpa [putL] using this
    have hz : sizeAt d p = 0 := by unfold sizeAt; rw [hp]; rfl
    rw [hostGo_stop (by omega)]
    simp [putL]
  | cons l ls ih =>
    intro f p rest ho h hf
    obtain ⟨f, rfl⟩ : ∃ g, f = g + 1 := ⟨f - 1, by simp at hf; omega⟩
    obtain ⟨h0, h1⟩ := ho l (by simp)
    have hn : (UInt8.ofNat l.length).toNat = l.length := by rw [UInt8.toNat_ofNat']; omega
    have hp : d.data.toList[p]? = some (UInt8.ofNat l.length) := by
      have := congrArg (·[0]?) h
      simpa [putL] using this
    have hz : sizeAt d p = l.length := by unfold sizeAt; rw [hp]; exact hn
    have hlt : p < d.size := by
      have := (List.getElem?_eq_some_iff.1 hp).1
      simpa using this
    have hd : d.data.toList.drop (p + 1 + l.length) = putL ls ++ rest := by
      rw [← List.drop_drop, ← List.drop_drop, h, putL]
      simp
    rw [hostGo_next hlt (by omega), hz, ih f _ rest (fun x hx => ho x (by simp [hx])) hd (by simpa using hf)]
    simp [putL]
    omega
theorem host_prefix {d : ByteArray} {k : Nat} (hk : k ≤ d.size) (h : checkB (d.extract 0 k) = true) : hostEnd d + 1 = k := by
  obtain ⟨ls, hls⟩ := rows_check h
  obtain ⟨_, h2, h3, _⟩ := rows_some hls
  have hl := rows_len hls
  have hx : (d.extract 0 k).size = k := by rw [ByteArray.size_extract]; omega
  have h4 := putL_length_ge ls
  have h5 := host_at d ls (d.size + 1) 0 (d.data.toList.drop k) h2 (by rw [List.drop_zero, ← h3, extract_list]; simp [List.take_append_drop]) (by omega)
  unfold hostEnd
  omega
theorem hostI_hit {d : ByteArray} {k : Nat} (hk : k ≤ d.size) (h : checkB (d.extract 0 k) = true) : hostI d = k := by
  have h1 := host_prefix hk h
  unfold hostI
  rw [if_neg (by omega), h1, if_pos h]
  omega
theorem hostI_miss {d : ByteArray} {k : Nat} (hk : d.size < k ∨ 255 < k) (h : ∀ j, 1 ≤ j → j < k → checkB (d.extract 0 j) = false) : hostI d = -1 := by
  unfold hostI
  split
  · rfl
  · rename_i h1
    split
    · rename_i h2
      have h3 := checkB_size h2
      rw [ByteArray.size_extract] at h3
      rw [h (hostEnd d + 1) (by omega) (by omega)] at h2
      exact absurd h2 (by simp)
    · rfl
theorem typesGo_more : ∀ (f : Nat) (r : ByteArray) (last : Int) (acc l : List Int), typesGo f r last acc = some l → ∃ t, l = acc ++ t ∧ (0 ≤ last → (0 : Int) ∉ t) := by
  intro f
  induction f with
  | zero => intro r last acc l h; cases h
  | succ f ih =>
    intro r last acc l h
    by_cases h0 : r.size = 0
    · rw [typesGo_end h0] at h
      cases h
      exact ⟨[], by simp, fun _ => by simp⟩
    · by_cases hb : headBad r last
      · rw [typesGo_bad h0 hb] at h; cases h
      · rw [typesGo_next h0 hb] at h
        obtain ⟨t, ht, hz⟩ := ih _ _ _ _ h
        refine ⟨blockL r (8 * sizeAt r 1) ++ t, by rw [ht, List.append_assoc], fun hl hm => ?_⟩
        rcases List.mem_append.1 hm with hm | hm
        · unfold blockL at hm
          obtain ⟨j, _, hj⟩ := List.mem_map.1 hm
          unfold headBad at hb
          omega
        · exact hz (by omega) hm
theorem blockL_zero {r : ByteArray} {k : Nat} (h : (0 : Int) ∈ blockL r k) : (blockL r k).head? = some 0 := by
  unfold blockL at h ⊢
  obtain ⟨j, hj, h0⟩ := List.mem_map.1 h
  have hj0 : j = 0 := by omega
  have hs : sizeAt r 0 = 0 := by omega
  subst hj0
  obtain ⟨h1, h2⟩ := List.mem_filter.1 hj
  have hk : 0 < k := by simpa using h1
  obtain ⟨k, rfl⟩ : ∃ q, k = q + 1 := ⟨k - 1, by omega⟩
  rw [List.range_succ_eq_map, List.filter_cons, if_pos h2, List.map_cons, List.head?_cons, hs]
  rfl
theorem typesGo_zero {d : ByteArray} {n : Nat} {l : List Int} (h : typesGo (n + 1) d (-1) [] = some l) : l.head? = some 0 ↔ (0 : Int) ∈ l := by
  constructor
  · intro hh
    cases l with
    | nil => cases hh
    | cons a l => simp only [List.head?_cons, Option.some.injEq] at hh; subst hh; exact List.mem_cons_self ..
  · intro hm
    by_cases h0 : d.size = 0
    · rw [typesGo_end h0] at h; cases h; simp at hm
    · by_cases hb : headBad d (-1)
      · rw [typesGo_bad h0 hb] at h; cases h
      · rw [typesGo_next h0 hb] at h
        obtain ⟨t, ht, hz⟩ := typesGo_more _ _ _ _ _ h
        rw [List.nil_append] at ht
        subst ht
        have hm2 : (0 : Int) ∈ blockL d (8 * sizeAt d 1) := by
          rcases List.mem_append.1 hm with hm | hm
          · exact hm
          · exact absurd hm (hz (by omega))
        have := blockL_zero hm2
        cases hbl : blockL d (8 * sizeAt d 1) with
        | nil => rw [hbl] at this; cases this
        | cons a m => rw [hbl] at this; rw [List.cons_append]; exact this
def letF : Fld → UInt8
  | .num n => if n = 1 then 49 else if n = 2 then 50 else 52
  | .ip4 => 97
  | .ip6 => 54
  | .host => 110
  | .text => 116
  | .texts => 84
  | .tail => 114
  | .hexes => 104
  | .b64 => 98
  | .kind => 107
  | .kinds => 75
  | .salt => 115
  | .hash => 72
def goodF : Fld → Bool
  | .num n => n == 1 || n == 2 || n == 4
  | _ => true
def rformS (t : Int) : ByteArray := match formF t with
  | some fs => ⟨(fs.map letF).toArray⟩
  | none => if holdsB t = true then ⟨#[45]⟩ else ⟨#[]⟩
def formTable : List (Int × List Fld) := [(1, [.ip4]), (2, [.host]), (5, [.host]), (6, [.host, .host, .num 4, .num 4, .num 4, .num 4, .num 4]), (12, [.host]), (13, [.text, .text]), (15, [.num 2, .host]), (16, [.texts]), (28, [.ip6]), (33, [.num 2, .num 2, .num 2, .host]), (35, [.num 2, .num 2, .text, .text, .text, .host]), (39, [.host]), (43, [.num 2, .num 1, .num 1, .hexes]), (46, [.kind, .num 1, .num 1, .num 4, .num 4, .num 4, .num 2, .host, .b64]), (47, [.host, .kinds]), (48, [.num 2, .num 1, .num 1, .b64]), (50, [.num 1, .num 1, .num 2, .salt, .hash, .kinds]), (51, [.num 1, .num 1, .num 2, .salt]), (257, [.num 1, .text, .tail])]
theorem form_table {t : Int} {fs : List Fld} (h : formF t = some fs) : (t, fs) ∈ formTable := by
  unfold formF at h
  by_cases h1 : t = 1
  · rw [if_pos h1] at h; cases h; subst h1; simp [formTable]
  rw [if_neg h1] at h
  by_cases h2 : t = 2
  · rw [if_pos h2] at h; cases h; subst h2; simp [formTable]
  rw [if_neg h2] at h
  by_cases h5 : t = 5
  · rw [if_pos h5] at h; cases h; subst h5; simp [formTable]
  rw [if_neg h5] at h
  by_cases h6 : t = 6
  · rw [if_pos h6] at h; cases h; subst h6; simp [formTable]
  rw [if_neg h6] at h
  by_cases h12 : t = 12
  · rw [if_pos h12] at h; cases h; subst h12; simp [formTable]
  rw [if_neg h12] at h
  by_cases h13 : t = 13
  · rw [if_pos h13] at h; cases h; subst h13; simp [formTable]
  rw [if_neg h13] at h
  by_cases h15 : t = 15
  · rw [if_pos h15] at h; cases h; subst h15; simp [formTable]
  rw [if_neg h15] at h
  by_cases h16 : t = 16
  · rw [if_pos h16] at h; cases h; subst h16; simp [formTable]
  rw [if_neg h16] at h
  by_cases h28 : t = 28
  · rw [if_pos h28] at h; cases h; subst h28; simp [formTable]
  rw [if_neg h28] at h
  by_cases h33 : t = 33
  · rw [if_pos h33] at h; cases h; subst h33; simp [formTable]
  rw [if_neg h33] at h
  by_cases h35 : t = 35
  · rw [if_pos h35] at h; cases h; subst h35; simp [formTable]
  rw [if_neg h35] at h
  by_cases h39 : t = 39
  · rw [if_pos h39] at h; cases h; subst h39; simp [formTable]
  rw [if_neg h39] at h
  by_cases h43 : t = 43
  · rw [if_pos h43] at h; cases h; subst h43; simp [formTable]
  rw [if_neg h43] at h
  by_cases h46 : t = 46
  · rw [if_pos h46] at h; cases h; subst h46; simp [formTable]
  rw [if_neg h46] at h
  by_cases h47 : t = 47
  · rw [if_pos h47] at h; cases h; subst h47; simp [formTable]
  rw [if_neg h47] at h
  by_cases h48 : t = 48
  · rw [if_pos h48] at h; cases h; subst h48; simp [formTable]
  rw [if_neg h48] at h
  by_cases h50 : t = 50
  · rw [if_pos h50] at h; cases h; subst h50; simp [formTable]
  rw [if_neg h50] at h
  by_cases h51 : t = 51
  · rw [if_pos h51] at h; cases h; subst h51; simp [formTable]
  rw [if_neg h51] at h
  by_cases h257 : t = 257
  · rw [if_pos h257] at h; cases h; subst h257; simp [formTable]
  rw [if_neg h257] at h
  cases h
theorem form_good {t : Int} {fs : List Fld} (h : formF t = some fs) : fs.all goodF = true ∧ fs ≠ [] ∧ holdsB t = true ∧ fs.map letF ≠ [45] := by
  have h1 : formTable.all (fun p => p.2.all goodF && !p.2.isEmpty && holdsB p.1 && !decide (p.2.map letF = [45])) = true := by decide
  have := List.all_eq_true.1 h1 _ (form_table h)
  simp only [Bool.and_eq_true, Bool.not_eq_true', decide_eq_false_iff_not, List.isEmpty_eq_false_iff] at this
  exact ⟨this.1.1.1, this.1.1.2, this.1.2, this.2⟩
end dt
end Go.Proofs.YtdjjemajfphjaaaGreat
namespace Go.Proofs.YtdjjemajfphjaaaGreat
open Go.RowKit Go.Shelf Go.Proofs.YtdjjemajfphjaaaGreat.nm
open dt (Fld)
set_option maxRecDepth 100000 in
set_option maxHeartbeats 200000 in
theorem rform_1 (w : World) : Calls Tryz.prog 102 #[.int .i64 1] w fun e w' => e = .returned (.string (dt.rformS 1)) ∧ w = w' := by
  go_enter Tryz.func102, Tryz.ntmps102
  go_wp2
  go_ret
  exact ⟨rfl, rfl⟩
set_option maxRecDepth 100000 in
set_option maxHeartbeats 200000 in
theorem rform_2 (w : World) : Calls Tryz.prog 102 #[.int .i64 2] w fun e w' => e = .returned (.string (dt.rformS 2)) ∧ w = w' := by
  go_enter Tryz.func102, Tryz.ntmps102
  go_wp2
  go_ret
  exact ⟨rfl, rfl⟩
set_option maxRecDepth 100000 in
set_option maxHeartbeats 200000 in
theorem rform_5 (w : World) : Calls Tryz.prog 102 #[.int .i64 5] w fun e w' => e = .returned (.string (dt.rformS 5)) ∧ w = w' := by
  go_enter Tryz.func102, Tryz.ntmps102
  go_wp2
  go_ret
  exact ⟨rfl, rfl⟩
set_option maxRecDepth 100000 in
set_option maxHeartbeats 200000 in
theorem rform_12 (w : World) : Calls Tryz.prog 102 #[.int .i64 12] w fun e w' => e = .returned (.string (dt.rformS 12)) ∧ w = w' := by
  go_enter Tryz.func102, Tryz.ntmps102
  go_wp2
  go_ret
  exact ⟨rfl, rfl⟩
set_option maxRecDepth 100000 in
set_option maxHeartbeats 200000 in
theorem rform_39 (w : World) : Calls Tryz.prog 102 #[.int .i64 39] w fun e w' => e = .returned (.string (dt.rformS 39)) ∧ w = w' := by
  go_enter Tryz.func102, Tryz.ntmps102
  go_wp2
  go_ret
  exact ⟨rfl, rfl⟩
set_option maxRecDepth 100000 in
set_option maxHeartbeats 200000 in
theorem rform_6 (w : World) : Calls Tryz.prog 102 #[.int .i64 6] w fun e w' => e = .returned (.string (dt.rformS 6)) ∧ w = w' := by
  go_enter Tryz.func102, Tryz.ntmps102
  go_wp2
  go_ret
  exact ⟨rfl, rfl⟩
set_option maxRecDepth 100000 in
set_option maxHeartbeats 200000 in
theorem rform_13 (w : World) : Calls Tryz.prog 102 #[.int .i64 13] w fun e w' => e = .returned (.string (dt.rformS 13)) ∧ w = w' := by
  go_enter Tryz.func102, Tryz.ntmps102
  go_wp2
  go_ret
  exact ⟨rfl, rfl⟩
set_option maxRecDepth 100000 in
set_option maxHeartbeats 200000 in
theorem rform_15 (w : World) : Calls Tryz.prog 102 #[.int .i64 15] w fun e w' => e = .returned (.string (dt.rformS 15)) ∧ w = w' := by
  go_enter Tryz.func102, Tryz.ntmps102
  go_wp2
  go_ret
  exact ⟨rfl, rfl⟩
set_option maxRecDepth 100000 in
set_option maxHeartbeats 200000 in
theorem rform_16 (w : World) : Calls Tryz.prog 102 #[.int .i64 16] w fun e w' => e = .returned (.string (dt.rformS 16)) ∧ w = w' := by
  go_enter Tryz.func102, Tryz.ntmps102
  go_wp2
  go_ret
  exact ⟨rfl, rfl⟩
set_option maxRecDepth 100000 in
set_option maxHeartbeats 200000 in
theorem rform_28 (w : World) : Calls Tryz.prog 102 #[.int .i64 28] w fun e w' => e = .returned (.string (dt.rformS 28)) ∧ w = w' := by
  go_enter Tryz.func102, Tryz.ntmps102
  go_wp2
  go_ret
  exact ⟨rfl, rfl⟩
set_option maxRecDepth 100000 in
set_option maxHeartbeats 200000 in
theorem rform_33 (w : World) : Calls Tryz.prog 102 #[.int .i64 33] w fun e w' => e = .returned (.string (dt.rformS 33)) ∧ w = w' := by
  go_enter Tryz.func102, Tryz.ntmps102
  go_wp2
  go_ret
  exact ⟨rfl, rfl⟩
set_option maxRecDepth 100000 in
set_option maxHeartbeats 200000 in
theorem rform_35 (w : World) : Calls Tryz.prog 102 #[.int .i64 35] w fun e w' => e = .returned (.string (dt.rformS 35)) ∧ w = w' := by
  go_enter Tryz.func102, Tryz.ntmps102
  go_wp2
  go_ret
  exact ⟨rfl, rfl⟩
set_option maxRecDepth 100000 in
set_option maxHeartbeats 200000 in
theorem rform_43 (w : World) : Calls Tryz.prog 102 #[.int .i64 43] w fun e w' => e = .returned (.string (dt.rformS 43)) ∧ w = w' := by
  go_enter Tryz.func102, Tryz.ntmps102
  go_wp2
  go_ret
  exact ⟨rfl, rfl⟩
set_option maxRecDepth 100000 in
set_option maxHeartbeats 200000 in
theorem rform_46 (w : World) : Calls Tryz.prog 102 #[.int .i64 46] w fun e w' => e = .returned (.string (dt.rformS 46)) ∧ w = w' := by
  go_enter Tryz.func102, Tryz.ntmps102
  go_wp2
  go_ret
  exact ⟨rfl, rfl⟩
set_option maxRecDepth 100000 in
set_option maxHeartbeats 200000 in
theorem rform_47 (w : World) : Calls Tryz.prog 102 #[.int .i64 47] w fun e w' => e = .returned (.string (dt.rformS 47)) ∧ w = w' := by
  go_enter Tryz.func102, Tryz.ntmps102
  go_wp2
  go_ret
  exact ⟨rfl, rfl⟩
set_option maxRecDepth 100000 in
set_option maxHeartbeats 200000 in
theorem rform_48 (w : World) : Calls Tryz.prog 102 #[.int .i64 48] w fun e w' => e = .returned (.string (dt.rformS 48)) ∧ w = w' := by
  go_enter Tryz.func102, Tryz.ntmps102
  go_wp2
  go_ret
  exact ⟨rfl, rfl⟩
set_option maxRecDepth 100000 in
set_option maxHeartbeats 200000 in
theorem rform_50 (w : World) : Calls Tryz.prog 102 #[.int .i64 50] w fun e w' => e = .returned (.string (dt.rformS 50)) ∧ w = w' := by
  go_enter Tryz.func102, Tryz.ntmps102
  go_wp2
  go_ret
  exact ⟨rfl, rfl⟩
set_option maxRecDepth 100000 in
set_option maxHeartbeats 200000 in
theorem rform_51 (w : World) : Calls Tryz.prog 102 #[.int .i64 51] w fun e w' => e = .returned (.string (dt.rformS 51)) ∧ w = w' := by
  go_enter Tryz.func102, Tryz.ntmps102
  go_wp2
  go_ret
  exact ⟨rfl, rfl⟩
set_option maxRecDepth 100000 in
set_option maxHeartbeats 200000 in
theorem rform_257 (w : World) : Calls Tryz.prog 102 #[.int .i64 257] w fun e w' => e = .returned (.string (dt.rformS 257)) ∧ w = w' := by
  go_enter Tryz.func102, Tryz.ntmps102
  go_wp2
  go_ret
  exact ⟨rfl, rfl⟩
set_option maxRecDepth 100000 in
set_option maxHeartbeats 1000000 in
theorem rform_no (t : Int) (h1 : t ≠ 1) (h2 : t ≠ 2) (h5 : t ≠ 5) (h12 : t ≠ 12) (h39 : t ≠ 39) (h6 : t ≠ 6) (h13 : t ≠ 13) (h15 : t ≠ 15) (h16 : t ≠ 16) (h28 : t ≠ 28) (h33 : t ≠ 33) (h35 : t ≠ 35) (h43 : t ≠ 43) (h46 : t ≠ 46) (h47 : t ≠ 47) (h48 : t ≠ 48) (h50 : t ≠ 50) (h51 : t ≠ 51) (h257 : t ≠ 257) (w : World) : Calls Tryz.prog 102 #[.int .i64 t] w fun e w' => e = .returned (.string (dt.rformS t)) ∧ w = w' := by
  have hr : dt.rformS t = if dt.holdsB t = true then ⟨#[45]⟩ else ⟨#[]⟩ := by unfold dt.rformS; rw [dt.formF_none h1 h2 h5 h6 h12 h13 h15 h16 h28 h33 h35 h39 h43 h46 h47 h48 h50 h51 h257]
  have b1 : (t == 1) = false := by rw [beq_eq_false_iff_ne]; exact h1
  have b2 : (t == 2) = false := by rw [beq_eq_false_iff_ne]; exact h2
  have b5 : (t == 5) = false := by rw [beq_eq_false_iff_ne]; exact h5
  have b12 : (t == 12) = false := by rw [beq_eq_false_iff_ne]; exact h12
  have b39 : (t == 39) = false := by rw [beq_eq_false_iff_ne]; exact h39
  have b6 : (t == 6) = false := by rw [beq_eq_false_iff_ne]; exact h6
  have b13 : (t == 13) = false := by rw [beq_eq_false_iff_ne]; exact h13
  have b15 : (t == 15) = false := by rw [beq_eq_false_iff_ne]; exact h15
  have b16 : (t == 16) = false := by rw [beq_eq_false_iff_ne]; exact h16
  have b28 : (t == 28) = false := by rw [beq_eq_false_iff_ne]; exact h28
  have b33 : (t == 33) = false := by rw [beq_eq_false_iff_ne]; exact h33
  have b35 : (t == 35) = false := by rw [beq_eq_false_iff_ne]; exact h35
  have b43 : (t == 43) = false := by rw [beq_eq_false_iff_ne]; exact h43
  have b46 : (t == 46) = false := by rw [beq_eq_false_iff_ne]; exact h46
  have b47 : (t == 47) = false := by rw [beq_eq_false_iff_ne]; exact h47
  have b48 : (t == 48) = false := by rw [beq_eq_false_iff_ne]; exact h48
  have b50 : (t == 50) = false := by rw [beq_eq_false_iff_ne]; exact h50
  have b51 : (t == 51) = false := by rw [beq_eq_false_iff_ne]; exact h51
  have b257 : (t == 257) = false := by rw [beq_eq_false_iff_ne]; exact h257
  clear h1 h2 h5 h12 h39 h6 h13 h15 h16 h28 h33 h35 h43 h46 h47 h48 h50 h51 h257
  by_cases h1 : 1 ≤ t
  · by_cases h2 : t ≤ 65535
    · by_cases h3 : t = 41
      · subst h3
        have HR := Lib.hid hr
        clear hr
        go_enter Tryz.func102, Tryz.ntmps102
        go_wp2
        go_ret
        exact ⟨ret_s (by rw [HR.out]; rfl), rfl⟩
      · have c3 : (t == 41) = false := by rw [beq_eq_false_iff_ne]; exact h3
        by_cases h4 : t < 128
        · have hh : dt.holdsB t = true := by simp [dt.holdsB, h1, h2, h3, h4]
          rw [hh, if_pos rfl] at hr
          have HR := Lib.hid hr; have HH := Lib.hid hh
          clear hr hh
          have h4' : t ≤ 127 := by omega
          go_enter Tryz.func102, Tryz.ntmps102
          go_wp2
          go_ret
          exact ⟨ret_s HR.out.symm, rfl⟩
        · by_cases h5 : t ≤ 255
          · have hh : dt.holdsB t = false := by simp [dt.holdsB, h4]; omega
            rw [hh] at hr
            have HR := Lib.hid hr; have HH := Lib.hid hh
            clear hr hh
            have h4' : 128 ≤ t := by omega
            go_enter Tryz.func102, Tryz.ntmps102
            go_wp2
            go_ret
            exact ⟨ret_s HR.out.symm, rfl⟩
          · have hh : dt.holdsB t = true := by simp [dt.holdsB, h1, h2, h3]; omega
            rw [hh, if_pos rfl] at hr
            have HR := Lib.hid hr; have HH := Lib.hid hh
            clear hr hh
            have h4' : 128 ≤ t := by omega
            have h5' : 255 < t := by omega
            go_enter Tryz.func102, Tryz.ntmps102
            go_wp2
            go_ret
            exact ⟨ret_s HR.out.symm, rfl⟩
    · have hh : dt.holdsB t = false := by simp [dt.holdsB, h2]
      rw [hh] at hr
      have HR := Lib.hid hr; have HH := Lib.hid hh
      clear hr hh
      have h2' : 65535 < t := by omega
      go_enter Tryz.func102, Tryz.ntmps102
      go_wp2
      go_ret
      exact ⟨ret_s HR.out.symm, rfl⟩
  · have hh : dt.holdsB t = false := by simp [dt.holdsB, h1]
    rw [hh] at hr
    have HR := Lib.hid hr; have HH := Lib.hid hh
    clear hr hh
    have h1' : t < 1 := by omega
    go_enter Tryz.func102, Tryz.ntmps102
    go_wp2
    go_ret
    exact ⟨ret_s HR.out.symm, rfl⟩
theorem rform_any (t : Int) (w : World) : Calls Tryz.prog 102 #[.int .i64 t] w fun e w' => e = .returned (.string (dt.rformS t)) ∧ w = w' := by
  by_cases h1 : t = 1
  · subst h1; exact rform_1 w
  by_cases h2 : t = 2
  · subst h2; exact rform_2 w
  by_cases h5 : t = 5
  · subst h5; exact rform_5 w
  by_cases h12 : t = 12
  · subst h12; exact rform_12 w
  by_cases h39 : t = 39
  · subst h39; exact rform_39 w
  by_cases h6 : t = 6
  · subst h6; exact rform_6 w
  by_cases h13 : t = 13
  · subst h13; exact rform_13 w
  by_cases h15 : t = 15
  · subst h15; exact rform_15 w
  by_cases h16 : t = 16
  · subst h16; exact rform_16 w
  by_cases h28 : t = 28
  · subst h28; exact rform_28 w
  by_cases h33 : t = 33
  · subst h33; exact rform_33 w
  by_cases h35 : t = 35
  · subst h35; exact rform_35 w
  by_cases h43 : t = 43
  · subst h43; exact rform_43 w
  by_cases h46 : t = 46
  · subst h46; exact rform_46 w
  by_cases h47 : t = 47
  · subst h47; exact rform_47 w
  by_cases h48 : t = 48
  · subst h48; exact rform_48 w
  by_cases h50 : t = 50
  · subst h50; exact rform_50 w
  by_cases h51 : t = 51
  · subst h51; exact rform_51 w
  by_cases h257 : t = 257
  · subst h257; exact rform_257 w
  exact rform_no t h1 h2 h5 h12 h39 h6 h13 h15 h16 h28 h33 h35 h43 h46 h47 h48 h50 h51 h257 w
end Go.Proofs.YtdjjemajfphjaaaGreat
namespace Go.Proofs.YtdjjemajfphjaaaGreat
open Go.RowKit Go.Shelf Go.Proofs.YtdjjemajfphjaaaGreat.nm
open dt (Fld)
namespace dt
def bitI (r : ByteArray) (i : Nat) : Int := ((sizeAt r (i / 8) / 2 ^ (7 - i % 8) % 2 : Nat) : Int)
def bitsTo (r : ByteArray) (k : Nat) : List Int := (List.range k).map (bitI r)
theorem bitsTo_succ (r : ByteArray) (k : Nat) : bitsTo r (k + 1) = bitsTo r k ++ [bitI r k] := by unfold bitsTo; rw [List.range_succ, List.map_append]; rfl
theorem bitsTo_len (r : ByteArray) (k : Nat) : (bitsTo r k).length = k := by unfold bitsTo; simp
theorem bitI_at {r : ByteArray} {k j M : Nat} (hj : j < 8) (hM : M = 128 / 2 ^ j) (hk : k < r.size) : (r[k].toNat : Int) / (M : Int) % 2 = bitI r (8 * k + j) := by
  unfold bitI
  rw [show (8 * k + j) / 8 = k by omega, show (8 * k + j) % 8 = j by omega, sizeAt_eq hk]
  have h2 : M = 2 ^ (7 - j) := by
    subst hM
    match j, hj with
    | 0, _ => rfl
    | 1, _ => rfl
    | 2, _ => rfl
    | 3, _ => rfl
    | 4, _ => rfl
    | 5, _ => rfl
    | 6, _ => rfl
    | 7, _ => rfl
  rw [← h2]
  omega
theorem half_pow {j M : Nat} (hM : M = 128 / 2 ^ j) : M / 2 = 128 / 2 ^ (j + 1) := by rw [hM, Nat.div_div_eq_div_mul, Nat.pow_succ]
theorem pow_pos8 {j M : Nat} (hj : j < 8) (hM : M = 128 / 2 ^ j) : 0 < M ∧ M ≤ 128 := by
  subst hM
  match j, hj with
  | 0, _ => decide
  | 1, _ => decide
  | 2, _ => decide
  | 3, _ => decide
  | 4, _ => decide
  | 5, _ => decide
  | 6, _ => decide
  | 7, _ => decide
end dt
set_option maxRecDepth 100000 in
set_option maxHeartbeats 2000000 in
theorem rbits_any (d : ByteArray) (hd : d.size ≤ 65535) (w : World) : Calls Tryz.prog 175 #[.string d] w fun e w' => ∃ v, e = .returned v ∧ w'.ownsRow w.heap.size 3 1 v (8 * d.size) ((dt.bitsTo d (8 * d.size)).map (Value.int .i64)) ∧ Below w.heap.size w w' := by
  obtain ⟨i0, hi, hz0, hz1, hz2⟩ := info_parts info_int
  have HI := Lib.hid hi; have HZ := Lib.hid hz0; have HZ1 := Lib.hid hz1; have HZ2 := Lib.hid hz2
  clear hi hz0 hz1 hz2
  go_enter Tryz.func175, Tryz.ntmps175
  go_wp2_with fail
  go_loopw [4, 3, 5] (fun kv v _ wr => ∃ k : Nat, k ≤ d.size ∧ kv = .int .i64 (k : Int) ∧ wr.ownsRow w.heap.size 3 1 v (8 * k) ((dt.bitsTo d (8 * k)).map (Value.int .i64)) ∧ Below w.heap.size w wr) (fun kv _ _ _ => d.size - (intOf kv).toNat)
  case atStart => exact ⟨0, Nat.zero_le _, rfl, World.ownsRow_nil _ _ _ _, Below.refl _ _⟩
  case round =>
    obtain ⟨k, hk, rfl, hrow, hb⟩ := hrel
    obtain ⟨a, cap, rfl, hcap⟩ := ownsRow_len hrow
    have HROW := Lib.hid hrow; have HB := Lib.hid hb
    clear hrow hb
    by_cases hlt : k < d.size
    · have h256 : (d[k].toNat : Int) < 256 := by have := UInt8.toNat_lt d[k]; omega
      have hge : (0 : Int) ≤ d[k].toNat := by omega
      go_wp2_with fail
      obtain ⟨wo, hwo⟩ : ∃ wo : World, wo = wr := ⟨_, rfl⟩
      subst hwo
      go_loopw [5, 3] (fun mv v wi => ∃ j M : Nat, j ≤ 8 ∧ Hid (M = 128 / 2 ^ j) ∧ mv = .int .i64 (M : Int) ∧ wi.ownsRow w.heap.size 3 1 v (8 * k + j) ((dt.bitsTo d (8 * k + j)).map (Value.int .i64)) ∧ Below w.heap.size w wi) (fun mv _ _ => (intOf mv).toNat)
      case atStart => exact ⟨0, 128, by omega, Lib.hid rfl, rfl, HROW.out, HB.out⟩
      case round =>
        obtain ⟨j, M, hj, HM, rfl, hrow, hb⟩ := hrel
        obtain ⟨a, cap, rfl, hcap⟩ := ownsRow_len hrow
        have HROW2 := Lib.hid hrow; have HB2 := Lib.hid hb
        clear hrow hb
        by_cases hj8 : j < 8
        · obtain ⟨m1, m2⟩ := dt.pow_pos8 hj8 HM.out
          have m1' : (0 : Int) < (M : Int) := by omega
          have m2' : (M : Int) ≤ 128 := by omega
          have hq0 : (0 : Int) ≤ (d[k].toNat : Int) / (M : Int) := Int.ediv_nonneg hge (by omega)
          have hq1 : (d[k].toNat : Int) / (M : Int) < 256 := Int.lt_of_le_of_lt (Int.ediv_le_self _ hge) h256
          have hv := dt.bitI_at hj8 HM.out hlt
          have hs := dt.bitsTo_succ d (8 * k + j)
          have hln := dt.bitsTo_len d (8 * k + j)
          have q1 : 8 * k + j + 1 ≤ maxLen := by simp only [maxLen]; omega
          have q2 : (8 * k + j + 1) * 8 ≤ 140737488355328 := by omega
          have hm2 := Lib.hid (dt.half_pow HM.out)
          have hm3 : ((M : Int) / 2) = ((M / 2 : Nat) : Int) := by omega
          have HV := Lib.hid hv; have HS := Lib.hid hs; have HLN := Lib.hid hln; have Q1 := Lib.hid q1; have Q2 := Lib.hid q2; have HM3 := Lib.hid hm3
          clear hv hs hln q1 q2 hm3
          go_wp2_with (at_builtin; refine wpList_append_own _ rfl _ _ 180 rfl w.heap.size 3 i0 (.int .i64 0) 1 8 Tryz.underlying180 HI.out HZ.out HZ1.out HZ2.out rfl (by decide) _ _ _ rfl (HROW2.out.alloc _) ⟨wr.heap.size, 0, none⟩ 1 1 [.int .i64 ((d[k].toNat : Int) / (M : Int) % 2)] rfl rfl (cell_one_new _ _ _) (by simp [Value.oneCell']) Q1.out Q2.out (by have := HB2.out.size; simp; omega) ?_; intro v' w1 hown' hgrow _; have HO := Lib.hid hown'; have HG := Lib.hid hgrow; clear hown' hgrow)
          rw [HM3.out]
          go_roundw
          case rel =>
            refine ⟨j + 1, M / 2, by omega, hm2, rfl, ?_, ?_⟩
            · have h := HO.out
              rw [HV.out] at h
              rw [show 8 * k + (j + 1) = 8 * k + j + 1 by omega, HS.out, List.map_append]
              exact h
            · refine (HB2.out.alloc HB2.out.size _).grown HG.out (by have := HB2.out.size; simp; omega) (fun j ej => ?_)
              exact ownsRow_block HROW2.out ej
          case measure => simp [intOf]; omega
        · obtain rfl : j = 8 := by omega
          have hM0 := HM.out
          obtain rfl : M = 0 := by simpa using hM0
          clear hM0 HM
          go_wp2_with fail
          go_roundw
          case rel => exact ⟨k + 1, by omega, by go_num, by rw [show 8 * (k + 1) = 8 * k + 8 by omega]; exact HROW2.out, HB2.out⟩
          case measure => simp [intOf]; omega
    · obtain rfl : k = d.size := by omega
      go_wp2_with fail
      go_ret
      exact ⟨_, rfl, HROW.out, HB.out⟩
end Go.Proofs.YtdjjemajfphjaaaGreat

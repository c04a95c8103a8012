/- Walk of stack.Move where the registers fit. Conditions: the machine lies in memory, the lists too. -/
import Derived.Test.YtndmhnmclogpcaaMove
set_option linter.unusedVariables false
set_option linter.unusedSimpArgs false
namespace Go.Proofs.Ytndmhnmclogpcaa
open Go.RowKit Go.Maps

theorem step_copy_nothing {P : Program} {ops : Array Oper} {o : Oper} {a : Act} {w : World} {K : Act → World → Prop} {Q : Exit → Act → World → Prop} {E : Prop} (hgd : o.guard = none) (d s : Operand) (dT sT : TypeId)
    (ho : o.op = .call { callee := .builtin .copy, args := #[d, s], argTypes := #[dT, sT] }) (elem : TypeId) (hu : P.underlying dT = some (.slice elem)) (hsz : (P.info? elem).map (·.size) = some 1)
    (dp sp : Option Addr) (dLen dCap sLen sCap : Nat) (hd : a.eval d = .slice dp dLen dCap) (hs : a.eval s = .slice sp sLen sCap) (hn : Nat.min sLen dLen = 0)
    (h : K (a.put o.dst (goInt 0)) w) : if Region.wanted o (yielded ops a.tmps) = true then Oper.wp P o a w K Q else E := by
  have hw : Region.wanted o (yielded ops a.tmps) = true := by simp [Region.wanted, hgd]
  rw [if_pos hw]
  have hrun := run_copy_none (P := P) w dT sT o.type elem dp sp dLen dCap sLen sCap hu hsz hn
  unfold Oper.wp
  simp [execOp, ho, resolve, invoke, builtin, hd, hs, hrun, Result.andThen]
  exact h
theorem wf_of_u64 {a : Int} (h0 : 0 ≤ a) (h1 : a < 18446744073709551616) : (Lit.int .u64 a).wf = true := by
  show (decide (IntKind.u64.min ≤ a) && decide (a ≤ IntKind.u64.max)) = true
  have h2 : a ≤ 18446744073709551615 := by omega
  rw [decide_eq_true (show IntKind.u64.min ≤ a from h0), decide_eq_true (show a ≤ IntKind.u64.max from h2)]; rfl
theorem zeroI (w : World) : (zeroValue 3).run Try.prog w = .ok (.int .i64 0) w := by kernel_rfl
/-- the map of places that were seen counts none but those of S -/
def SeenP (D : DataW Unit) (S : List Int) : Prop := ∀ a c : Int, D.atKey (.int .u64 a) (.lit (.int .i64 0)) = .lit (.int .i64 c) → c ≠ 0 → a ∈ S
theorem seen_nil (S : List Int) : SeenP (.map []) S := by
  intro a c h hc
  have : (DataW.map (H := Unit) []).atKey (.int .u64 a) (.lit (.int .i64 0)) = .lit (.int .i64 0) := rfl
  rw [this] at h
  injection h with h
  injection h with _ h
  exact absurd h.symm hc
theorem SeenP.put {D : DataW Unit} {S : List Int} {a : Int} {d : DataW Unit} (h : SeenP D S) : SeenP (D.put (.int .u64 a) d) (S ++ [a]) := by
  intro b c hat hc
  by_cases hb : b = a
  · simp [hb]
  · rw [atKey_put_other (by intro e; injection e with _ e; exact hb e)] at hat
    exact List.mem_append_left _ (h b c hat hc)
theorem splice_tail (Z U n : Nat) (xs ts : List Int) (hn : n = Z + 8 * U) (hx : ts.length = U) : splice (byteVals (List.replicate n 0)) Z (byteVals (flat ts)) = byteVals (List.replicate Z 0 ++ flat ts) := by
  unfold splice
  have hl : (byteVals (flat ts)).length = 8 * U := by simp [byteVals, flat_length, hx]
  rw [hl]
  simp only [byteVals, List.map_append, List.map_replicate, List.take_replicate, List.drop_replicate]
  rw [show min Z n = Z by omega, show n - (Z + 8 * U) = 0 by omega]
  simp
theorem splice_word (Z i : Nat) (ts : List Int) (v : Int) (hi : i < ts.length) : splice (byteVals (List.replicate Z 0 ++ flat ts)) (Z + 8 * i) (byteVals (bytesLE 8 v)) = byteVals (List.replicate Z 0 ++ flat (ts.set i v)) := by
  have h := splice_flat ts i v hi
  unfold splice at h ⊢
  have hb : (byteVals (bytesLE 8 v)).length = 8 := by simp [byteVals, bytesLE_length]
  rw [hb] at h ⊢
  have e : byteVals (List.replicate Z 0 ++ flat ts) = byteVals (List.replicate Z 0) ++ byteVals (flat ts) := by simp [byteVals]
  have e2 : byteVals (List.replicate Z 0 ++ flat (ts.set i v)) = byteVals (List.replicate Z 0) ++ byteVals (flat (ts.set i v)) := by simp [byteVals]
  have hz : (byteVals (List.replicate Z 0)).length = Z := by simp [byteVals]
  rw [e, e2, ← h, List.take_append, hz, List.take_of_length_le (by omega), List.drop_append, List.drop_of_length_le (by omega), hz, List.nil_append, show Z + 8 * i - Z = 8 * i by omega, show Z + 8 * i + 8 - Z = 8 * i + 8 by omega, List.append_assoc]
theorem made_zero (n : Nat) : (madeCells #[Value.int .u8 0] n).toList = byteVals (List.replicate n 0) := by rw [toList_madeCells_one]; simp [byteVals]
def boolCells (S : List Int) : Array Value := ((List.range 16).map fun r : Nat => Value.bool (decide ((r : Int) ∈ S))).toArray
theorem bool_get (S : List Int) (r : Nat) (hr : r < 16) : (boolCells S)[r]? = some (.bool (decide ((r : Int) ∈ S))) := by
  unfold boolCells
  rw [List.getElem?_toArray, List.getElem?_map, List.getElem?_range hr]; rfl
theorem bool_step (S : List Int) (r : Nat) (hr : r < 16) : (boolCells S).setIfInBounds r (.bool true) = boolCells (S ++ [(r : Int)]) := by
  unfold boolCells
  rw [List.setIfInBounds_toArray]
  congr 1
  apply List.ext_getElem?
  intro j
  rw [getElem?_set_lt (by simpa using hr), List.getElem?_map, List.getElem?_map]
  by_cases hij : r = j
  · subst hij
    rw [if_pos rfl, List.getElem?_range hr]
    simp
  · rw [if_neg hij]
    by_cases hj : j < 16
    · rw [List.getElem?_range hj]
      simp only [Option.map_some, Option.some.injEq, Value.bool.injEq, decide_eq_decide, List.mem_append, List.mem_singleton]
      constructor
      · exact .inl
      · rintro (h | h)
        · exact h
        · omega
    · rw [List.getElem?_eq_none (by simpa using hj)]; rfl
theorem flat_zeros (k : Nat) : flat (List.replicate k 0) = List.replicate (8 * k) 0 := by
  induction k with
  | zero => rfl
  | succ k ih =>
    rw [List.replicate_succ, flat, List.flatMap_cons, show bytesLE 8 0 = List.replicate 8 0 by decide, ← flat, ih, List.replicate_append_replicate]
    congr 1
    omega
def okA (s E a : Int) : Prop := a % 8 = 0 ∧ s ≤ a ∧ a < E
def MoveAll (s E : Int) (words rs : List Int) (base' size : Int) : Prop := (∀ a ∈ words, okA s E a) ∧ (∀ r ∈ rs, 0 ≤ r ∧ r < 14) ∧ MayP base' size
/-- what a move leaves -/
def MovePost (w : World) (lo p : Nat) (cv : Value) (regs : List Int) (pc base : Int) (ws : List Int) (base' size : Int) (words rs : List Int) (m z : Nat) (y : Int) (e : Ending) (w' : World) : Prop :=
  (MoveAll (regs.getD 14 0) (base + 8 * ws.length) words rs base' size ∧ e = .returned (.int .i64 0) ∧ ∃ sv', ChipAt w' lo p cv sv' (regsW base (base + 8 * ws.length) y rs regs (regs.getD 14 0)) pc base' (movedW base (base + 8 * ws.length) y words ws m z) ∧ Keeps (fun i => i = p) w w' ∧ ∀ k, sv'.ownBlock = some k → w.heap.size ≤ k) ∨
  (¬ MoveAll (regs.getD 14 0) (base + 8 * ws.length) words rs base' size ∧ e = .returned (.int .i64 2) ∧ Below w.heap.size w w')
set_option maxRecDepth 100000 in
set_option maxHeartbeats 8000000 in
theorem move_any {w : World} {lo p : Nat} {cv sv : Value} {regs : List Int} {pc base : Int} {ws : List Int} (h : ChipAt w lo p cv sv regs pc base ws) (base' : Int) (N : Nat) (hb' : U64 base') (m U : Nat) (hmU : ws.length = m + U) (hsm : regs.getD 14 0 = base + 8 * m) (hUN : 8 * U ≤ N) (hN : N ≤ 65536)
    (y : Int) (hy : y = IntKind.u64.wrap (base' + N - (base + 8 * ws.length)))
    (B : Nat) (hB : B ≤ w.heap.size) (WA : Option Addr) (wn wc : Nat) (words : List Int) (hW : Reads w B 1 WA wn (words.map (Value.int .u64))) (hwl : words.length = wn) (hwn : wn ≤ wc) (hwc : wn ≤ 140737488351232) (hwu : ∀ a ∈ words, U64 a)
    (RA : Option Addr) (rn rc : Nat) (rs : List Int) (hR : Reads w B 1 RA rn (rs.map (Value.int .i64))) (hrl : rs.length = rn) (hrn : rn ≤ rc) (hrc : rn ≤ 140737488351232) (hRp : ∀ ad, RA = some ad → 0 < rn → ad.block ≠ p) :
    Calls Try.prog 13 #[.pointer (some ⟨p, 0, none⟩), .int .u64 base', .int .i64 N, .slice WA wn wc, .slice RA rn rc] w fun e w' => MovePost w lo p cv regs pc base ws base' N words rs m ((N - 8 * U) / 8) y e w' := by
  obtain ⟨i0, hi0, hz0, hz1, hz2⟩ := info_parts infoU8
  obtain ⟨hsp, hsu⟩ := h.sp
  obtain ⟨f1, f2, f3, f4⟩ := h.fit
  obtain ⟨hb0, hb1⟩ := hb'
  have hmm := @run_makeMap Try.prog
  have hwok := h.wok
  have hreg := h.u64
  have hrlen := h.len
  obtain ⟨s, hse⟩ : ∃ s, s = regs.getD 14 0 := ⟨_, rfl⟩
  obtain ⟨n, hn⟩ : ∃ n, n = 8 * ws.length := ⟨_, rfl⟩
  obtain ⟨u, hu⟩ : ∃ u, u = 8 * U := ⟨_, rfl⟩
  obtain ⟨E, hE⟩ : ∃ E, E = base + 8 * (ws.length : Int) := ⟨_, rfl⟩
  have hpost : ∀ e w', MovePost w lo p cv regs pc base ws base' N words rs m ((N - 8 * U) / 8) y e w' = ((MoveAll s E words rs base' N ∧ e = .returned (.int .i64 0) ∧ ∃ sv', ChipAt w' lo p cv sv' (regsW base E y rs regs s) pc base' (movedW base E y words ws m ((N - 8 * U) / 8)) ∧ Keeps (fun i => i = p) w w' ∧ ∀ k, sv'.ownBlock = some k → w.heap.size ≤ k) ∨ (¬ MoveAll s E words rs base' N ∧ e = .returned (.int .i64 2) ∧ Below w.heap.size w w')) := fun e w' => by
    unfold MovePost; rw [hse, hE]
  simp only [hpost]
  have hused : usedP regs base ws := by unfold usedP; omega
  have hE2 : base + (n : Int) = E := by omega
  have hu2 : base + 8 * ws.length - regs.getD 14 0 = (u : Int) := by omega
  have hsE : s = E - u := by omega
  rw [← hse] at hsp hsu
  unfold U64 at hsu
  obtain ⟨hs0, hs1⟩ := hsu
  have hn4 : n ≤ 65536 := by omega
  have huN : u ≤ N := by omega
  have hun : u ≤ n := by omega
  obtain ⟨r, hr⟩ : ∃ r, (u : Int).tmod 8 = r := ⟨_, rfl⟩
  have hr0 : r = 0 := by rw [← hr, Int.tmod_eq_emod_of_nonneg (by omega)]; omega
  subst hr0
  obtain ⟨y0, hy0⟩ : ∃ y0, IntKind.u64.wrap (base' + N) = y0 := ⟨_, rfl⟩
  have hy1 : IntKind.u64.wrap (y0 - E) = y := by rw [hy, ← hy0, hE]; simp only [IntKind.wrap_u64]; omega
  have hyb : 0 ≤ y ∧ y < 18446744073709551616 := by rw [hy, IntKind.wrap_u64]; omega
  have hyE : (E + y) % 18446744073709551616 = (base' + N) % 18446744073709551616 := by rw [hy, hE, IntKind.wrap_u64]; omega
  obtain ⟨Z, hZ⟩ : ∃ Z : Nat, (N : Int) - u = Z := ⟨N - u, by omega⟩
  obtain ⟨q, hq⟩ : ∃ q : Nat, (n : Int) - u = q := ⟨n - u, by omega⟩
  have hmk : ∀ W : World, (Instr.makeSlice 33 (.int .i64 (N : Int)) (.int .i64 (N : Int))).run Try.prog W = .ok (.slice (some ⟨W.heap.size, 0, none⟩) N N) (W.alloc (.cells (madeCells #[.int .u8 0] N) 5)) := fun W => by
    have h := run_make_rowN (P := Try.prog) 33 5 i0 _ Try.underlying33 hi0 hz0 .i64 .i64 N N (Nat.le_refl _) (by rw [hz2]; omega) (by omega) W
    rw [hz1, Nat.mul_one] at h
    exact h
  have HRp := Lib.hid hRp
  have H := Lib.hid h
  have Hsp := Lib.hid hsp
  have Hn := Lib.hid hn
  have Hse := Lib.hid hse
  have Hu := Lib.hid hu
  have HU2 := Lib.hid hu2
  have Hused := Lib.hid hused
  have HE := Lib.hid hE
  have Hsm := Lib.hid hsm
  have HmU := Lib.hid hmU
  have HsE := Lib.hid hsE
  have Hpost := Lib.hid hpost
  have Hwok := Lib.hid hwok
  have Hreg := Lib.hid hreg
  have Hrlen := Lib.hid hrlen
  have HyE := Lib.hid hyE
  have HUN := Lib.hid hUN
  have Hy := Lib.hid hy
  have HW := Lib.hid hW
  have HR := Lib.hid hR
  have Hwl := Lib.hid hwl
  have Hwu := Lib.hid hwu
  have Hrl := Lib.hid hrl
  clear hrl hwu hwl hR hW hy hUN hyE hrlen hreg hwok hpost hsE hmU hsm hE hused hu2 hu hse hn hsp h hRp
  clear f4
  go_enter Try.func13, Try.ntmps13
  go_wp2_with fail
  refine (stack_in H.out).mono ?_
  rintro e w1 ⟨tv, rfl, hown, hb⟩
  rw [← Hn.out] at hown
  have hA1 := fun A c (e : tv = .slice A n c) => own_nilcap (A := A) (c := c) (by rw [e] at hown; exact hown)
  obtain ⟨A, c, rfl, hnc, hc, _⟩ := own_any hown
  have h1' := H.out.below hb
  have hs' := hb.size
  unfold maxLen at hc
  have H1' := Lib.hid h1'
  have Hb := Lib.hid hb
  have Hown := Lib.hid hown
  clear hown hb h1'
  clear hA1
  go_wp2_with fail
  refine (used_in H1'.out Hused.out).mono ?_
  rintro e w2 ⟨rfl, hb2⟩
  rw [HU2.out]
  have h2' := H1'.out.below hb2
  have hbb := Hb.out.trans (hb2.mono hs')
  have ho2 := own_kept' Hown.out (only_of_below hb2 none) nofun
  have hs2 := hbb.size
  have H2' := Lib.hid h2'
  have Hbb := Lib.hid hbb
  have Ho2 := Lib.hid ho2
  clear ho2 hbb h2'
  clear hb2
  go_wp2_with fail
  refine (reg_in H2'.out 14 s Hsp.out _ rfl).mono ?_
  rintro e w3 ⟨rfl, rfl⟩
  go_upto_region 11 with fail
  obtain ⟨M, hM⟩ : ∃ M, M = w2.heap.size := ⟨_, rfl⟩
  have hF0 : (w2.alloc (.cells (madeCells #[.int .u8 0] N) 5)).ownsRow M 5 1 (.slice (some ⟨M, 0, none⟩) N N) N (byteVals (List.replicate N 0)) := by
    rw [hM]; exact own_of_blk (Blk.new w2 _ _) (Nat.le_refl _) (made_zero N) (by simp [byteVals]) (by unfold maxLen; omega)
  have hb0 : Below M w2 (w2.alloc (.cells (madeCells #[.int .u8 0] N) 5)) := by rw [hM]; exact (Below.refl _ _).alloc (Nat.le_refl _) _
  rw [← hM]
  have hwM : w.heap.size ≤ M := by omega
  have hM1 : M ≤ w2.heap.size := by omega
  have hZN : (Z : Int) ≤ N := by omega
  have hqn : (q : Int) ≤ n := by omega
  have hq8 : q = 8 * m := by have := Hu.out; have := Hn.out; have := HmU.out; omega
  have hNz : N = Z + 8 * U := by have := Hu.out; omega
  have HF0 := Lib.hid hF0
  have Hb0 := Lib.hid hb0
  have HM := Lib.hid hM
  have HQ8 := Lib.hid hq8
  have HNz := Lib.hid hNz
  clear hNz hq8 hM hb0 hF0
  go_cut [] (fun wx => wx.ownsRow M 5 1 (.slice (some ⟨M, 0, none⟩) N N) N (byteVals (List.replicate Z 0 ++ flat (tailW base E y [] ws m))) ∧ Below M w2 wx)
  case first =>
    refine wp_region_late (S := fun _ => True) #[false, false, false, false, false, false, false, false, false, false, false, true] (by kernel_rfl) trivial (fun hHeld => ?_)
    have hwZ : IntKind.i64.wrap (Z : Int) = Z := by rw [IntKind.wrap_i64]; omega
    have hwq : IntKind.i64.wrap (q : Int) = q := by rw [IntKind.wrap_i64]; omega
    by_cases hu0 : u = 0
    · have hu1 := Lib.hid hu0
      clear hu0
      obtain ⟨o1, ho1⟩ : ∃ o1, (if N = Z then some (⟨M, 0, none⟩ : Addr) else some ⟨M, Z, none⟩) = o1 := ⟨_, rfl⟩
      obtain ⟨o2, ho2⟩ : ∃ o2, (if c = q then A else Option.map (fun x => x.add q) A) = o2 := ⟨_, rfl⟩
      refine wpAnyL_take (i := 0) (v := ?_) rfl (by kernel_rfl) (by kernel_rfl) (by kernel_rfl) (by kernel_rfl) (fun _ _ _ h => h) (Or.inl ⟨by rfl, ?_⟩) (by assumption) ?_
      rotate_left
      · intro w hSw; (try dsimp only at hSw); go_simp; try with_reducible rfl
      simp only [Act.put, List.getElem_toArray, List.getElem_cons_zero, List.getElem_cons_succ, List.setIfInBounds_toArray, List.set_cons_zero, List.set_cons_succ]
      refine wpAnyL_take (i := 1) (v := ?_) rfl (by kernel_rfl) (by kernel_rfl) (by kernel_rfl) (by kernel_rfl) (fun _ _ _ h => h) (Or.inl ⟨by rfl, ?_⟩) (by assumption) ?_
      rotate_left
      · intro w hSw; (try dsimp only at hSw); go_simp; try with_reducible rfl
      simp only [Act.put, List.getElem_toArray, List.getElem_cons_zero, List.getElem_cons_succ, List.setIfInBounds_toArray, List.set_cons_zero, List.set_cons_succ]
      refine wpAnyL_take (i := 2) (v := ?_) rfl (by kernel_rfl) (by kernel_rfl) (by kernel_rfl) (by kernel_rfl) (fun _ _ _ h => h) (Or.inl ⟨by rfl, ?_⟩) (by assumption) ?_
      rotate_left
      · intro w hSw; (try dsimp only at hSw); go_simp; try with_reducible rfl
      simp only [Act.put, List.getElem_toArray, List.getElem_cons_zero, List.getElem_cons_succ, List.setIfInBounds_toArray, List.set_cons_zero, List.set_cons_succ]
      refine wpAnyL_take (i := 3) (v := ?_) rfl (by kernel_rfl) (by kernel_rfl) (by kernel_rfl) (by kernel_rfl) (fun _ _ _ h => h) (Or.inl ⟨by rfl, ?_⟩) (by assumption) ?_
      rotate_left
      · intro w hSw; (try dsimp only at hSw); go_simp; try with_reducible rfl
      simp only [Act.put, List.getElem_toArray, List.getElem_cons_zero, List.getElem_cons_succ, List.setIfInBounds_toArray, List.set_cons_zero, List.set_cons_succ]
      refine wpAnyL_take (i := 4) (v := ?_) rfl (by kernel_rfl) (by kernel_rfl) (by kernel_rfl) (by kernel_rfl) (fun _ _ _ h => h) (Or.inl ⟨by rfl, ?_⟩) (by assumption) ?_
      rotate_left
      · intro w hSw; (try dsimp only at hSw); go_simp; try with_reducible rfl
      simp only [Act.put, List.getElem_toArray, List.getElem_cons_zero, List.getElem_cons_succ, List.setIfInBounds_toArray, List.set_cons_zero, List.set_cons_succ]
      refine wpAnyL_take (i := 5) (v := ?_) rfl (by kernel_rfl) (by kernel_rfl) (by kernel_rfl) (by kernel_rfl) (fun _ _ _ h => h) (Or.inl ⟨by rfl, ?_⟩) (by assumption) ?_
      rotate_left
      · intro w hSw; (try dsimp only at hSw); go_simp; try with_reducible rfl
      simp only [Act.put, List.getElem_toArray, List.getElem_cons_zero, List.getElem_cons_succ, List.setIfInBounds_toArray, List.set_cons_zero, List.set_cons_succ]
      refine wpAnyL_take (i := 6) (v := ?_) rfl (by kernel_rfl) (by kernel_rfl) (by kernel_rfl) (by kernel_rfl) (fun _ _ _ h => h) (Or.inl ⟨by rfl, ?_⟩) (by assumption) ?_
      rotate_left
      · intro w hSw; (try dsimp only at hSw); go_simp; try with_reducible rfl
      simp only [Act.put, List.getElem_toArray, List.getElem_cons_zero, List.getElem_cons_succ, List.setIfInBounds_toArray, List.set_cons_zero, List.set_cons_succ]
      refine wpAnyL_take (i := 7) (v := ?_) rfl (by kernel_rfl) (by kernel_rfl) (by kernel_rfl) (by kernel_rfl) (fun _ _ _ h => h) (Or.inl ⟨by rfl, ?_⟩) (by assumption) ?_
      rotate_left
      · intro w hSw; (try dsimp only at hSw); go_simp; try with_reducible rfl
      simp only [Act.put, List.getElem_toArray, List.getElem_cons_zero, List.getElem_cons_succ, List.setIfInBounds_toArray, List.set_cons_zero, List.set_cons_succ]
      refine wpAnyL_take (i := 8) (v := ?_) rfl (by kernel_rfl) (by kernel_rfl) (by kernel_rfl) (by kernel_rfl) (fun _ _ _ h => h) (Or.inl ⟨by rfl, ?_⟩) (by assumption) ?_
      rotate_left
      · intro w hSw; (try dsimp only at hSw); go_simp; try with_reducible rfl
      simp only [Act.put, List.getElem_toArray, List.getElem_cons_zero, List.getElem_cons_succ, List.setIfInBounds_toArray, List.set_cons_zero, List.set_cons_succ]
      refine wpAnyL_take (i := 9) (v := ?_) rfl (by kernel_rfl) (by kernel_rfl) (by kernel_rfl) (by kernel_rfl) (fun _ _ _ h => h) (Or.inl ⟨by rfl, ?_⟩) (by assumption) ?_
      rotate_left
      · intro w hSw; (try dsimp only at hSw); go_simp; try with_reducible rfl
      simp only [Act.put, List.getElem_toArray, List.getElem_cons_zero, List.getElem_cons_succ, List.setIfInBounds_toArray, List.set_cons_zero, List.set_cons_succ]
      refine wpAnyL_take (i := 10) (v := ?_) rfl (by kernel_rfl) (by kernel_rfl) (by kernel_rfl) (by kernel_rfl) (fun _ _ _ h => h) (Or.inl ⟨by rfl, ?_⟩) (by assumption) ?_
      rotate_left
      · intro w hSw; (try dsimp only at hSw); go_simp; try with_reducible rfl
      simp only [Act.put, List.getElem_toArray, List.getElem_cons_zero, List.getElem_cons_succ, List.setIfInBounds_toArray, List.set_cons_zero, List.set_cons_succ]
      refine wpAnyL_ready (rs := [11]) (by kernel_rfl) (by simp) ?_
      refine AllReadyL.last rfl (by kernel_rfl) (fun K hK => ?_) AllReadyL.nil
      refine step_copy_nothing rfl (.tmp 81) (.tmp 87) _ _ rfl 5 Try.underlying33 (by kernel_rfl) _ _ _ _ _ _ rfl rfl (by have := hu1.out; rw [show n - q = 0 by omega]; exact Nat.zero_min _) ?_
      refine hK.out _ _ ?_
      clear hK K hHeld
      refine wpAnyL_done (by kernel_rfl) ?_ _
      go_wp2_with fail
      go_meet
      have hU0 : U = 0 := by have := hu1.out; have := Hu.out; omega
      have hd : ws.drop m = [] := List.drop_of_length_le (by have := HmU.out; omega)
      refine ⟨?_, Hb0.out.drew⟩
      rw [tail_nil, hd, show flat [] = [] from rfl, List.append_nil, show Z = N by have := hu1.out; omega]
      exact HF0.out
    · obtain ⟨g1, c1, hA1, hg1, hg2, _⟩ := own_form Ho2.out (by omega)
      injection hA1 with hA1 _ hc1
      subst hA1 hc1
      have hNZ : ¬ N = Z := by omega
      have hcq : ¬ c = q := by omega
      refine wpAnyL_take (i := 0) (v := ?_) rfl (by kernel_rfl) (by kernel_rfl) (by kernel_rfl) (by kernel_rfl) (fun _ _ _ h => h) (Or.inl ⟨by rfl, ?_⟩) (by assumption) ?_
      rotate_left
      · intro w hSw; (try dsimp only at hSw); go_simp; try with_reducible rfl
      simp only [Act.put, List.getElem_toArray, List.getElem_cons_zero, List.getElem_cons_succ, List.setIfInBounds_toArray, List.set_cons_zero, List.set_cons_succ]
      refine wpAnyL_take (i := 1) (v := ?_) rfl (by kernel_rfl) (by kernel_rfl) (by kernel_rfl) (by kernel_rfl) (fun _ _ _ h => h) (Or.inl ⟨by rfl, ?_⟩) (by assumption) ?_
      rotate_left
      · intro w hSw; (try dsimp only at hSw); go_simp; try with_reducible rfl
      simp only [Act.put, List.getElem_toArray, List.getElem_cons_zero, List.getElem_cons_succ, List.setIfInBounds_toArray, List.set_cons_zero, List.set_cons_succ]
      refine wpAnyL_take (i := 2) (v := ?_) rfl (by kernel_rfl) (by kernel_rfl) (by kernel_rfl) (by kernel_rfl) (fun _ _ _ h => h) (Or.inl ⟨by rfl, ?_⟩) (by assumption) ?_
      rotate_left
      · intro w hSw; (try dsimp only at hSw); go_simp; try with_reducible rfl
      simp only [Act.put, List.getElem_toArray, List.getElem_cons_zero, List.getElem_cons_succ, List.setIfInBounds_toArray, List.set_cons_zero, List.set_cons_succ]
      refine wpAnyL_take (i := 3) (v := ?_) rfl (by kernel_rfl) (by kernel_rfl) (by kernel_rfl) (by kernel_rfl) (fun _ _ _ h => h) (Or.inl ⟨by rfl, ?_⟩) (by assumption) ?_
      rotate_left
      · intro w hSw; (try dsimp only at hSw); go_simp; try with_reducible rfl
      simp only [Act.put, List.getElem_toArray, List.getElem_cons_zero, List.getElem_cons_succ, List.setIfInBounds_toArray, List.set_cons_zero, List.set_cons_succ]
      refine wpAnyL_take (i := 4) (v := ?_) rfl (by kernel_rfl) (by kernel_rfl) (by kernel_rfl) (by kernel_rfl) (fun _ _ _ h => h) (Or.inl ⟨by rfl, ?_⟩) (by assumption) ?_
      rotate_left
      · intro w hSw; (try dsimp only at hSw); go_simp; try with_reducible rfl
      simp only [Act.put, List.getElem_toArray, List.getElem_cons_zero, List.getElem_cons_succ, List.setIfInBounds_toArray, List.set_cons_zero, List.set_cons_succ]
      refine wpAnyL_take (i := 5) (v := ?_) rfl (by kernel_rfl) (by kernel_rfl) (by kernel_rfl) (by kernel_rfl) (fun _ _ _ h => h) (Or.inl ⟨by rfl, ?_⟩) (by assumption) ?_
      rotate_left
      · intro w hSw; (try dsimp only at hSw); go_simp; try with_reducible rfl
      simp only [Act.put, List.getElem_toArray, List.getElem_cons_zero, List.getElem_cons_succ, List.setIfInBounds_toArray, List.set_cons_zero, List.set_cons_succ]
      refine wpAnyL_take (i := 6) (v := ?_) rfl (by kernel_rfl) (by kernel_rfl) (by kernel_rfl) (by kernel_rfl) (fun _ _ _ h => h) (Or.inl ⟨by rfl, ?_⟩) (by assumption) ?_
      rotate_left
      · intro w hSw; (try dsimp only at hSw); go_simp; try with_reducible rfl
      simp only [Act.put, List.getElem_toArray, List.getElem_cons_zero, List.getElem_cons_succ, List.setIfInBounds_toArray, List.set_cons_zero, List.set_cons_succ]
      refine wpAnyL_take (i := 7) (v := ?_) rfl (by kernel_rfl) (by kernel_rfl) (by kernel_rfl) (by kernel_rfl) (fun _ _ _ h => h) (Or.inl ⟨by rfl, ?_⟩) (by assumption) ?_
      rotate_left
      · intro w hSw; (try dsimp only at hSw); go_simp; try with_reducible rfl
      simp only [Act.put, List.getElem_toArray, List.getElem_cons_zero, List.getElem_cons_succ, List.setIfInBounds_toArray, List.set_cons_zero, List.set_cons_succ]
      refine wpAnyL_take (i := 8) (v := ?_) rfl (by kernel_rfl) (by kernel_rfl) (by kernel_rfl) (by kernel_rfl) (fun _ _ _ h => h) (Or.inl ⟨by rfl, ?_⟩) (by assumption) ?_
      rotate_left
      · intro w hSw; (try dsimp only at hSw); go_simp; try with_reducible rfl
      simp only [Act.put, List.getElem_toArray, List.getElem_cons_zero, List.getElem_cons_succ, List.setIfInBounds_toArray, List.set_cons_zero, List.set_cons_succ]
      refine wpAnyL_take (i := 9) (v := ?_) rfl (by kernel_rfl) (by kernel_rfl) (by kernel_rfl) (by kernel_rfl) (fun _ _ _ h => h) (Or.inl ⟨by rfl, ?_⟩) (by assumption) ?_
      rotate_left
      · intro w hSw; (try dsimp only at hSw); go_simp; try with_reducible rfl
      simp only [Act.put, List.getElem_toArray, List.getElem_cons_zero, List.getElem_cons_succ, List.setIfInBounds_toArray, List.set_cons_zero, List.set_cons_succ]
      refine wpAnyL_take (i := 10) (v := ?_) rfl (by kernel_rfl) (by kernel_rfl) (by kernel_rfl) (by kernel_rfl) (fun _ _ _ h => h) (Or.inl ⟨by rfl, ?_⟩) (by assumption) ?_
      rotate_left
      · intro w hSw; (try dsimp only at hSw); go_simp; try with_reducible rfl
      simp only [Act.put, List.getElem_toArray, List.getElem_cons_zero, List.getElem_cons_succ, List.setIfInBounds_toArray, List.set_cons_zero, List.set_cons_succ]
      refine wpAnyL_ready (rs := [11]) (by kernel_rfl) (by simp) ?_
      refine AllReadyL.last rfl (by kernel_rfl) (fun K hK => ?_) AllReadyL.nil
      have hro2 : w2.ownsRow w.heap.size 5 1 (.slice (some ⟨g1, 0, none⟩) n c) n (byteVals (flat ws)) := Ho2.out
      have hcl := hro2.cells (g := g1) rfl
      refine step_copy_into rfl (.tmp 81) (.tmp 87) _ _ rfl 5 Try.underlying33 (by kernel_rfl) HF0.out ⟨g1, q, none⟩ rfl rfl (news := byteVals (flat (ws.drop m))) (by simp only [byteVals, List.length_map, flat_length, List.length_drop]; have := HQ8.out; have := Hn.out; have := HmU.out; omega) (fun j x hx => ?_) (byteVals_one _) (by omega) (by omega) ?_
      · rw [addr_at]
        have e : (byteVals (flat ws))[q + j]? = some x := by
          rw [← hx, ← flat_drop, byteVals, byteVals, List.map_drop, List.getElem?_drop, HQ8.out]
        have h1 := hcl (q + j) x e
        rw [addr_zero] at h1
        exact (World.cell?_alloc_lt w2 _ _ (by have := hg2; simpa using this)).trans h1
      intro w4 hown4 hg4
      refine hK.out _ _ ?_
      clear hK K hHeld
      refine wpAnyL_done (by kernel_rfl) ?_ _
      rw [splice_tail Z U N [] (ws.drop m) HNz.out (by rw [List.length_drop]; have := HmU.out; omega)] at hown4
      have hb4 := Hb0.out.drew.grown hg4 (by have := Hb0.out.size; simp only [World.size_drew]; have := HM.out; omega) (fun k e => by cases e; exact Nat.le_refl _)
      have Hown4 := Lib.hid hown4
      have Hb4 := Lib.hid hb4
      clear hb4 hown4
      clear hg4 hcl hro2
      go_wp2_with fail
      go_meet
      rw [tail_nil]
      exact ⟨Hown4.out, Hb4.out⟩
  case rest =>
    obtain ⟨hF1, hb1⟩ := hcut
    have hbq := hb1
    rw [HM.out] at hbq
    have hMl : M < wc.heap.size := (hF1.lt M rfl).2
    have hbb5 := Hbb.out.trans (hbq.mono hs2)
    obtain ⟨Mb, hMb⟩ : ∃ Mb, Mb = wc.heap.size := ⟨_, rfl⟩
    have hmap0 : (wc.alloc (.map #[] 0)).ownsMap Try.prog 29 (plainElem (H := Unit) Try.prog 3) Mb 0 (.map []) := by rw [hMb]; exact World.ownsMap_made _ _ _ _
    have hF2 := hF1.alloc (.map #[] 0)
    have hb2 := hb1.alloc (by omega) (.map #[] 0)
    have hMMb : M ≠ Mb := by omega
    have hMMb1 : M < Mb := by omega
    have Hmap0 := Lib.hid hmap0
    have HF2 := Lib.hid hF2
    have Hb2 := Lib.hid hb2
    have HMb := Lib.hid hMb
    clear hMb hb2 hF2 hmap0
    clear hF1 hb1 hbq hbb5
    go_wp2_with fail
    rw [← HMb.out]
    go_loopw [92] (fun i wq => ∃ k : Nat, k ≤ wn ∧ i = .int .i64 k ∧ ∃ D : DataW Unit, wq.ownsMap Try.prog 29 (plainElem Try.prog 3) Mb k D ∧ Hid (SeenP D (words.take k)) ∧ wq.ownsRow M 5 1 (.slice (some ⟨M, 0, none⟩) N N) N (byteVals (List.replicate Z 0 ++ flat (tailW base E y (words.take k) ws m))) ∧ Below M w2 wq ∧ Hid (∀ a ∈ words.take k, okA s E a)) (fun i _ => wn - (intOf i).toNat)
    case atStart => exact ⟨0, by omega, rfl, _, Hmap0.out, seen_nil _, HF2.out, Hb2.out, by intro x hx; simp at hx⟩
    case round =>
      obtain ⟨k, hk, rfl, D, hmap, hseen, hF, hbw, hall⟩ := hrel
      have hbwq := hbw
      rw [HM.out] at hbwq
      have hbww := Hbb.out.trans (hbwq.mono hs2)
      by_cases hlt : k < wn
      · obtain ⟨ad, u0, hWA, _, hu0, hce⟩ := (HW.out.below (hbww.mono hB)).at_ hlt
        subst hWA
        obtain ⟨a, hak, rfl⟩ : ∃ a, words[k]? = some a ∧ u0 = .int .u64 a := by
          rw [List.getElem?_map, Option.map_eq_some_iff] at hu0
          obtain ⟨x, h1, h2⟩ := hu0
          exact ⟨x, h1, h2.symm⟩
        have hau := Hwu.out a (List.mem_of_getElem? hak)
        unfold U64 at hau
        obtain ⟨ha0, ha1⟩ := hau
        obtain ⟨r8, hr8⟩ : ∃ r8, a.tmod 8 = r8 := ⟨_, rfl⟩
        have hr8' : r8 = a % 8 := by rw [← hr8, Int.tmod_eq_emod_of_nonneg ha0]
        have htake : words.take (k + 1) = words.take k ++ [a] := by rw [List.take_add_one, hak]; rfl
        by_cases hok : okA s E a
        · obtain ⟨ho1, ho2, ho3⟩ := id hok
          obtain ⟨i, hiU, hai⟩ : ∃ i : Nat, i < U ∧ a = base + 8 * ((m + i : Nat) : Int) := by
            have := HsE.out; have := Hu.out; have := HE.out; have := HmU.out
            exact ⟨((a - s) / 8).toNat, by omega, by omega⟩
          obtain ⟨v, hv⟩ : ∃ v, ws[m + i]? = some v := ⟨_, List.getElem?_eq_getElem (by have := HmU.out; omega)⟩
          have hvu := Hwok.out v (List.mem_of_getElem? hv)
          obtain ⟨j, hj⟩ : ∃ j : Nat, a - base = (j : Int) := ⟨8 * (m + i), by omega⟩
          have hj8 : j = 8 * (m + i) := by omega
          have hj9 : j + 8 ≤ n := by have := Hn.out; have := HmU.out; omega
          have hword := flat_word ws (m + i) v hv hvu
          rw [← hj8] at hword
          unfold U64 at hvu
          obtain ⟨hv0, hv1⟩ := hvu
          have hwfa : (Lit.int .u64 a).wf = true := wf_of_u64 ha0 ha1
          have b1 : (r8 != 0) = false := by rw [hr8']; simpa using ho1
          have b2 : ¬ a < s := by omega
          have b3 : ¬ E ≤ a := by omega
          have hrow := own_kept' Ho2.out (only_of_below hbwq none) nofun
          have hjb : base ≤ a := by omega
          obtain ⟨cc, hrun, hat, hwc⟩ := hmap.lookup_int (int_keyed Try.underlying29) Try.underlying68 Try.underlying3 (zeroI wr) (key := .int .u64 a) (keyOf_int_mk Try.underlying29 hwfa)
          have hall' : ∀ b ∈ words.take (k + 1), okA s E b := by
            rw [htake]
            intro b hb
            rcases List.mem_append.1 hb with h | h
            · exact hall.out b h
            · simp at h; rw [h]; exact hok
          have Hword := Lib.hid hword
          have Hj8 := Lib.hid hj8
          have Hai := Lib.hid hai
          have Hv := Lib.hid hv
          have Hok := Lib.hid hok
          have Hak := Lib.hid hak
          have Htake := Lib.hid htake
          have Hr8' := Lib.hid hr8'
          have Hrow := Lib.hid hrow
          have Hall' := Lib.hid hall'
          have Hat := Lib.hid hat
          have Hbwq := Lib.hid hbwq
          have Hbww := Lib.hid hbww
          clear hbww hbwq hat hall' hrow hr8' htake hak hok hv hai hj8 hword
          clear ho1 ho2 ho3 hu0
          rcases (show v < base ∨ ¬ v < base ∧ E ≤ v ∨ base ≤ v ∧ v < E ∧ cc ≠ 0 ∨ base ≤ v ∧ v < E ∧ cc = 0 by omega) with c1 | ⟨c1, c2⟩ | ⟨c1, c2, c3⟩ | ⟨c1, c2, c3⟩
          · have hF1 : ¬ base ≤ v := by first | omega | exact ⟨by omega, by omega⟩ | exact ⟨by rw [beq_eq_false_iff_ne]; exact c3, trivial⟩
            have Hseen2 := hseen
            go_wp2_with fail
            refine (take_as A n c j _ v (flat ws) wr wr.heap.size (Reads.of_own Hrow.out) (flat_byte ws) rfl hj9 hnc hc Hword.out).mono ?_
            rintro e w7 ⟨rfl, rfl⟩
            go_wp2_with (first
              | (at_mapUpdate; refine wpList_mapUpdate_own _ rfl _ _ _ 68 rfl 29 3 (int_keyed Try.underlying29) Try.underlying68 _ Mb k _ rfl hmap (by unfold maxLen; omega) _ _ _ rfl rfl (keyOf_int_mk Try.underlying29 hwfa) _ [] (plainElem_int Try.underlying3 (wrap64_wf _)) ?_; intro w8 hmap8 hg8))
            have hF8 := hF.kept hg8 (.inr (by intro e; injection e with e; exact hMMb e))
            have hb8 := hbw.grown hg8 (by have := hbw.size; omega) (fun g e => by cases e; omega)
            refine ⟨⟨k + 1, by omega, by go_num, _, hmap8, ?_, ?_, hb8, Hall'.out⟩, by simp [intOf]; omega⟩
            · rw [Htake.out]; exact Hseen2.out.put
            · rw [Htake.out, Hai.out, show tailW base E y (words.take k ++ [base + 8 * ((m + i : Nat) : Int)]) ws m = tailW base E y (words.take k) ws m by first | exact tail_miss Hv.out (fun h => by omega) | (rw [← Hai.out]; exact tail_seen (Hseen2.out _ _ Hat.out c3))]
              exact hF8
          · have hF1 : base ≤ v ∧ ¬ v < E := by first | omega | exact ⟨by omega, by omega⟩ | exact ⟨by rw [beq_eq_false_iff_ne]; exact c3, trivial⟩
            have Hseen2 := hseen
            go_wp2_with fail
            refine (take_as A n c j _ v (flat ws) wr wr.heap.size (Reads.of_own Hrow.out) (flat_byte ws) rfl hj9 hnc hc Hword.out).mono ?_
            rintro e w7 ⟨rfl, rfl⟩
            go_wp2_with (first
              | (at_mapUpdate; refine wpList_mapUpdate_own _ rfl _ _ _ 68 rfl 29 3 (int_keyed Try.underlying29) Try.underlying68 _ Mb k _ rfl hmap (by unfold maxLen; omega) _ _ _ rfl rfl (keyOf_int_mk Try.underlying29 hwfa) _ [] (plainElem_int Try.underlying3 (wrap64_wf _)) ?_; intro w8 hmap8 hg8))
            have hF8 := hF.kept hg8 (.inr (by intro e; injection e with e; exact hMMb e))
            have hb8 := hbw.grown hg8 (by have := hbw.size; omega) (fun g e => by cases e; omega)
            refine ⟨⟨k + 1, by omega, by go_num, _, hmap8, ?_, ?_, hb8, Hall'.out⟩, by simp [intOf]; omega⟩
            · rw [Htake.out]; exact Hseen2.out.put
            · rw [Htake.out, Hai.out, show tailW base E y (words.take k ++ [base + 8 * ((m + i : Nat) : Int)]) ws m = tailW base E y (words.take k) ws m by first | exact tail_miss Hv.out (fun h => by omega) | (rw [← Hai.out]; exact tail_seen (Hseen2.out _ _ Hat.out c3))]
              exact hF8
          · have hF1 : (cc == 0) = false ∧ True := by first | omega | exact ⟨by omega, by omega⟩ | exact ⟨by rw [beq_eq_false_iff_ne]; exact c3, trivial⟩
            have Hseen2 := hseen
            go_wp2_with fail
            refine (take_as A n c j _ v (flat ws) wr wr.heap.size (Reads.of_own Hrow.out) (flat_byte ws) rfl hj9 hnc hc Hword.out).mono ?_
            rintro e w7 ⟨rfl, rfl⟩
            go_wp2_with (first
              | (at_mapUpdate; refine wpList_mapUpdate_own _ rfl _ _ _ 68 rfl 29 3 (int_keyed Try.underlying29) Try.underlying68 _ Mb k _ rfl hmap (by unfold maxLen; omega) _ _ _ rfl rfl (keyOf_int_mk Try.underlying29 hwfa) _ [] (plainElem_int Try.underlying3 (wrap64_wf _)) ?_; intro w8 hmap8 hg8))
            have hF8 := hF.kept hg8 (.inr (by intro e; injection e with e; exact hMMb e))
            have hb8 := hbw.grown hg8 (by have := hbw.size; omega) (fun g e => by cases e; omega)
            refine ⟨⟨k + 1, by omega, by go_num, _, hmap8, ?_, ?_, hb8, Hall'.out⟩, by simp [intOf]; omega⟩
            · rw [Htake.out]; exact Hseen2.out.put
            · rw [Htake.out, Hai.out, show tailW base E y (words.take k ++ [base + 8 * ((m + i : Nat) : Int)]) ws m = tailW base E y (words.take k) ws m by first | exact tail_miss Hv.out (fun h => by omega) | (rw [← Hai.out]; exact tail_seen (Hseen2.out _ _ Hat.out c3))]
              exact hF8
          · have hF1 : (cc == 0) = true := by rw [beq_iff_eq]; exact c3
            obtain ⟨vy, hvy⟩ : ∃ vy, IntKind.u64.wrap (v + y) = vy := ⟨_, rfl⟩
            have hvyu : U64 vy := by rw [← hvy]; unfold U64; rw [IntKind.wrap_u64]; omega
            obtain ⟨a1, ha1'⟩ : ∃ a1, IntKind.u64.wrap (a + y) = a1 := ⟨_, rfl⟩
            obtain ⟨off, hoff⟩ : ∃ off, off = Z + 8 * i := ⟨_, rfl⟩
            have hoN : off + 8 ≤ N := by have := HNz.out; omega
            have hoff2 : IntKind.u64.wrap (a1 - base') = (off : Int) := by
              have h1 := HyE.out
              have h2 : a = E - 8 * U + 8 * i := by have := Hai.out; have := HE.out; have := HmU.out; omega
              have h3 := HNz.out
              rw [← ha1']
              simp only [IntKind.wrap_u64]
              omega
            have hwo : IntKind.i64.wrap (off : Int) = off := by rw [IntKind.wrap_i64]; omega
            have hwo2 : IntKind.u64.wrap (off : Int) = off := by rw [IntKind.wrap_u64]; omega
            have ho1 : (off : Int) ≤ N := by omega
            have ho2 : ¬ N = off := by omega
            have Hoff := Lib.hid hoff
            have Hvyu := Lib.hid hvyu
            clear hvyu hoff
            go_wp2_with fail
            refine (take_as A n c j _ v (flat ws) wr wr.heap.size (Reads.of_own Hrow.out) (flat_byte ws) rfl hj9 hnc hc Hword.out).mono ?_
            rintro e w7 ⟨rfl, rfl⟩
            go_upto_region 20 with fail
            refine wp_region_late (S := fun _ => True) #[false, false, false, false, false, false, false, false, false, false, false, true] (by kernel_rfl) trivial (fun hHeld => ?_)
            refine wpAnyL_take (i := 0) (v := ?_) rfl (by kernel_rfl) (by kernel_rfl) (by kernel_rfl) (by kernel_rfl) (fun _ _ _ h => h) (Or.inl ⟨by rfl, ?_⟩) (by assumption) ?_
            rotate_left
            · intro w hSw; (try dsimp only at hSw); go_simp; try with_reducible rfl
            simp only [Act.put, List.getElem_toArray, List.getElem_cons_zero, List.getElem_cons_succ, List.setIfInBounds_toArray, List.set_cons_zero, List.set_cons_succ]
            refine wpAnyL_take (i := 1) (v := ?_) rfl (by kernel_rfl) (by kernel_rfl) (by kernel_rfl) (by kernel_rfl) (fun _ _ _ h => h) (Or.inl ⟨by rfl, ?_⟩) (by assumption) ?_
            rotate_left
            · intro w hSw; (try dsimp only at hSw); go_simp; try with_reducible rfl
            simp only [Act.put, List.getElem_toArray, List.getElem_cons_zero, List.getElem_cons_succ, List.setIfInBounds_toArray, List.set_cons_zero, List.set_cons_succ]
            refine wpAnyL_take (i := 2) (v := ?_) rfl (by kernel_rfl) (by kernel_rfl) (by kernel_rfl) (by kernel_rfl) (fun _ _ _ h => h) (Or.inl ⟨by rfl, ?_⟩) (by assumption) ?_
            rotate_left
            · intro w hSw; (try dsimp only at hSw); go_simp; try with_reducible rfl
            simp only [Act.put, List.getElem_toArray, List.getElem_cons_zero, List.getElem_cons_succ, List.setIfInBounds_toArray, List.set_cons_zero, List.set_cons_succ]
            refine wpAnyL_take (i := 3) (v := ?_) rfl (by kernel_rfl) (by kernel_rfl) (by kernel_rfl) (by kernel_rfl) (fun _ _ _ h => h) (Or.inl ⟨by rfl, ?_⟩) (by assumption) ?_
            rotate_left
            · intro w hSw; (try dsimp only at hSw); go_simp; try with_reducible rfl
            simp only [Act.put, List.getElem_toArray, List.getElem_cons_zero, List.getElem_cons_succ, List.setIfInBounds_toArray, List.set_cons_zero, List.set_cons_succ]
            refine wpAnyL_take (i := 4) (v := ?_) rfl (by kernel_rfl) (by kernel_rfl) (by kernel_rfl) (by kernel_rfl) (fun _ _ _ h => h) (Or.inl ⟨by rfl, ?_⟩) (by assumption) ?_
            rotate_left
            · intro w hSw; (try dsimp only at hSw); go_simp; try with_reducible rfl
            simp only [Act.put, List.getElem_toArray, List.getElem_cons_zero, List.getElem_cons_succ, List.setIfInBounds_toArray, List.set_cons_zero, List.set_cons_succ]
            refine wpAnyL_take (i := 5) (v := ?_) rfl (by kernel_rfl) (by kernel_rfl) (by kernel_rfl) (by kernel_rfl) (fun _ _ _ h => h) (Or.inl ⟨by rfl, ?_⟩) (by assumption) ?_
            rotate_left
            · intro w hSw; (try dsimp only at hSw); go_simp; try with_reducible rfl
            simp only [Act.put, List.getElem_toArray, List.getElem_cons_zero, List.getElem_cons_succ, List.setIfInBounds_toArray, List.set_cons_zero, List.set_cons_succ]
            refine wpAnyL_take (i := 6) (v := ?_) rfl (by kernel_rfl) (by kernel_rfl) (by kernel_rfl) (by kernel_rfl) (fun _ _ _ h => h) (Or.inl ⟨by rfl, ?_⟩) (by assumption) ?_
            rotate_left
            · intro w hSw; (try dsimp only at hSw); go_simp; try with_reducible rfl
            simp only [Act.put, List.getElem_toArray, List.getElem_cons_zero, List.getElem_cons_succ, List.setIfInBounds_toArray, List.set_cons_zero, List.set_cons_succ]
            refine wpAnyL_take (i := 7) (v := ?_) rfl (by kernel_rfl) (by kernel_rfl) (by kernel_rfl) (by kernel_rfl) (fun _ _ _ h => h) (Or.inl ⟨by rfl, ?_⟩) (by assumption) ?_
            rotate_left
            · intro w hSw; (try dsimp only at hSw); go_simp; try with_reducible rfl
            simp only [Act.put, List.getElem_toArray, List.getElem_cons_zero, List.getElem_cons_succ, List.setIfInBounds_toArray, List.set_cons_zero, List.set_cons_succ]
            refine wpAnyL_take (i := 8) (v := ?_) rfl (by kernel_rfl) (by kernel_rfl) (by kernel_rfl) (by kernel_rfl) (fun _ _ _ h => h) (Or.inl ⟨by rfl, ?_⟩) (by assumption) ?_
            rotate_left
            · intro w hSw; (try dsimp only at hSw); go_simp; try with_reducible rfl
            simp only [Act.put, List.getElem_toArray, List.getElem_cons_zero, List.getElem_cons_succ, List.setIfInBounds_toArray, List.set_cons_zero, List.set_cons_succ]
            refine wpAnyL_take (i := 9) (v := ?_) rfl (by kernel_rfl) (by kernel_rfl) (by kernel_rfl) (by kernel_rfl) (fun _ _ _ h => h) (Or.inl ⟨by rfl, ?_⟩) (by assumption) ?_
            rotate_left
            · intro w hSw; (try dsimp only at hSw); go_simp; try with_reducible rfl
            simp only [Act.put, List.getElem_toArray, List.getElem_cons_zero, List.getElem_cons_succ, List.setIfInBounds_toArray, List.set_cons_zero, List.set_cons_succ]
            refine wpAnyL_ready (rs := [10]) (by kernel_rfl) (by simp) ?_
            refine AllReadyL.cons rfl (fun K hK => ?_) AllReadyL.nil
            go_simp
            refine (put_any none 0 0 [] vy wr.drew 0 Reads.none_ (by intro u hu; cases hu) (by omega) (Nat.zero_le _) Hvyu.out).mono ?_
            rintro e w7 ⟨pv, rfl, hown7, hb7⟩
            have hb7' : Below wr.heap.size wr w7 := ⟨hb7.os, hb7.tape, hb7.output, hb7.size, hb7.block⟩
            obtain ⟨A7, c7, rfl, _, _, hr7⟩ := own_any hown7
            obtain ⟨ad7, hA7, _, hcell7⟩ := hr7.2 (by omega)
            subst hA7
            have hF7 := own_kept' hF (only_of_below hb7' none) nofun
            have hmap7 := hmap.kept (only_of_below hb7' none) nofun
            have hbw7 := hbw.trans (hb7'.mono (by have := hbw.size; omega))
            have hs7 := hb7'.size
            refine hK.out _ _ trivial (fun hHeld2 => ?_)
            have HF7 := Lib.hid hF7
            have Hmap7 := Lib.hid hmap7
            have Hbw7 := Lib.hid hbw7
            clear hbw7 hmap7 hF7
            clear hK K hHeld hown7 hr7 hb7
            try simp only [Act.put, List.getElem_toArray, List.getElem_cons_zero, List.getElem_cons_succ, List.setIfInBounds_toArray, List.set_cons_zero, List.set_cons_succ]
            refine wpAnyL_ready (rs := [11]) (by kernel_rfl) (by simp) ?_
            refine AllReadyL.last rfl (by kernel_rfl) (fun K hK => ?_) AllReadyL.nil
            refine step_copy_into rfl (.tmp 138) (.tmp 142) _ _ rfl 5 Try.underlying33 (by kernel_rfl) HF7.out ad7 rfl rfl (news := byteVals (bytesLE 8 vy)) (by simp [byteVals, bytesLE_length]) hcell7 (byteVals_one _) hoN (by omega) ?_
            intro w8 hown8 hg8
            refine hK.out _ _ ?_
            clear hK K hHeld2 hcell7
            refine wpAnyL_done (by kernel_rfl) ?_ _
            rw [Hoff.out, splice_word Z i _ vy (by rw [tail_length]; have := HmU.out; omega)] at hown8
            have hmap8 := Hmap7.out.kept hg8 (by intro e; injection e with e; exact hMMb e.symm)
            have hbw8 := Hbw7.out.grown hg8 (by have := hbw.size; omega) (fun g e => by cases e; exact Nat.le_refl _)
            obtain ⟨c8, hrun8, _, hwc8⟩ := hmap8.lookup_int (int_keyed Try.underlying29) Try.underlying68 Try.underlying3 (zeroI w8) (key := .int .u64 a) (keyOf_int_mk Try.underlying29 hwfa)
            have Hown8 := Lib.hid hown8
            have Hbw8 := Lib.hid hbw8
            clear hbw8 hown8
            clear hg8 hb7'
            go_wp2_with (first
              | (at_mapUpdate; refine wpList_mapUpdate_own _ rfl _ _ _ 68 rfl 29 3 (int_keyed Try.underlying29) Try.underlying68 _ Mb k _ rfl hmap8 (by unfold maxLen; omega) _ _ _ rfl rfl (keyOf_int_mk Try.underlying29 hwfa) _ [] (plainElem_int Try.underlying3 (wrap64_wf _)) ?_; intro w9 hmap9 hg9))
            have hF9 := Hown8.out.kept hg9 (.inr (by intro e; injection e with e; exact hMMb e))
            have hb9 := Hbw8.out.grown hg9 (by have := Hbw8.out.size; omega) (fun g e => by cases e; omega)
            refine ⟨⟨k + 1, by omega, by go_num, _, hmap9, ?_, ?_, hb9, Hall'.out⟩, by simp [intOf]; omega⟩
            · rw [Htake.out]; exact hseen.out.put
            · rw [Htake.out, Hai.out, tail_hit Hv.out c1 c2, hvy]
              exact hF9
        · have hcase : r8 ≠ 0 ∨ r8 = 0 ∧ a < s ∨ r8 = 0 ∧ ¬ a < s ∧ E ≤ a := by
            unfold okA at hok
            omega
          have hno : ¬ MoveAll s E words rs base' N := fun h => hok (h.1 a (List.mem_of_getElem? hak))
          have Hno := Lib.hid hno
          have Hak := Lib.hid hak
          have Htake := Lib.hid htake
          have Hr8' := Lib.hid hr8'
          have Hok := Lib.hid hok
          have Hbww := Lib.hid hbww
          have Hbw := Lib.hid hbw
          have Hbwq := Lib.hid hbwq
          clear hbwq hbw hbww hok hr8' htake hak hno
          clear hu0
          rcases hcase with c1 | ⟨c1, c2⟩ | ⟨c1, c2, c3⟩
          · have hD : (r8 != 0) = true ∧ True := by simp only [bne_iff_ne, bne_eq_false_iff_eq, ne_eq, and_true]; omega
            go_wp2_with fail
            go_ret
            exact .inr ⟨Hno.out, rfl, Hbww.out⟩
          · have hD : (r8 != 0) = false ∧ a < s := by simp only [bne_iff_ne, bne_eq_false_iff_eq, ne_eq, and_true]; omega
            go_wp2_with fail
            go_ret
            exact .inr ⟨Hno.out, rfl, Hbww.out⟩
          · have hD : (r8 != 0) = false ∧ ¬ a < s ∧ E ≤ a := by simp only [bne_iff_ne, bne_eq_false_iff_eq, ne_eq, and_true]; omega
            go_wp2_with fail
            go_ret
            exact .inr ⟨Hno.out, rfl, Hbww.out⟩
      · obtain rfl : k = wn := by omega
        rw [List.take_of_length_le (by have := Hwl.out; omega)] at hF hall
        have hs6 := hbww.size
        have HF := Lib.hid hF
        have Hall := Lib.hid hall
        have Hbw := Lib.hid hbw
        have Hbwq := Lib.hid hbwq
        have Hbww := Lib.hid hbww
        clear hbww hbwq hbw hall hF
        clear hmap hseen
        obtain ⟨W6, hW6⟩ : ∃ W6, W6 = wr := ⟨_, rfl⟩
        subst hW6
        go_wp2_with fail
        go_loopw [151] (fun i wq => ∃ k2 : Nat, k2 ≤ rn ∧ i = .int .i64 k2 ∧ wq = W6 ∧ Hid (∀ r ∈ rs.take k2, 0 ≤ r ∧ r < 14)) (fun i _ => rn - (intOf i).toNat)
        case atStart => exact ⟨0, by omega, rfl, rfl, by intro x hx; simp at hx⟩
        case round =>
          obtain ⟨k2, hk2, rfl, hwr, hall2⟩ := hrel
          subst hwr
          by_cases hlt2 : k2 < rn
          · obtain ⟨ad, u0, hRA, _, hu0, hce⟩ := (HR.out.below (Hbww.out.mono hB)).at_ hlt2
            subst hRA
            obtain ⟨x, hxk, rfl⟩ : ∃ x, rs[k2]? = some x ∧ u0 = .int .i64 x := by
              rw [List.getElem?_map, Option.map_eq_some_iff] at hu0
              obtain ⟨x, h1, h2⟩ := hu0
              exact ⟨x, h1, h2.symm⟩
            by_cases hx : 0 ≤ x ∧ x < 14
            · obtain ⟨hx0, hx1⟩ := hx
              have hall3 : ∀ r ∈ rs.take (k2 + 1), 0 ≤ r ∧ r < 14 := by
                rw [List.take_add_one, hxk]
                intro b hb
                rcases List.mem_append.1 hb with h | h
                · exact hall2.out b h
                · simp at h; omega
              have Hall3 := Lib.hid hall3
              have Hxk := Lib.hid hxk
              clear hxk hall3
              clear hu0
              go_wp2_with fail
              exact ⟨⟨k2 + 1, by omega, by go_num, by first | rfl | trivial, Hall3.out⟩, by simp [intOf]; omega⟩
            · have hno : ¬ MoveAll s E words rs base' N := fun h => hx (h.2.1 x (List.mem_of_getElem? hxk))
              have hcase : x < 0 ∨ ¬ x < 0 ∧ 14 ≤ x := by omega
              have Hno := Lib.hid hno
              have Hxk := Lib.hid hxk
              clear hxk hno
              clear hu0 hx
              rcases hcase with c1 | ⟨c1, c2⟩
              all_goals
                go_wp2_with fail
                go_ret
                exact .inr ⟨Hno.out, rfl, Hbww.out⟩
          · obtain rfl : k2 = rn := by omega
            rw [List.take_of_length_le (by have := Hrl.out; omega)] at hall2
            by_cases hmay : MayP base' N
            · have hall9 : MoveAll s E words rs base' N := ⟨Hall.out, hall2.out, hmay⟩
              have hz8 : Z = 8 * ((N - 8 * U) / 8) := by have := hmay.2.2.2.2.2; have := HNz.out; omega
              obtain ⟨WS, hWS⟩ : ∃ WS, WS = movedW base E y words ws m ((N - 8 * U) / 8) := ⟨_, rfl⟩
              have hflat : flat WS = List.replicate Z 0 ++ flat (tailW base E y words ws m) := by rw [hWS, movedW, flat_append, flat_zeros, ← hz8]
              have hWl : N = 8 * WS.length := by
                have h1 := flat_length WS
                rw [hflat, List.length_append, List.length_replicate, flat_length, tail_length] at h1
                have := HmU.out; have := HNz.out; omega
              have hWu : ∀ x ∈ WS, U64 x := by
                rw [hWS, movedW]
                intro x hx
                rcases List.mem_append.1 hx with h1 | h1
                · rw [List.eq_of_mem_replicate h1]; unfold U64; omega
                · exact tail_u64 Hwok.out x h1
              have h6 := H2'.out.below Hbwq.out
              have hF6 := HF.out
              rw [← hflat] at hF6
              have Hall9 := Lib.hid hall9
              have Hflat := Lib.hid hflat
              have HWl := Lib.hid hWl
              have HWu := Lib.hid hWu
              have H6 := Lib.hid h6
              have HF6 := Lib.hid hF6
              have Hmay := Lib.hid hmay
              have Hz8 := Lib.hid hz8
              have HWS := Lib.hid hWS
              clear hWS hz8 hmay hF6 h6 hWu hWl hflat hall9
              go_wp2_with fail
              refine (restack_in H6.out _ N N WS _ (Reads.of_own HF6.out) HWl.out (Nat.le_refl _) (by intro e; cases e) HWu.out base' Hmay.out).mono ?_
              rintro e w7 ⟨rfl, sv', h7, hk7, hge7⟩
              have hk7' : Keeps (fun i => i = p) w w7 := (Keeps.of_below Hbww.out (Nat.le_refl _)).trans hk7 (fun i hi => .inl hi)
              have hsv : ∀ k, sv'.ownBlock = some k → w.heap.size ≤ k := fun k e => by have := hge7 k e; omega
              obtain ⟨sy, hsy⟩ : ∃ sy, IntKind.u64.wrap (s + y) = sy := ⟨_, rfl⟩
              have hsyu : U64 sy := by rw [← hsy]; unfold U64; rw [IntKind.wrap_u64]; omega
              have H7 := Lib.hid h7
              have Hk7' := Lib.hid hk7'
              have Hsv := Lib.hid hsv
              have Hsyu := Lib.hid hsyu
              clear hsyu hsv hk7' h7
              clear hk7 hge7
              go_wp2_with fail
              refine (set_in H7.out 14 sy (by omega) Hsyu.out _ rfl).mono ?_
              rintro e w8 ⟨rfl, h8, hk8⟩
              rw [← hsy, ← regs_nil (base := base) (E := E) Hrlen.out] at h8
              have hk8' : Keeps (fun i => i = p) w w8 := Hk7'.out.trans hk8 (fun i hi => .inl hi)
              obtain ⟨M3, hM3⟩ : ∃ M3, M3 = w8.heap.size := ⟨_, rfl⟩
              have hb9 : Blk (w8.alloc (.cells (boolCells []) 71)) M3 71 (boolCells []) := by rw [hM3]; exact Blk.new _ _ _
              have h9 := h8.below ((Below.refl w8.heap.size w8).alloc (Nat.le_refl _) (.cells (boolCells []) 71))
              have hk9 := hk8'.alloc (.cells (boolCells []) 71)
              have hM3p : M3 ≠ p := by have := h8.lt; omega
              have hM3w : w.heap.size ≤ M3 := by have := hk8'.size; omega
              have hall2' := hall2
              have Hb9 := Lib.hid hb9
              have H9 := Lib.hid h9
              have Hk9 := Lib.hid hk9
              have HM3 := Lib.hid hM3
              have Hsy := Lib.hid hsy
              clear hsy hM3 hk9 h9 hb9
              clear h8 hk8 hk8' hall2
              go_wp2_with fail
              rw [← HM3.out]
              have e0 : boolCells [] = #[.bool false, .bool false, .bool false, .bool false, .bool false, .bool false, .bool false, .bool false, .bool false, .bool false, .bool false, .bool false, .bool false, .bool false, .bool false, .bool false] := by rfl
              rw [e0] at H9 Hk9 Hb9
              go_loopw [174] (fun i wq => ∃ k3 : Nat, k3 ≤ k2 ∧ i = .int .i64 k3 ∧ ChipAt wq lo p cv sv' (regsW base E y (rs.take k3) regs s) pc base' WS ∧ Blk wq M3 71 (boolCells (rs.take k3)) ∧ Keeps (fun i => i = p) w wq) (fun i _ => k2 - (intOf i).toNat)
              case atStart => exact ⟨0, by omega, rfl, H9.out, by rw [List.take_zero, e0]; exact Hb9.out, Hk9.out⟩
              case round =>
                obtain ⟨k3, hk3, rfl, hC, hBb, hK3⟩ := hrel
                clear e0
                by_cases hlt3 : k3 < k2
                · obtain ⟨ad, u0, hRA, _, hu0, hce⟩ := (hK3.reads HR.out hB (fun ad e => HRp.out ad e (by omega))).at_ hlt3
                  subst hRA
                  obtain ⟨x, hxk, rfl⟩ : ∃ x, rs[k3]? = some x ∧ u0 = .int .i64 x := by
                    rw [List.getElem?_map, Option.map_eq_some_iff] at hu0
                    obtain ⟨x, h1, h2⟩ := hu0
                    exact ⟨x, h1, h2.symm⟩
                  obtain ⟨hx0, hx1⟩ := hall2'.out x (List.mem_of_getElem? hxk)
                  obtain ⟨r, rfl⟩ := Int.eq_ofNat_of_zero_le hx0
                  have hr14 : r < 14 := by omega
                  have htake : rs.take (k3 + 1) = rs.take k3 ++ [(r : Int)] := by rw [List.take_add_one, hxk]; rfl
                  obtain ⟨vr, hvr⟩ : ∃ vr, vr = regW base E y (rs.take k3) regs s r := ⟨_, rfl⟩
                  have hget : (regsW base E y (rs.take k3) regs s)[r]? = some vr := by rw [regs_get, if_pos (by omega), hvr]
                  obtain ⟨bm, hbm⟩ : ∃ bm, bm = decide ((r : Int) ∈ rs.take k3) := ⟨_, rfl⟩
                  have kb : wr.cell? ⟨M3, r, none⟩ = some (.bool bm) := by rw [hBb.cell r, bool_get _ _ (by omega), hbm]
                  have fb := hBb.frozen r
                  have hvu := hC.u64 vr (List.mem_of_getElem? hget)
                  unfold U64 at hvu
                  obtain ⟨hv0, hv1⟩ := hvu
                  have hbstep := hBb.set_ r (.bool true)
                  rw [bool_step _ _ (by omega), ← htake] at hbstep
                  have hsvM : sv'.ownBlock ≠ some M3 := own_blk_ne hC.row hBb (by decide)
                  have hfin : ∀ W, ChipAt W lo p cv sv' (regsW base E y (rs.take (k3 + 1)) regs s) pc base' WS → Blk W M3 71 (boolCells (rs.take k3)) → Keeps (fun i => i = p) w W →
                      ChipAt (W.setCell ⟨M3, r, none⟩ (.bool true)) lo p cv sv' (regsW base E y (rs.take (k3 + 1)) regs s) pc base' WS ∧ Blk (W.setCell ⟨M3, r, none⟩ (.bool true)) M3 71 (boolCells (rs.take (k3 + 1))) ∧ Keeps (fun i => i = p) w (W.setCell ⟨M3, r, none⟩ (.bool true)) := fun W g1 g2 g3 => by
                    refine ⟨g1.keep (S := fun i => i = M3) (Keeps.setCell (S := fun i => i = M3) (Keeps.refl _ W) (p := ⟨M3, r, none⟩) (.inl rfl) _) (fun e => hM3p e.symm) (fun k e1 e2 => hsvM (by rw [← e2]; exact e1)), ?_, g3.setCell (p := ⟨M3, r, none⟩) (.inr hM3w) _⟩
                    have := g2.set_ r (.bool true)
                    rwa [bool_step _ _ (by omega), ← htake] at this
                  have hgd : bm = false → vr = regs.getD r 0 := fun h => by
                    rw [hvr, regW, if_neg (by omega), if_neg]
                    intro hh
                    rw [hbm] at h
                    simp only [decide_eq_false_iff_not] at h
                    exact h hh.1
                  have hsame : bm = true ∨ ¬ (base ≤ vr ∧ vr < E) → regsW base E y (rs.take (k3 + 1)) regs s = regsW base E y (rs.take k3) regs s := fun h => by
                    rw [htake]
                    by_cases hb : bm = true
                    · rw [hbm, decide_eq_true_eq] at hb
                      exact regs_seen hb
                    · have hbf : bm = false := by simpa using hb
                      have := hgd hbf
                      rw [this] at h
                      exact regs_miss (h.resolve_left hb)
                  have hsz9 := hC.lt
                  have HC := Lib.hid hC
                  have HBb := Lib.hid hBb
                  have HK3 := Lib.hid hK3
                  have Hxk := Lib.hid hxk
                  have Htake := Lib.hid htake
                  have Hvr := Lib.hid hvr
                  have Hget := Lib.hid hget
                  have Hbm := Lib.hid hbm
                  have Hbstep := Lib.hid hbstep
                  have Hfin := Lib.hid hfin
                  have Hgd := Lib.hid hgd
                  have Hsame := Lib.hid hsame
                  clear hsame hgd hfin hbstep hbm hget hvr htake hxk hK3 hBb hC
                  clear hu0
                  rcases (show vr < base ∨ base ≤ vr ∧ E ≤ vr ∨ base ≤ vr ∧ vr < E ∧ bm = true ∨ base ≤ vr ∧ vr < E ∧ bm = false by cases bm <;> simp <;> omega) with c1 | ⟨c1, c2⟩ | ⟨c1, c2, c3⟩ | ⟨c1, c2, c3⟩
                  · have hF1 : ¬ base ≤ vr := by first | omega | trivial
                    have hch := HC.out
                    rw [← Hsame.out (.inr (fun h => by omega))] at hch
                    have hf := Hfin.out _ hch HBb.out HK3.out
                    have Hf := Lib.hid hf
                    clear hf
                    clear hch
                    try subst c3
                    go_wp2_with fail
                    refine (reg_in HC.out r vr Hget.out _ rfl).mono ?_
                    rintro e w10 ⟨rfl, rfl⟩
                    go_wp2_with fail
                    exact ⟨⟨k3 + 1, by omega, by go_num, Hf.out⟩, by simp [intOf]; omega⟩
                  · have hF1 : ¬ vr < E := by first | omega | trivial
                    have hch := HC.out
                    rw [← Hsame.out (.inr (fun h => by omega))] at hch
                    have hf := Hfin.out _ hch HBb.out HK3.out
                    have Hf := Lib.hid hf
                    clear hf
                    clear hch
                    try subst c3
                    go_wp2_with fail
                    refine (reg_in HC.out r vr Hget.out _ rfl).mono ?_
                    rintro e w10 ⟨rfl, rfl⟩
                    go_wp2_with fail
                    exact ⟨⟨k3 + 1, by omega, by go_num, Hf.out⟩, by simp [intOf]; omega⟩
                  · have hF1 : True := by first | omega | trivial
                    have hch := HC.out
                    rw [← Hsame.out (.inl c3)] at hch
                    have hf := Hfin.out _ hch HBb.out HK3.out
                    have Hf := Lib.hid hf
                    clear hf
                    clear hch
                    try subst c3
                    go_wp2_with fail
                    refine (reg_in HC.out r vr Hget.out _ rfl).mono ?_
                    rintro e w10 ⟨rfl, rfl⟩
                    go_wp2_with fail
                    exact ⟨⟨k3 + 1, by omega, by go_num, Hf.out⟩, by simp [intOf]; omega⟩
                  · obtain ⟨vy, hvy⟩ : ∃ vy, IntKind.u64.wrap (vr + y) = vy := ⟨_, rfl⟩
                    have hvyu : U64 vy := by rw [← hvy]; unfold U64; rw [IntKind.wrap_u64]; omega
                    have hvg := Hgd.out c3
                    have Hvyu := Lib.hid hvyu
                    have Hvg := Lib.hid hvg
                    clear hvg hvyu
                    subst c3
                    go_wp2_with fail
                    refine (reg_in HC.out r vr Hget.out _ rfl).mono ?_
                    rintro e w10 ⟨rfl, rfl⟩
                    go_wp2_with fail
                    refine (set_in HC.out r vy (by omega) Hvyu.out _ rfl).mono ?_
                    rintro e w11 ⟨rfl, h11, hk11⟩
                    rw [← hvy, Hvg.out, ← regs_hit (by omega) (by rw [← Hvg.out]; exact c1) (by rw [← Hvg.out]; exact c2), ← Htake.out] at h11
                    have hB11 := hk11.blk HBb.out (fun e => hM3p e)
                    have hK11 := HK3.out.trans hk11 (fun i hi => .inl hi)
                    have kb11 := hB11.cell r
                    rw [bool_get _ _ (by omega)] at kb11
                    have fb11 := hB11.frozen r
                    have hf := Hfin.out _ h11 hB11 hK11
                    have Hf := Lib.hid hf
                    clear hf
                    clear h11 hk11 hB11 hK11
                    go_wp2_with fail
                    exact ⟨⟨k3 + 1, by omega, by go_num, Hf.out⟩, by simp [intOf]; omega⟩
                · obtain rfl : k3 = k2 := by omega
                  rw [List.take_of_length_le (by have := Hrl.out; omega)] at hC
                  rw [HWS.out] at hC
                  have HC := Lib.hid hC
                  have HK3 := Lib.hid hK3
                  clear hK3 hC
                  clear hBb
                  go_wp2_with fail
                  go_ret
                  exact .inl ⟨Hall9.out, rfl, sv', HC.out, HK3.out, Hsv.out⟩
            · have hno : ¬ MoveAll s E words rs base' N := fun h => hmay h.2.2
              have Hno := Lib.hid hno
              have Hmay := Lib.hid hmay
              clear hmay hno
              go_wp2_with fail
              refine (restack_out _ p base' _ N N hb0 Hmay.out (by unfold maxLen; omega)).mono ?_
              rintro e w7 ⟨rfl, rfl⟩
              go_wp2_with fail
              go_ret
              exact .inr ⟨Hno.out, rfl, Hbww.out⟩
end Go.Proofs.Ytndmhnmclogpcaa

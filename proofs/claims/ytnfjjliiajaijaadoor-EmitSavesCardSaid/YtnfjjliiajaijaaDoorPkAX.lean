/- What the emitter's code is, all along: instructions, calls where sites are, jumps. Conditions: graphs are right. Walk of Emit. Conditions: the graphs lie in memory, rows within the reach, the table of the bits too. -/
import Derived.Test.YtnfjjliiajaijaaDoorPkAW
import Derived.Test.YtnfjjliiajaijaaDoorPkAA
import Derived.Laws.ResultCell
set_option linter.unusedVariables false
set_option linter.unusedSimpArgs false
set_option maxRecDepth 100000
set_option maxHeartbeats 10000000
namespace Go.Proofs.YtnfjjliiajaijaaDoor
open Go.RowKit
def isCall (code : List MInstD) (k : Nat) : Bool := match code[k]? with | none => false | some m => decide (m.op = 9)
def callsPos (code : List MInstD) : List Nat := (List.range code.length).filter (isCall code)
structure CodeInv (F : Nat) (code : List MInstD) (cl jp : Nat → Option Nat) (st : List (Nat × List Int)) : Prop where
 good : ∀ (k : Nat) m, code[k]? = some m → m.Wf ∧ goodP m = true
 calls : ∀ i f, cl i = some f → f < F ∧ code[i]? = some ⟨9, 0, 0, 0, 0⟩
 call : ∀ (k : Nat) m, code[k]? = some m → m.op = 9 → ∃ f, cl k = some f
 jumps : ∀ i l, jp i = some l → ∃ m, code[i]? = some m ∧ (m.op = 7 ∨ m.op = 8)
 sites : st.map (·.1) = (callsPos code).map (· + 1)
theorem isCall_snoc (code : List MInstD) (m : MInstD) {k : Nat} (hk : k < code.length) : isCall (code ++ [m]) k = isCall code k := by
 unfold isCall
 rw [List.getElem?_append_left hk]
theorem isCall_last (code : List MInstD) (m : MInstD) : isCall (code ++ [m]) code.length = decide (m.op = 9) := by
 unfold isCall
 simp
theorem callsPos_snoc (code : List MInstD) (m : MInstD) : callsPos (code ++ [m]) = callsPos code ++ if m.op = 9 then [code.length] else [] := by
 unfold callsPos
 rw [List.length_append, List.length_singleton, List.range_succ, List.filter_append]
 congr 1
 ·refine List.filter_congr fun k hk => ?_
  exact isCall_snoc code m (List.mem_range.1 hk)
 ·rw [List.filter_cons, isCall_last]
  by_cases h : m.op = 9 <;> simp [h]
theorem snoc_get {α : Type} {l : List α} {x y : α} {k : Nat} (h : (l ++ [x])[k]? = some y) : l[k]? = some y ∨ (k = l.length ∧ y = x) := by
 by_cases hk : k < l.length
 ·rw [List.getElem?_append_left hk] at h; exact .inl h
 ·have hl := (List.getElem?_eq_some_iff.1 h).1
  rw [List.length_append, List.length_singleton] at hl
  obtain rfl : k = l.length := by omega
  simp at h
  exact .inr ⟨rfl, h.symm⟩
theorem get_snoc {α : Type} {l : List α} {x y : α} {k : Nat} (h : l[k]? = some y) : (l ++ [x])[k]? = some y := by
 rw [List.getElem?_append_left (List.getElem?_eq_some_iff.1 h).1]; exact h
section
variable {F : Nat} {code : List MInstD} {calls jumps : Nat → Option Nat} {sites : List (Nat × List Int)} {P : List Int → Prop} {E E' : EmS}
theorem CodeInv.put (h : CodeInv F code calls jumps sites) {m : MInstD} (hm : PutOk m) : CodeInv F (code ++ [m]) calls jumps sites := by
 refine ⟨fun k x hx => ?_, fun i f hf => ?_, fun k x hx h9 => ?_, fun i l hl => ?_, ?_⟩
 ·rcases snoc_get hx with h1 | ⟨_, rfl⟩
  ·exact h.good k x h1
  ·exact ⟨hm.wf, hm.good⟩
 ·obtain ⟨a, b⟩ := h.calls i f hf
  exact ⟨a, get_snoc b⟩
 ·rcases snoc_get hx with h1 | ⟨_, rfl⟩
  ·exact h.call k x h1 h9
  ·exact absurd h9 hm.op
 ·obtain ⟨x, a, b⟩ := h.jumps i l hl
  exact ⟨x, get_snoc a, b⟩
 ·rw [callsPos_snoc, if_neg hm.op, List.append_nil]; exact h.sites
theorem good_jump {op a : Nat} (ho : op = 7 ∧ a = 0 ∨ op = 8 ∧ a ≤ 15) (v : Int) (hv : -2147483648 ≤ v ∧ v ≤ 2147483647) : MInstD.Wf ⟨(op : Nat), 0, (a : Nat), 0, v⟩ ∧ goodP ⟨(op : Nat), 0, (a : Nat), 0, v⟩ = true := by
 rcases ho with ⟨rfl, rfl⟩ | ⟨rfl, ha⟩
 ·exact ⟨wf_of (by omega) (by omega) (by omega) (by omega) hv, good_of (cs := [73]) rfl (.inr rfl) (.inr rfl) (.inr rfl) (.inl rfl) (by omega) (by omega) (by omega) rfl⟩
 ·exact ⟨wf_of (by omega) (by omega) (by omega) (by omega) hv, good_of (cs := [65, 73]) rfl (.inr rfl) (.inl rfl) (.inr rfl) (.inl rfl) (by omega) (by omega) (by omega) rfl⟩
theorem CodeInv.jump (h : CodeInv F code calls jumps sites) {op a l : Nat} (ho : op = 7 ∧ a = 0 ∨ op = 8 ∧ a ≤ 15) : CodeInv F (code ++ [⟨(op : Nat), 0, (a : Nat), 0, 0⟩]) calls (upd jumps code.length l) sites := by
 have h9 : ((op : Nat) : Int) ≠ 9 := by omega
 refine ⟨fun k x hx => ?_, fun i f hf => ?_, fun k x hx hq => ?_, fun i u hl => ?_, ?_⟩
 ·rcases snoc_get hx with h1 | ⟨_, rfl⟩
  ·exact h.good k x h1
  ·exact good_jump ho 0 (by omega)
 ·obtain ⟨a, b⟩ := h.calls i f hf
  exact ⟨a, get_snoc b⟩
 ·rcases snoc_get hx with h1 | ⟨_, rfl⟩
  ·exact h.call k x h1 hq
  ·exact absurd hq h9
 ·rcases upd_cases hl with ⟨rfl, _⟩ | hl
  ·exact ⟨⟨(op : Nat), 0, (a : Nat), 0, 0⟩, by simp, by show ((op : Nat) : Int) = 7 ∨ ((op : Nat) : Int) = 8; omega⟩
  ·obtain ⟨x, a, b⟩ := h.jumps i u hl
   exact ⟨x, get_snoc a, b⟩
 ·rw [callsPos_snoc, if_neg h9, List.append_nil]; exact h.sites
theorem good_call (v : Int) (hv : -2147483648 ≤ v ∧ v ≤ 2147483647) : MInstD.Wf ⟨9, 0, 0, 0, v⟩ ∧ goodP ⟨9, 0, 0, 0, v⟩ = true :=
 ⟨wf_of (by omega) (by omega) (by omega) (by omega) hv, good_of (cs := [73]) rfl (.inr rfl) (.inr rfl) (.inr rfl) (.inl rfl) (by omega) (by omega) (by omega) rfl⟩
theorem CodeInv.laid (h : CodeInv F code calls jumps sites) {f : Nat} (hf : f < F) (L : List Int) (hj : jumps code.length = none) : CodeInv F (code ++ [⟨9, 0, 0, 0, 0⟩]) (upd calls code.length f) jumps (sites ++ [(code.length + 1, L)]) := by
 refine ⟨fun k x hx => ?_, fun i u hu => ?_, fun k x hx hq => ?_, fun i u hl => ?_, ?_⟩
 ·rcases snoc_get hx with h1 | ⟨_, rfl⟩
  ·exact h.good k x h1
  ·exact good_call 0 (by omega)
 ·rcases upd_cases hu with ⟨rfl, rfl⟩ | hu
  ·exact ⟨hf, by simp⟩
  ·obtain ⟨a, b⟩ := h.calls i u hu
   exact ⟨a, get_snoc b⟩
 ·rcases snoc_get hx with h1 | ⟨rfl, rfl⟩
  ·have hk := (List.getElem?_eq_some_iff.1 h1).1
   obtain ⟨u, hu⟩ := h.call k x h1 hq
   exact ⟨u, by rw [upd_ne (by omega)]; exact hu⟩
  ·exact ⟨f, upd_at⟩
 ·obtain ⟨x, a, b⟩ := h.jumps i u hl
  exact ⟨x, get_snoc a, b⟩
 ·rw [callsPos_snoc, if_pos rfl, List.map_append, List.map_append, h.sites]; rfl
theorem Steps.inv (h : Steps F P E E') (hE : CodeInv F E.code E.calls E.jumps E.sites) : CodeInv F E'.code E'.calls E'.jumps E'.sites := by
 induction h with
 | refl => exact hE
 | put _ hm ih => exact ih.put hm
 | jump _ ho ih => exact ih.jump ho
 | mark _ _ ih => exact ih
 | zero _ ih => exact ih
 | nul _ ih => exact ih
 | @call E' f L _ hf _ ih =>
  have h1 := ih
  have hj : E'.jumps E'.code.length = none := by
   rcases hq : E'.jumps E'.code.length with _ | l
   ·rfl
   ·obtain ⟨m, a, _⟩ := h1.jumps _ _ hq
    have := (List.getElem?_eq_some_iff.1 a).1
    omega
  have h2 := h1.laid hf L hj
  have e : (((E'.call f).put [⟨9, 0, 0, 0, 0⟩]).site L).sites = E'.sites ++ [(E'.code.length + 1, L)] := by
   unfold EmS.site EmS.put EmS.call; simp
  rw [e]
  exact h2
theorem patch_get' (j l : Nat → Option Nat) (f : Nat → Bool) {k : Nat} {m : MInstD} (h : (patch code j l f)[k]? = some m) : ∃ x, code[k]? = some x ∧ m = patchAt j l f k x := by
 rw [patch_get] at h
 rcases hc : code[k]? with _ | x
 ·rw [hc] at h; cases h
 ·rw [hc] at h
  injection h with h
  exact ⟨x, rfl, h.symm⟩
theorem patchAt_op (j l : Nat → Option Nat) (f : Nat → Bool) (k : Nat) (x : MInstD) : (patchAt j l f k x).op = x.op := by
 unfold patchAt
 split
 ·rfl
 ·split <;> rfl
theorem isCall_patch (j l : Nat → Option Nat) (f : Nat → Bool) (k : Nat) : isCall (patch code j l f) k = isCall code k := by
 unfold isCall
 rw [patch_get]
 rcases code[k]? with _ | x
 ·rfl
 ·show decide ((patchAt j l f k x).op = 9) = decide (x.op = 9)
  rw [patchAt_op]
theorem callsPos_patch (j l : Nat → Option Nat) (f : Nat → Bool) : callsPos (patch code j l f) = callsPos code := by
 unfold callsPos
 rw [patch_len]
 exact List.filter_congr fun k _ => isCall_patch j l f k
theorem good_imm {m : MInstD} (hw : m.Wf) (hg : goodP m = true) (ho : m.op = 7 ∨ m.op = 8 ∨ m.op = 9) {v : Int} (hv : -2147483648 ≤ v ∧ v ≤ 2147483647) : MInstD.Wf { m with imm := v } ∧ goodP { m with imm := v } = true := by
 refine ⟨⟨hw.op, hw.d, hw.a, hw.b, hv⟩, ?_⟩
 unfold goodP at hg ⊢
 have hu : ∀ cs, lettersOf m.op = some cs → useK cs 73 = true := by
  intro cs h
  rcases ho with h7 | h7 | h7
  all_goals
   rw [h7] at h
   injection h with h
   subst h
   rfl
 have hsp : ∀ v, specOk m.op v = true := by
  intro v
  unfold specOk
  rw [if_neg (by omega), if_neg (by omega)]
 rcases hl : lettersOf m.op with _ | cs
 ·rw [hl] at hg; cases hg
 ·rw [hl] at hg
  simp only [Bool.and_eq_true] at hg
  dsimp only
  simp only [hl, Bool.and_eq_true]
  refine ⟨⟨⟨⟨hg.1.1.1.1, hg.1.1.1.2⟩, hg.1.1.2⟩, ?_⟩, hsp v⟩
  rw [hu cs hl]
  unfold fieldOk; simp
theorem CodeInv.patched (h : CodeInv F code calls jumps sites) (labels : Nat → Option Nat) : CodeInv F (patch code jumps labels (fun _ => false)) calls (fun _ => none) sites := by
 refine ⟨fun k m hm => ?_, fun i f hf => ?_, fun k m hm h9 => ?_, fun i l hl => (by cases hl), ?_⟩
 ·obtain ⟨x, hx, rfl⟩ := patch_get' _ _ _ hm
  have hg := h.good k x hx
  unfold patchAt
  rcases hj : jumps k with _ | l
  ·exact hg
  ·obtain ⟨y, a, b⟩ := h.jumps k l hj
   rw [hx] at a
   injection a with a
   subst a
   exact good_imm hg.1 hg.2 (by omega) (w32_bd _)
 ·obtain ⟨a, b⟩ := h.calls i f hf
  refine ⟨a, ?_⟩
  rw [patch_get, b]
  show some (patchAt _ _ _ _ _) = _
  unfold patchAt
  rcases hj : jumps i with _ | l
  ·rfl
  ·obtain ⟨y, c, d⟩ := h.jumps i l hj
   rw [b] at c
   injection c with c
   subst c
   exfalso
   revert d
   show ¬ ((9 : Int) = 7 ∨ (9 : Int) = 8)
   omega
 ·obtain ⟨x, hx, rfl⟩ := patch_get' _ _ _ hm
  rw [patchAt_op] at h9
  exact h.call k x hx h9
 ·rw [callsPos_patch]; exact h.sites
end
theorem fn_inv {gs : List GraphD} {g : GraphD} (T : TopS) (ok : FnOk gs g) (h : CodeInv gs.length T.code T.calls (fun _ => none) T.sites) : CodeInv gs.length (T.fn g).code (T.fn g).calls (fun _ => none) (T.fn g).sites :=
 ((endE_steps T (P := fun _ => True) ok (fun _ => trivial)).inv h).patched _
theorem top2_inv (F : Nat) : CodeInv F top2.code top2.calls (fun _ => none) top2.sites := by
 have h0 : CodeInv F [] (fun _ => none) (fun _ => none) [] := ⟨fun k m h => by simp at h, nofun, fun k m h => by simp at h, nofun, rfl⟩
 exact (h0.put (ok_sys (d := 0) (a := 0) (b := 0) (v := 0) (by omega) (by omega) (by omega) (by omega))).put (ok_sys (d := 0) (a := 0) (b := 0) (v := 1) (by omega) (by omega) (by omega) (by omega))
theorem emitN_inv {gs : List GraphD} (l : List GraphD) (ok : ∀ g ∈ l, FnOk gs g) : CodeInv gs.length (emitN l).code (emitN l).calls (fun _ => none) (emitN l).sites := by
 suffices h : ∀ n, n ≤ l.length → CodeInv gs.length (emitN (l.take n)).code (emitN (l.take n)).calls (fun _ => none) (emitN (l.take n)).sites by
  have := h l.length (Nat.le_refl _)
  rwa [List.take_length] at this
 intro n
 induction n with
 | zero => intro _; exact top2_inv _
 | succ n ih =>
  intro hn
  rw [List.take_add_one, List.getElem?_eq_getElem (by omega), Option.toList_some, emitN_snoc]
  exact fn_inv _ (ok l[n] (List.getElem_mem _)) (ih (by omega))
theorem emitN_len {gs : List GraphD} (l : List GraphD) (ok : ∀ g ∈ l, FnOk gs g) : 2 ≤ (emitN l).code.length := by
 suffices h : ∀ n, n ≤ l.length → 2 ≤ (emitN (l.take n)).code.length by
  have := h l.length (Nat.le_refl _)
  rwa [List.take_length] at this
 intro n
 induction n with
 | zero => intro _; exact Nat.le_refl _
 | succ n ih =>
  intro hn
  rw [List.take_add_one, List.getElem?_eq_getElem (by omega), Option.toList_some, emitN_snoc]
  have h1 := ih (by omega)
  have h2 := endE_more (emitN (l.take n)) (ok l[n] (List.getElem_mem _))
  have h3 : ((emitN (l.take n)).fn l[n]).code.length = (endE (emitN (l.take n)) l[n]).code.length := by unfold TopS.fn; simp only [patch_len]
  omega
/-- the code as it is handed back is instructions -/
theorem emitCode_good {gs : List GraphD} (l : List GraphD) (ok : ∀ g ∈ l, FnOk gs g) : ∀ m ∈ emitCode (emitN l), m.Wf ∧ goodP m = true := by
 have hinv := emitN_inv l ok
 intro m hm
 obtain ⟨k, hk, rfl⟩ := List.getElem_of_mem hm
 obtain ⟨x, hx, he⟩ := patch_get' _ _ _ (List.getElem?_eq_getElem hk)
 have hg := hinv.good k x hx
 have e : (emitCode (emitN l))[k] = patchAt (emitN l).calls (fun f => (emitN l).start[f]?) (fun _ => false) k x := he
 rw [e]
 unfold patchAt
 rcases hj : (emitN l).calls k with _ | f
 ·exact hg
 ·obtain ⟨_, b⟩ := hinv.calls k f hj
  rw [hx] at b
  injection b with b
  subst b
  exact good_call _ (w32_bd _)
end Go.Proofs.YtnfjjliiajaijaaDoor
namespace Go.Proofs.YtnfjjliiajaijaaDoor
open Go.RowKit
def imgIts (T : TopS) (fv sv : Value) (lvs : List Value) (ps : List (Value × Value)) : List It :=
 [.row sv 112 2 T.sites.length (siteCells T.sites lvs)] ++ (liveRows T.sites lvs ++ ([.row fv 48 6 T.rows.length (rowsCells T.rows ps)] ++ rowIts T.rows ps))
/-- what Emit answers -/
def EmitPost (gs : List GraphD) (w : World) (e : Ending) (w' : World) : Prop :=
 Below w.heap.size w w' ∧ ((emitErr gs ≠ 0 ∧ e = .returned (.tuple #[.agg #[.slice none 0 0, .slice none 0 0, .slice none 0 0], .int .i64 (emitErr gs)])) ∨
  (emitErr gs = 0 ∧ ∃ (bv fv sv : Value) (lvs : List Value) (ps : List (Value × Value)), e = .returned (.tuple #[.agg #[bv, fv, sv], .int .i64 0]) ∧ lvs.length = (emitN (gs.map lineG)).sites.length ∧ ps.length = (emitN (gs.map lineG)).rows.length ∧
   Items w' w.heap.size (.row bv 5 1 (8 * (emitCode (emitN (gs.map lineG))).length) (byteVals ((emitCode (emitN (gs.map lineG))).flatMap mbytes)) :: imgIts (emitN (gs.map lineG)) fv sv lvs ps)))
theorem emit_bad (gs : List GraphD) (h : checkB gs true = false) : emitErr gs = 70 := by unfold emitErr; rw [if_pos h]
theorem emit_uses (gs : List GraphD) (h : checkB gs true = true) (hu : gs.any usesB = true) : emitErr gs = 160 := by unfold emitErr; rw [if_neg (by rw [h]; simp), if_pos hu]
theorem emit_over (gs : List GraphD) (h : checkB gs true = true) (hu : gs.any usesB = false) (ho : linOver gs = true) : emitErr gs = 31 := by unfold emitErr; rw [if_neg (by rw [h]; simp), if_neg (by rw [hu]; simp), if_pos ho]
theorem emit_fits (gs : List GraphD) (h : checkB gs true = true) (hu : gs.any usesB = false) (ho : linOver gs = false) (ha : (emitCode (emitN (gs.map lineG))).all goodP = true) (hl : ¬ 1048576 < (emitCode (emitN (gs.map lineG))).length) : emitErr gs = 0 := by unfold emitErr; rw [if_neg (by rw [h]; simp), if_neg (by rw [hu]; simp), if_neg (by rw [ho]; simp), if_neg (by rintro (h | h); (· rw [ha] at h; cases h); exact hl h)]
theorem line_fn {gs : List GraphD} (h : checkB gs true = true) (hs : GsSmall gs) (ho : linOver gs = false) (himm : ∀ g ∈ gs, ∀ x ∈ g.nodes, U64 x.imm) : ∀ g' ∈ gs.map lineG, FnOk (gs.map lineG) g' := by
 intro g' hg'
 obtain ⟨g, hg, rfl⟩ := List.mem_map.1 hg'
 obtain ⟨hns, he⟩ := lin_ok h hs hg
 refine FnOk.of (line_check h hs ho) hg' (fun x hx => ?_) (fun x hx => ?_)
 ·rcases line_node hns he hx with ⟨n, hn, a, b, rfl⟩ | ⟨a, b, rfl⟩
  ·exact himm g hg n hn
  ·show U64 0
   unfold U64; omega
 ·rcases line_node hns he hx with ⟨n, hn, a, b, rfl⟩ | ⟨a, b, rfl⟩
  ·exact hns.args n hn
  ·show ([] : List Int).length * 8 ≤ _
   simp
theorem grF_at {w : World} {base GB n c k : Nat} {gs : List GraphD} {g : GraphD} (h : GraphsAt w base (.slice (some ⟨GB, 0, none⟩) n c) gs) (hk : gs[k]? = some g) : GrF w base GB (k * 8) g := by
 obtain ⟨ad, cs, e, hlt, hkn, hsz, hR, h0, hj⟩ := RowsAt.at_ h hk
 injection e with e
 subst e
 obtain ⟨pv, kv, iv, nv, rfl, h1, h2, h3, h4⟩ := hR
 rw [Addr.add_mid, Nat.zero_add] at h0 hj
 refine ⟨hlt, pv, kv, iv, nv, fun j v hv => ?_, h1, h2, h3, h4⟩
 rcases Nat.eq_zero_or_pos j with rfl | hj0
 ·exact h0 v hv
 ·exact hj j v hj0 hv
theorem own_types {w : World} {b1 b2 s1 s2 n1 n2 : Nat} {e1 e2 : TypeId} {v1 v2 : Value} {x1 x2 : List Value} (h1 : w.ownsRow b1 e1 s1 v1 n1 x1) (h2 : w.ownsRow b2 e2 s2 v2 n2 x2) (hne : e1 ≠ e2) : ∀ b, v1.ownBlock = some b → v2.ownBlock ≠ some b := fun b a1 a2 => by
 obtain ⟨c1, k1⟩ := own_blk h1 a1
 obtain ⟨c2, k2⟩ := own_blk h2 a2
 exact (k1.ne_ k2 hne) rfl
theorem img_sub (a1 a2 a3 c1 st fr : It) (LR RI : List It) : ([c1] ++ (LR ++ ([fr] ++ RI))).Sublist (([a1, a2, a3] ++ ([c1] ++ (LR ++ ([st, fr] ++ RI)))) ++ []) := by
 rw [List.append_nil]
 refine List.Sublist.trans ?_ (List.sublist_append_right [a1, a2, a3] _)
 refine (List.Sublist.refl [c1]).append ((List.Sublist.refl LR).append ?_)
 exact (List.sublist_cons_self st [fr]).append (List.Sublist.refl RI)
theorem emit_any {w : World} {B : Nat} {gsv : Value} {gs : List GraphD} (h : GraphsAt w B gsv gs) (hB : B ≤ w.heap.size) (hs : GsSmall gs) (himm : ∀ g ∈ gs, ∀ x ∈ g.nodes, U64 x.imm) (ht : TabX w) :
  Calls Tryd.prog 8 #[.agg #[gsv]] w fun e w' => EmitPost gs w e w' := by
 obtain ⟨P, hP⟩ : ∃ P, P = w.heap.size := ⟨_, rfl⟩
 obtain ⟨R, hR⟩ : ∃ R, R = w.heap.size + 1 := ⟨_, rfl⟩
 obtain ⟨w2, hw2⟩ : ∃ w2, w2 = (w.alloc (.cells #[gsv] 24)).alloc (.cells #[.slice none 0 0, .slice none 0 0, .slice none 0 0] 33) := ⟨_, rfl⟩
 have hP2 : Blk w2 P 24 #[gsv] := by rw [hw2, hP]; exact (Blk.new w _ _).alloc _
 have hR2 : Blk w2 R 33 #[.slice none 0 0, .slice none 0 0, .slice none 0 0] := by rw [hw2, hR]; exact Blk.new2 w _ _ _
 have hb2 : Below w.heap.size w w2 := by rw [hw2]; exact ((Below.refl _ _).alloc (Nat.le_refl _) _).alloc (by simp) _
 have hA2 := h.below (hb2.mono hB)
 have hsz2 := hb2.size
 have hchk := check_any hA2 (by omega) ⟨fun g hg => (hs.each g hg).2.1, fun g hg x hx => by have := (hs.each g hg).2.2.2.2 x hx; omega⟩ true
 obtain ⟨GA, gc, rfl, hgc1, hgc2⟩ := hA2.slice
 obtain ⟨Z, hZ⟩ : ∃ Z, gs.length = Z := ⟨_, rfl⟩
 rw [hZ] at hP2 hchk hA2 hgc1 h
 rw [hZ] at hw2 ⊢
 have kp0 := Blk.cell hP2 0
 simp only [List.getElem?_toArray, List.getElem?_cons_zero, List.getElem?_cons_succ] at kp0
 have hmm := @run_makeMap Tryd.prog
 obtain ⟨HP2, HR2, Hb2, HA2, HZ, Hs, H, Hw2⟩ := hd8 hP2 hR2 hb2 hA2 hZ hs h hw2
 obtain ⟨Hchk, Himm, Ht⟩ := hd3 hchk himm ht
 clear ht himm hchk hw2 h hs hZ hA2 hb2 hR2 hP2
 go_enter Tryd.func8, Tryd.ntmps8
 go_upto_region 1 with fail
 rw [← Hw2.out, ← hR, ← hP]
 obtain ⟨HPe, HRe, Hmm⟩ := hd3 hP hR hmm
 clear hmm hR hP
 go_wp2_with fail
 refine Hchk.out.mono ?_
 rintro e w3 ⟨rfl, hb23⟩
 have hb3 := Hb2.out.trans (hb23.mono hsz2)
 have hP3 := HP2.out.below hb23 HP2.out.lt
 have hR3 := HR2.out.below hb23 HR2.out.lt
 have hsz3 := hb3.size
 clear kp0
 have kp0 := Blk.cell hP3 0
 simp only [List.getElem?_toArray, List.getElem?_cons_zero, List.getElem?_cons_succ] at kp0
 have kr0 := Blk.cell hR3 0
 have kr1 := Blk.cell hR3 1
 have kr2 := Blk.cell hR3 2
 simp only [List.getElem?_toArray, List.getElem?_cons_zero, List.getElem?_cons_succ] at kr0 kr1 kr2
 have fr0 := Blk.frozen hR3 0
 have fr1 := Blk.frozen hR3 1
 have fr2 := Blk.frozen hR3 2
 have hRw : w.heap.size ≤ R := by rw [HRe.out]; omega
 by_cases hc : checkB gs true = true
 case neg =>
  rw [if_neg hc]
  have hR4 := ((hR3.set_ 0 (.slice none 0 0)).set_ 1 (.slice none 0 0)).set_ 2 (.slice none 0 0)
  simp only [List.setIfInBounds_toArray, List.set_cons_zero, List.set_cons_succ] at hR4
  have hb4 := ((hb3.setCell (p := ⟨R, 0, none⟩) hRw (.slice none 0 0)).setCell (p := ⟨R, 1, none⟩) hRw (.slice none 0 0)).setCell (p := ⟨R, 2, none⟩) hRw (.slice none 0 0)
  have hcf : checkB gs true = false := by simpa using hc
  have hpost : ∀ W', Below w.heap.size w W' → EmitPost gs w (.returned (.tuple #[.agg #[.slice none 0 0, .slice none 0 0, .slice none 0 0], .int .i64 70])) W' := fun W' hb => by
   refine ⟨hb, .inl ?_⟩
   rw [emit_bad gs hcf]
   exact ⟨by decide, rfl⟩
  obtain ⟨HP3, HR3, Hb3, Hb23, HR4, Hb4, Hpost, Hc⟩ := hd8 hP3 hR3 hb3 hb23 hR4 hb4 hpost hc
  have Hcf := Lib.hid hcf
  clear hcf hc hpost hb4 hR4 hb23 hb3 hR3 hP3
  go_wp2_with fail
  refine bodyPost_ret (results_row_tmp rfl _ _ R 33 _ (0, 0) _ rfl HR4.out Tryd.underlying33 (by kernel_rfl)) rfl ?_
  exact Hpost.out _ Hb4.out
 case pos =>
  rw [if_pos hc]
  have hZ16 := (check_len hc).2
  rw [HZ.out] at hZ16
  have hp4 : ∀ f ∈ gs, f.params.length ≤ 4 := fun f hf => (head_par (check_each hc hf).1).2.1
  obtain ⟨HP3, HR3, Hb3, Hb23, Hc, Hp4⟩ := hd6 hP3 hR3 hb3 hb23 hc hp4
  clear hp4 hc hb23 hb3 hR3 hP3
  go_wp2_with fail
  clear kp0 kr0 kr1 kr2 fr0 fr1 fr2
  go_loopg [23] Z (fun gk iv wr => ∃ j : Nat, j + gk = Z ∧ iv = .int .i64 j ∧ Hid ((gs.take j).any usesB = false) ∧ Hid (Blk wr P 24 #[.slice GA Z gc]) ∧ Hid (Blk wr R 33 #[.slice none 0 0, .slice none 0 0, .slice none 0 0]) ∧ Hid (Below w.heap.size w wr))
  case atStart => exact ⟨0, by omega, rfl, Lib.hid (by simp), HP3, HR3, Hb3⟩
  case round =>
   obtain ⟨j, hj, rfl, hno, hPj, hRj, hbj⟩ := hrel
   have hszj := hbj.out.size
   by_cases hjZ : j < Z
   ·obtain ⟨g, hg⟩ : ∃ g, gs[j]? = some g := ⟨_, List.getElem?_eq_getElem (by rw [HZ.out]; exact hjZ)⟩
    have hgm : g ∈ gs := List.mem_of_getElem? hg
    obtain ⟨ad, pv0, kv0, iv0, nv0, hGA, _, hM⟩ := (H.out.below (hbj.out.mono hB)).at_ hg
    subst hGA
    have hPk := hPj.out
    have kp0 := Blk.cell hPk 0
    simp only [List.getElem?_toArray, List.getElem?_cons_zero, List.getElem?_cons_succ] at kp0
    have hce := check_each Hc.out hgm
    have hus := uses_any (ga := ad.add (j * 8)) (g := g) hM.c6 (hM.nodes.more (by omega) fun cs x h => by obtain ⟨av, h1, h2⟩ := h; exact ⟨av, h1, h2.more (by omega)⟩) (by have := (head_par hce.1).2.2.2; omega) (fun x hx => (Hs.out.each g hgm).2.2.2.2 x hx) (fun x hx => by have := (reads_bd (hce.2 x hx) Hp4.out (right_of Hc.out g hgm).k0).2; omega)
    have hjI : (j : Int) < Z := by omega
    have hsn : (gs.take (j + 1)).any usesB = usesB g := by
     rw [List.take_add_one, hg, Option.toList_some, List.any_append, hno.out]; simp
    obtain ⟨ub, hub⟩ : ∃ ub, usesB g = ub := ⟨_, rfl⟩
    rw [hub] at hus hsn
    obtain ⟨Hg, Hgm, HM, HPk, Hce, Hus, Hsn, Hub⟩ := hd8 hg hgm hM hPk hce hus hsn hub
    clear hub hsn hus hce hPk hM hgm hg
    go_wp2_with fail
    refine Hus.out.mono ?_
    rintro e w4 ⟨rfl, hb4⟩
    have hP5 := hPj.out.below hb4 hPj.out.lt
    have hR5 := hRj.out.below hb4 hRj.out.lt
    have hb5 := hbj.out.trans (hb4.mono hszj)
    clear kp0
    cases ub
    case true =>
     have kr0 := Blk.cell hR5 0
     have kr1 := Blk.cell hR5 1
     have kr2 := Blk.cell hR5 2
     simp only [List.getElem?_toArray, List.getElem?_cons_zero, List.getElem?_cons_succ] at kr0 kr1 kr2
     have fr0 := Blk.frozen hR5 0
     have fr1 := Blk.frozen hR5 1
     have fr2 := Blk.frozen hR5 2
     have hR4 := ((hR5.set_ 0 (.slice none 0 0)).set_ 1 (.slice none 0 0)).set_ 2 (.slice none 0 0)
     simp only [List.setIfInBounds_toArray, List.set_cons_zero, List.set_cons_succ] at hR4
     have hb6 := ((hb5.setCell (p := ⟨R, 0, none⟩) hRw (.slice none 0 0)).setCell (p := ⟨R, 1, none⟩) hRw (.slice none 0 0)).setCell (p := ⟨R, 2, none⟩) hRw (.slice none 0 0)
     have hpost : ∀ W', Below w.heap.size w W' → EmitPost gs w (.returned (.tuple #[.agg #[.slice none 0 0, .slice none 0 0, .slice none 0 0], .int .i64 160])) W' := fun W' hb => by
      refine ⟨hb, .inl ?_⟩
      have hu : gs.any usesB = true := List.any_eq_true.2 ⟨g, Hgm.out, Hub.out⟩
      rw [emit_uses gs Hc.out hu]
      exact ⟨by decide, rfl⟩
     obtain ⟨HP5, HR5, Hb4, Hb5, HR4, Hb6, Hpost⟩ := hd7 hP5 hR5 hb4 hb5 hR4 hb6 hpost
     clear hpost hb6 hR4 hb5 hb4 hR5 hP5
     go_wp2_with fail
     refine bodyPost_ret (results_row_tmp rfl _ _ R 33 _ (0, 0) _ rfl HR4.out Tryd.underlying33 (by kernel_rfl)) rfl ?_
     exact Hpost.out _ Hb6.out
    case false =>
     obtain ⟨HP5, HR5, Hb4, Hb5⟩ := hd4 hP5 hR5 hb4 hb5
     clear hb5 hb4 hR5 hP5
     go_wp2_with fail
     go_roundg (gk - 1)
     case measure => omega
     case rel => exact ⟨j + 1, by omega, by simp, Hsn, HP5, HR5, Hb5⟩
   ·obtain rfl : Z = j := by omega
    have hZI : ¬ (Z : Int) < Z := by omega
    rw [List.take_of_length_le (by rw [HZ.out]; exact Nat.le_refl _)] at hno
    have hPk := hPj.out
    have kp0 := Blk.cell hPk 0
    simp only [List.getElem?_toArray, List.getElem?_cons_zero, List.getElem?_cons_succ] at kp0
    have hlin := linear_any (w := wr) (H.out.below (hbj.out.mono hB)) (by omega) Hs.out
    have hle : linErr gs = if linOver gs = true then 31 else 0 := by unfold linErr; rw [if_pos Hc.out]
    obtain ⟨le, hle2⟩ : ∃ le, linErr gs = le := ⟨_, rfl⟩
    obtain ⟨HPk, Hlin, Hle, Hle2⟩ := hd4 hPk hlin hle hle2
    clear hle2 hle hlin hPk
    go_wp2_with fail
    refine Hlin.out.mono ?_
    intro e w6 hpl
    unfold LinPost at hpl
    rw [Hle2.out] at hpl
    obtain ⟨hb6, hcase⟩ := hpl
    have hP7 := (hPj.out.below hb6 hPj.out.lt)
    have hR7 := (hRj.out.below hb6 hRj.out.lt)
    have hb7 := hbj.out.trans (hb6.mono hszj)
    have hPw : w.heap.size ≤ P := by rw [HPe.out]; exact Nat.le_refl _
    have hPR : P ≠ R := by rw [HPe.out, HRe.out]; omega
    clear kp0
    have kp0 := Blk.cell hP7 0
    simp only [List.getElem?_toArray, List.getElem?_cons_zero, List.getElem?_cons_succ] at kp0
    have fp0 := Blk.frozen hP7 0
    have kr0 := Blk.cell hR7 0
    have kr1 := Blk.cell hR7 1
    have kr2 := Blk.cell hR7 2
    simp only [List.getElem?_toArray, List.getElem?_cons_zero, List.getElem?_cons_succ] at kr0 kr1 kr2
    have fr0 := Blk.frozen hR7 0
    have fr1 := Blk.frozen hR7 1
    have fr2 := Blk.frozen hR7 2
    have hu0 : gs.any usesB = false := hno.out
    rcases hcase with ⟨hne, rfl⟩ | ⟨hz, pv, css, rfl, hown, hgs⟩
    ·have hov : linOver gs = true := by
      rcases ho : linOver gs with _ | _
      ·exfalso
       have h1 := Hle.out
       rw [ho, Hle2.out] at h1
       exact hne h1
      ·rfl
     have hl31 : le = 31 := by rw [← Hle2.out, Hle.out, hov]; rfl
     subst hl31
     have hR8 := (((hR7.far (p := ⟨P, 0, none⟩) (Ne.symm hPR) (.slice none 0 0)).set_ 0 (.slice none 0 0)).set_ 1 (.slice none 0 0)).set_ 2 (.slice none 0 0)
     simp only [List.setIfInBounds_toArray, List.set_cons_zero, List.set_cons_succ] at hR8
     have hb8 := (((hb7.setCell (p := ⟨P, 0, none⟩) hPw (.slice none 0 0)).setCell (p := ⟨R, 0, none⟩) hRw (.slice none 0 0)).setCell (p := ⟨R, 1, none⟩) hRw (.slice none 0 0)).setCell (p := ⟨R, 2, none⟩) hRw (.slice none 0 0)
     have hpost : ∀ W', Below w.heap.size w W' → EmitPost gs w (.returned (.tuple #[.agg #[.slice none 0 0, .slice none 0 0, .slice none 0 0], .int .i64 31])) W' := fun W' hb => by
      refine ⟨hb, .inl ?_⟩
      rw [emit_over gs Hc.out hu0 hov]
      exact ⟨by decide, rfl⟩
     obtain ⟨HP7, HR7, Hb7, Hb6, HR8, Hb8, Hpost, Hov⟩ := hd8 hP7 hR7 hb7 hb6 hR8 hb8 hpost hov
     obtain ⟨Hne, Hu0⟩ := hd2 hne hu0
     clear hu0 hne hov hpost hb8 hR8 hb6 hb7 hR7 hP7
     go_wp2_with fail
     refine bodyPost_ret (results_row_tmp rfl _ _ R 33 _ (0, 0) _ rfl HR8.out Tryd.underlying33 (by kernel_rfl)) rfl ?_
     exact Hpost.out _ Hb8.out
    ·subst hz
     have hov : linOver gs = false := by
      rcases ho : linOver gs with _ | _
      ·rfl
      ·exfalso
       have h1 := Hle.out
       rw [ho, Hle2.out] at h1
       cases h1
     obtain ⟨gsl, hgsl⟩ : ∃ gsl, gs.map lineG = gsl := ⟨_, rfl⟩
     have hck := line_check Hc.out Hs.out hov
     rw [hgsl] at hck hgs
     have hgll : gsl.length = Z := by rw [← hgsl, List.length_map, HZ.out]
     rw [HZ.out] at hown
     have hA6 := hgs.at_ (by rw [hgll]; exact hown)
     obtain ⟨GB, gvc, hpv, _, _, _, _⟩ := own_form hown (by have := (check_len Hc.out).1; rw [HZ.out] at this; exact this)
     subst hpv
     have hZ0 : 0 < Z := by have := (check_len Hc.out).1; rw [HZ.out] at this; exact this
     have hP8 := hP7.set_ 0 (.slice (some ⟨GB, 0, none⟩) Z gvc)
     simp only [List.setIfInBounds_toArray, List.set_cons_zero] at hP8
     have hR8 := hR7.far (p := ⟨P, 0, none⟩) (Ne.symm hPR) (.slice (some ⟨GB, 0, none⟩) Z gvc)
     have hb8 := hb7.setCell (p := ⟨P, 0, none⟩) hPw (.slice (some ⟨GB, 0, none⟩) Z gvc)
     have hgs8 := hgs.kept (grown_setCell w6 ⟨P, 0, none⟩ (.slice (some ⟨GB, 0, none⟩) Z gvc)) (Far.blk hP7 (by decide) (by decide) (by decide))
     have hown8 := ownsRow_setCell_other hown (a := ⟨P, 0, none⟩) (own_blk_ne hown hP7 (by decide)) (.slice (some ⟨GB, 0, none⟩) Z gvc)
     have hA8 := hgs8.at_ (by rw [hgll]; exact hown8)
     obtain ⟨w8, hw8⟩ : ∃ w8, w8 = w6.setCell ⟨P, 0, none⟩ (.slice (some ⟨GB, 0, none⟩) Z gvc) := ⟨_, rfl⟩
     rw [← hw8] at hP8 hR8 hb8 hA8
     obtain ⟨base, hbase⟩ : ∃ base, base = w8.heap.size := ⟨_, rfl⟩
     have hw6s : w6.heap.size = base := by rw [hbase, hw8]; simp
     have htop := TopAt.made w8
     rw [← hbase] at htop
     have hbm := ((Below.refl base w8).alloc (Nat.le_of_eq hbase) (.map #[] 0)).alloc (by rw [hbase]; simp) (.cells #[.slice none 0 0, .slice none 0 0, .map (some base), .slice none 0 0, .slice none 0 0] 67)
     obtain ⟨w9, hw9⟩ : ∃ w9, w9 = (w8.alloc (.map #[] 0)).alloc (.cells #[.slice none 0 0, .slice none 0 0, .map (some base), .slice none 0 0, .slice none 0 0] 67) := ⟨_, rfl⟩
     rw [← hw9] at htop hbm
     rw [← hbase] at hA8
     have hPb : P < base := by rw [hbase]; exact hP8.lt
     have hRb : R < base := by rw [hbase]; exact hR8.lt
     have htb : 1 < base := by have := Ht.out.1; have := hb8.size; rw [← hbase] at this; omega
     have hput := put_top (htop.alloc (.cells #[.int .u8 13, .int .i64 0, .int .i64 0, .int .i64 0, .int .i32 0, .int .u8 13, .int .i64 0, .int .i64 0, .int .i64 0, .int .i32 1] 71)) (ms := [⟨13, 0, 0, 0, 0⟩, ⟨13, 0, 0, 0, 1⟩]) (m := 2) (c := 2) (Reads.newS _ rfl _ _ _ _ _ rfl rfl) rfl (by show 0 + 2 ≤ _; omega)
     have hba := hbm.alloc (by have := htop.size; omega) (.cells #[.int .u8 13, .int .i64 0, .int .i64 0, .int .i64 0, .int .i32 0, .int .u8 13, .int .i64 0, .int .i64 0, .int .i64 0, .int .i32 1] 71)
     have hmm := Hmm.out
     obtain ⟨HP7, HR7, Hb7, Hb6, Hov, Hu0, Hgsl, Hck⟩ := hd8 hP7 hR7 hb7 hb6 hov hu0 hgsl hck
     obtain ⟨Hgs, Hown, Hgll, HA6, HP8, HR8, Hb8, Hgs8⟩ := hd8 hgs hown hgll hA6 hP8 hR8 hb8 hgs8
     obtain ⟨Hown8, HA8, Hw8, Htop, Hbm, Hw9, Hput, Hba⟩ := hd8 hown8 hA8 hw8 htop hbm hw9 hput hba
     obtain ⟨HPb', HRb', Hbase, Hw6s⟩ := hd4 hPb hRb hbase hw6s
     clear hw6s hbase hRb hPb hba hput hw9 hbm htop hw8 hA8 hown8 hgs8 hb8 hR8 hP8 hA6 hgll hown hgs hck hgsl hu0 hov hb6 hb7 hR7 hP7
     go_upto_region 14 with fail
     rw [← Hw8.out, Hw6s.out, ← Hw9.out]
     clear hmm
     go_wp2_with fail
     refine Hput.out.mono ?_
     rintro e w10 ⟨rfl, ht10, hb10⟩
     have hb11 := Hba.out.trans hb10
     have hP9 := HP8.out.below hb11 HPb'.out
     have kq0 := Blk.cell hP9 0
     simp only [List.getElem?_toArray, List.getElem?_cons_zero, List.getElem?_cons_succ] at kq0
     obtain ⟨Ht10, Hb10, Hb11, HP9⟩ := hd4 ht10 hb10 hb11 hP9
     clear hP9 hb11 hb10 ht10
     go_wp2_with fail
     clear kp0 kq0 kr0 kr1 kr2 fp0 fr0 fr1 fr2
     have hfn := line_fn Hc.out Hs.out Hov.out Himm.out
     rw [Hgsl.out] at hfn
     have hsub : ∀ n, ∀ g ∈ gsl.take n, FnOk gsl g := fun n g hg => hfn g (List.mem_of_mem_take hg)
     obtain ⟨Hfn, Hsub⟩ := hd2 hfn hsub
     clear hsub hfn
     go_loopg [53] Z (fun gk iv wr => ∃ j : Nat, j + gk = Z ∧ iv = .int .i64 j ∧ Hid (TopAt wr base (base + 1) (emitN (gsl.take j)) []) ∧ Hid (Below base w8 wr))
     case atStart => exact ⟨0, by omega, rfl, Ht10, Hb11⟩
     case round =>
      obtain ⟨j, hj, rfl, htj, hbj2⟩ := hrel
      by_cases hjZ : j < Z
      ·obtain ⟨g, hg⟩ : ∃ g, gsl[j]? = some g := ⟨_, List.getElem?_eq_getElem (by rw [Hgll.out]; exact hjZ)⟩
       have hgm : g ∈ gsl := List.mem_of_getElem? hg
       have hgok := Hfn.out g hgm
       have hPq := HP8.out.below hbj2.out HPb'.out
       have kq0 := Blk.cell hPq 0
       simp only [List.getElem?_toArray, List.getElem?_cons_zero, List.getElem?_cons_succ] at kq0
       have hbsz : base ≤ wr.heap.size := by have := htj.out.size; omega
       have hlay := layout_any2 wr base (.slice (some ⟨GB, 0, none⟩) Z gvc) gsl j g (HA8.out.below hbj2.out) hbsz ⟨fun g hg => by have := (Hfn.out g hg).right.k1; omega, fun g hg x hx => by have := (Hfn.out g hg).args x hx; omega⟩ Hck.out hg
       have hjI : (j : Int) < Z := by omega
       have htk : gsl.take (j + 1) = gsl.take j ++ [g] := by rw [List.take_add_one, hg]; rfl
       obtain ⟨Hg, Hgm, Hgok, HPq, Hlay, Htk⟩ := hd6 hg hgm hgok hPq hlay htk
       clear htk hlay hPq hgok hgm hg
       go_wp2_with fail
       refine Hlay.out.mono ?_
       rintro e w12 ⟨hb12, v, rfl, ⟨slv, clv, svv, rfl, ho1, ho2, ho3⟩, z0, sv0, cv0, vv0, r0, hve, hap⟩
       injection hve with hve
       injection hve with hve
       injection hve with e0 hve
       injection hve with e1 hve
       injection hve with e2 hve
       injection hve with e3 hve
       injection hve with e4 hve
       subst e0 e1 e2 e3 e4
       clear hve
       obtain ⟨SLA, slc, hsl, _⟩ := own_any ho1
       obtain ⟨CLA, clc, hcl, _⟩ := own_any ho2
       obtain ⟨SVA, svc, hsvv, _⟩ := own_any ho3
       have ho3' : It.At w12 wr.heap.size (rowSv g svv) := by
        show w12.ownsRow wr.heap.size _ 2 svv (savesOf g).length (mvcells (savesOf g))
        rw [savesOf_len]; exact ho3
       have ht12 := htj.out.extend3 (x := rowSl g slv) (y := rowCl g clv) (z := rowSv g svv) (only_of_below hb12 none) (It.At.lower (x := rowSl g slv) ho1 hbsz) (It.At.lower (x := rowCl g clv) ho2 hbsz) (It.At.lower ho3' hbsz) (fun b e => (ho1.lt b e).1) (fun b e => (ho2.lt b e).1) (fun b e => (ho3.lt b e).1) hap (own_types ho1 ho3 (by decide)) (own_types ho2 ho3 (by decide))
       have hb13 := hbj2.out.trans (hb12.mono hbsz)
       subst hsl hcl hsvv
       have hnse : (emitN (gsl.take (j + 1))) = (emitN (gsl.take j)).fn g := by rw [Htk.out, emitN_snoc]
       have hrow := emitN_rows (gsl.take j)
       have hsze := emitN_sz (gsl.take j) (Hsub.out j)
       have htl : (gsl.take j).length = j := by rw [List.length_take, Hgll.out]; omega
       rw [htl] at hrow hsze
       unfold TopS.sz at hsze
       obtain ⟨LB, hLB⟩ : ∃ LB, LB = w12.heap.size := ⟨_, rfl⟩
       obtain ⟨w13, hw13⟩ : ∃ w13, w13 = w12.alloc (.cells #[.int .i64 (sizeL g), .slice SLA (nSlots g) slc, .slice CLA (nCells g) clc, .slice SVA (nSaves g) svc, .int .i64 (resL g)] 73) := ⟨_, rfl⟩
       have ht13 := ht12.alloc (.cells #[.int .i64 (sizeL g), .slice SLA (nSlots g) slc, .slice CLA (nCells g) clc, .slice SVA (nSaves g) svc, .int .i64 (resL g)] 73)
       have hb14 := hb13.alloc (by have := ht12.size; omega) (.cells #[.int .i64 (sizeL g), .slice SLA (nSlots g) slc, .slice CLA (nCells g) clc, .slice SVA (nSaves g) svc, .int .i64 (resL g)] 73)
       have hLBb := Blk.new w12 73 #[.int .i64 (sizeL g), .slice SLA (nSlots g) slc, .slice CLA (nCells g) clc, .slice SVA (nSaves g) svc, .int .i64 (resL g)]
       rw [← hw13] at ht13 hb14 hLBb
       rw [← hLB] at hLBb
       have hTf : ∀ W, Below base w8 W → TabX W := fun W hW => by
        have hbW : Below w.heap.size w W := Hb8.out.trans (hW.mono (by rw [Hbase.out]; exact Hb8.out.size))
        exact Ht.out.below hbW Ht.out.1
       have hfc : Calls Tryd.prog 20 #[.pointer (some ⟨base + 1, 0, none⟩), .pointer (some ⟨GB, j * 8, none⟩), .agg #[.int .i64 (sizeL g), .slice SLA (nSlots g) slc, .slice CLA (nCells g) clc, .slice SVA (nSaves g) svc, .int .i64 (resL g)]] w13.drew fun e w' => e = .returned (.tuple #[]) ∧ TopAt w' base (base + 1) (emitN (gsl.take (j + 1))) [] ∧ Below base w13.drew w' := by
        have := function_em (gs := gsl) ht13.drew (grF_at (HA8.out.below hb14.drew) Hg.out) Hgok.out (fun W hW => hTf W (hb14.drew.trans hW)) htb (by omega)
        rw [hnse]
        exact this
       have hP13 := HP8.out.below hb14 HPb'.out
       have hkP := hP13.cell 0
       simp only [List.getElem?_toArray, List.getElem?_cons_zero] at hkP
       have kl0 := Blk.cell hLBb 0
       have kl1 := Blk.cell hLBb 1
       have kl2 := Blk.cell hLBb 2
       have kl3 := Blk.cell hLBb 3
       have kl4 := Blk.cell hLBb 4
       simp only [List.getElem?_toArray, List.getElem?_cons_zero, List.getElem?_cons_succ] at kl0 kl1 kl2 kl3 kl4
       clear kq0
       obtain ⟨Ho1, Ho2, Ho3, Ho3', Ht12, Hb13, Hap, Hnse⟩ := hd8 ho1 ho2 ho3 ho3' ht12 hb13 hap hnse
       obtain ⟨Hrow, HLB, Hw13, Ht13, Hb14, HLBb, HTf, Hfc⟩ := hd8 hrow hLB hw13 ht13 hb14 hLBb hTf hfc
       obtain ⟨HP13, Hb12⟩ := hd2 hP13 hb12
       clear hb12 hP13 hfc hTf hLBb hb14 ht13 hw13 hLB hrow hnse hap hb13 ht12 ho3' ho3 ho2 ho1
       go_upto_region 19 with fail
       rw [← Hw13.out, ← HLB.out]
       refine wp_region_lateM (S := fun W => W.cell? ⟨P, 0, none⟩ = some (.slice (some ⟨GB, 0, none⟩) Z gvc) ∧ W.cell? ⟨LB, 0, none⟩ = some (.int .i64 (sizeL g)) ∧ W.cell? ⟨LB, 1, none⟩ = some (.slice SLA (nSlots g) slc) ∧ W.cell? ⟨LB, 2, none⟩ = some (.slice CLA (nCells g) clc) ∧ W.cell? ⟨LB, 3, none⟩ = some (.slice SVA (nSaves g) svc) ∧ W.cell? ⟨LB, 4, none⟩ = some (.int .i64 (resL g))) #[false, false, false, false, false, false, true] (by kernel_rfl) ⟨hkP, kl0, kl1, kl2, kl3, kl4⟩ (fun hHeld => ?_)
       refine wpAnyM_tk 0 ?_
       refine wpAnyM_tk 1 ?_
       refine wpAnyM_tk 2 ?_
       refine wpAnyM_tk 3 ?_
       refine wpAnyM_tk 4 ?_
       refine wpAnyM_tk 5 ?_
       refine wpAnyM_last (i := 6) (by kernel_rfl) rfl ⟨6, by kernel_rfl, by kernel_rfl⟩ (fun K hK => ?_)
       go_simp
       refine Hfc.out.mono ?_
       rintro e w15 ⟨rfl, ht15, hb15⟩
       refine hK.out _ _ ?_
       clear hK K
       try simp only [Act.put, List.getElem_toArray, List.getElem_cons_zero, List.getElem_cons_succ, List.setIfInBounds_toArray, List.set_cons_zero, List.set_cons_succ]
       refine wpAnyM_done (by kernel_rfl) ?_ _
       have hb16 := (Hb14.out.drew).trans hb15
       clear hkP kl0 kl1 kl2 kl3 kl4 hHeld
       obtain ⟨Ht15, Hb15, Hb16⟩ := hd3 ht15 hb15 hb16
       clear hb16 hb15 ht15
       go_wp2_with fail
       go_roundg (gk - 1)
       case measure => omega
       case rel => exact ⟨j + 1, by omega, by simp, Ht15, Hb16⟩
      ·obtain rfl : Z = j := by omega
       have hZI2 : ¬ (Z : Int) < Z := by omega
       rw [List.take_of_length_le (by rw [Hgll.out]; exact Nat.le_refl _)] at htj
       obtain ⟨T, hT⟩ : ∃ T, emitN gsl = T := ⟨_, rfl⟩
       rw [hT] at htj
       have hinv := emitN_inv gsl Hfn.out
       have hrows := emitN_rows gsl
       have hsze := emitN_sz gsl Hfn.out
       rw [hT] at hinv hrows hsze
       rw [Hgll.out] at hinv hrows hsze
       unfold TopS.sz at hsze
       have htj2 := htj.out
       obtain ⟨cv, stv, fv, sv, Mc, lvs, ps, hl1, hl2, hI⟩ := htj2
       obtain ⟨IL, hIL⟩ : ∃ IL, topItems (base + 1) T cv stv fv sv Mc lvs ps ++ [] = IL := ⟨_, rfl⟩
       have hil0 : IL[0]? = some (.blk (base + 1) 67 #[cv, stv, .map (some Mc), fv, sv]) := by rw [← hIL]; rfl
       have hil1 : IL[1]? = some (.row cv 71 5 T.code.length (T.code.flatMap mcells)) := by rw [← hIL]; rfl
       have hil2 : IL[2]? = some (.map Mc T.cn T.calls) := by rw [← hIL]; rfl
       obtain ⟨si, hsi1, hsi⟩ : ∃ si, si ≠ 1 ∧ IL[si]? = some (.row stv 3 1 T.start.length (natV T.start)) := by
        refine ⟨4 + (liveRows T.sites lvs).length, by omega, ?_⟩
        rw [← hIL]
        unfold topItems
        rw [List.append_nil, List.getElem?_append_right (by simp; omega), List.getElem?_append_right (by simp; omega), List.getElem?_append_right (by simp; omega)]
        simp only [List.length_cons, List.length_nil]
        rw [show 4 + (liveRows T.sites lvs).length - (0 + 1 + 1 + 1) - (0 + 1) - (liveRows T.sites lvs).length = 0 by omega]; rfl
       rw [hIL] at hI
       have hlI := (List.getElem?_eq_some_iff.1 hil1).1
       obtain ⟨nC, hnC⟩ : ∃ nC, T.code.length = nC := ⟨_, rfl⟩
       have hcpos : 0 < nC := by
        have := emitN_len gsl Hfn.out
        rw [hT, hnC] at this
        omega
       rw [hnC] at hil1 hsze
       obtain ⟨CB, vc, hcv, _, _, hvc1, hvc2⟩ := own_form (hI.own hil1) hcpos
       subst hcv
       have hso := hI.own hsi
       rw [hrows.2] at hso hsi
       obtain ⟨SB, stc, hstv, _, _, _, _⟩ := own_form hso hZ0
       subst hstv
       obtain ⟨D, hown, hget, hkeys⟩ := hI.imap hil2
       have hstart : ∀ i : Nat, T.calls i ≠ none → Maps.has D (.int .i64 (i : Int)) = true := fun i hi => by
        rcases h : T.calls i with _ | l
        ·exact absurd h hi
        ·exact ((hget i).1 l h).1
       have hpatR : PatAt wr base IL CB nC vc (patch T.code T.calls (fun f => T.start[f]?) (fun i => Maps.has D (.int .i64 (i : Int)))) := by
        unfold PatAt
        rw [patch_all _ _ _ _ hstart]
        have e : IL.set 1 (.row (.slice (some ⟨CB, 0, none⟩) nC vc) 71 5 nC (T.code.flatMap mcells)) = IL := by
         refine List.ext_getElem? fun k => ?_
         rw [List.getElem?_set]
         by_cases hk : 1 = k
         ·subst hk; rw [if_pos rfl, if_pos hlI, hil1]
         ·rw [if_neg hk]
        rw [e]; exact hI
       have hfree : ∀ x ∈ IL, x.block ≠ some wr.heap.size := fun x hx e => by
        have := ((hI.each x hx).lt _ e).2
        omega
       obtain ⟨r, hr⟩ : ∃ r, r = wr.heap.size := ⟨_, rfl⟩
       have hCBr : CB ≠ r := by
        have := ((hI.at_ hil1).lt CB rfl).2
        omega
       rw [← hr] at hfree
       have hCBJ : CB ≠ Mc := fun e => hI.apart 2 1 _ _ (by omega) hil2 hil1 Mc rfl (by rw [← e]; rfl)
       have fJ : wr.cell? ⟨base + 1, 2, none⟩ = some (.map (some Mc)) := (hI.blk hil0).cell 2
       have hbzr : base ≤ r := by rw [hr]; have := htj.out.size; omega
       obtain ⟨Hinv, Hrows, Hl1, Hl2, HIL, Hil0, Hil1, Hil2⟩ := hd8 hinv hrows hl1 hl2 hIL hil0 hil1 hil2
       obtain ⟨Hsi, HI, HlI, HnC, Hcpos, HpatR, Hown, Hget⟩ := hd8 hsi hI hlI hnC hcpos hpatR hown hget
       obtain ⟨Hkeys, Hfree, Hr, Hstart, HT, Htj, Hso⟩ := hd7 hkeys hfree hr hstart hT htj hso
       clear hso htj hT hstart hr hfree hkeys hget hown hpatR hcpos hnC hlI hI hsi hil2 hil1 hil0 hIL hl2 hl1 hrows hinv
       go_wp2_with (first | (at_range; refine wpList_range_own _ rfl _ 64 rfl 3 3 keysI Tryd.underlying64 _ Mc _ D rfl Hown.out ?_; intro w18 hrg0 hg0 hs0))
       try go_frame
       rw [← Hr.out]
       rw [← Hr.out] at hrg0
       have hb19 : Below base w8 w18 := hbj2.out.trans (Below.grown (Below.refl base wr) hg0 (by have := Htj.out.size; omega) (fun k e => by cases e))
       have hpat0 := HpatR.out.keep hg0
       obtain ⟨Hrg0, Hg0, Hb19, Hpat0⟩ := hd4 hrg0 hg0 hb19 hpat0
       clear hpat0 hb19 hg0 hrg0
       clear fJ
       obtain ⟨w17, hw17⟩ : ∃ w17, w17 = wr := ⟨_, rfl⟩
       go_loopw [11, 12] (fun _ _ wr => ∃ (left : Lit → Bool) (cnt : Nat), Hid (wr.ranges Tryd.prog 3 (plainElem Tryd.prog 3) Mc r T.cn D left cnt) ∧ Hid (PatAt wr base IL CB nC vc (patch T.code T.calls (fun f => T.start[f]?) (fun i => left (.int .i64 (i : Int))))) ∧ Hid (Below base w8 wr)) (fun _ _ wr => wr.rangeLeft Mc r)
       case atStart => exact ⟨Maps.has D, Maps.size D, Hrg0, Hpat0, Hb19⟩
       case round =>
        obtain ⟨left, cnt, hrg, hpt, hbr⟩ := hrel
        go_wp2_with (first | (at_next; refine wpList_next_ranges_ii _ rfl _ rfl 3 3 .i64 .i64 keysI Tryd.underlying3 Tryd.underlying3 Mc r _ D left cnt rfl hrg.out ?_ ?_))
        ·intro _ hl0
         have hpf : PatAt wr base IL CB nC vc (emitCode T) := by
          have e : (fun i : Nat => left (.int .i64 (i : Int))) = fun _ => false := funext fun i => hl0 _
          unfold emitCode
          rw [← e]; exact hpt.out
         have e0 : wr.cell? ⟨base + 1, 0, none⟩ = some (.slice (some ⟨CB, 0, none⟩) nC vc) := (hpf.other (i := 0) (by omega) Hil0.out).2.cell 0
         have hImg : Items wr base (imgIts T fv sv lvs ps) := by
          have h1 := hpf
          unfold PatAt at h1
          rw [← HIL.out] at h1
          have h2 : Items wr base (topItems (base + 1) { T with code := emitCode T } (.slice (some ⟨CB, 0, none⟩) nC vc) (.slice (some ⟨SB, 0, none⟩) Z stc) fv sv Mc lvs ps ++ []) := by
           have e2 : nC = (emitCode T).length := by unfold emitCode; rw [patch_len]; exact HnC.out.symm
           have e3 : topItems (base + 1) { T with code := emitCode T } (.slice (some ⟨CB, 0, none⟩) nC vc) (.slice (some ⟨SB, 0, none⟩) Z stc) fv sv Mc lvs ps ++ [] = (topItems (base + 1) T (.slice (some ⟨CB, 0, none⟩) nC vc) (.slice (some ⟨SB, 0, none⟩) Z stc) fv sv Mc lvs ps ++ []).set 1 (.row (.slice (some ⟨CB, 0, none⟩) nC vc) 71 5 nC ((emitCode T).flatMap mcells)) := by
            unfold topItems
            rw [List.append_nil, List.append_nil, List.set_append_left _ _ (by simp)]
            simp only [List.set_cons_succ, List.set_cons_zero]
            rw [← e2]
           rw [e3]; exact h1
          exact h2.sub (img_sub _ _ _ _ _ _ _ _)
         obtain ⟨FV, fvc, hfv, _⟩ := own_any (show wr.ownsRow base 48 6 fv T.rows.length (rowsCells T.rows ps) from hImg.each (.row fv 48 6 T.rows.length (rowsCells T.rows ps)) (by unfold imgIts; simp))
         obtain ⟨SV, svc, hsvv, _⟩ := own_any (show wr.ownsRow base 112 2 sv T.sites.length (siteCells T.sites lvs) from hImg.each (.row sv 112 2 T.sites.length (siteCells T.sites lvs)) (by unfold imgIts; simp))
         obtain ⟨rn, hrn⟩ : ∃ rn, T.rows.length = rn := ⟨_, rfl⟩
         obtain ⟨sn, hsn⟩ : ∃ sn, T.sites.length = sn := ⟨_, rfl⟩
         rw [hrn] at hfv
         rw [hsn] at hsvv
         subst hfv hsvv
         have hgood := emitCode_good gsl Hfn.out
         rw [HT.out] at hgood
         have hcl : (emitCode T).length = nC := by unfold emitCode; rw [patch_len]; exact HnC.out
         have hEnc := encode_any (some ⟨CB, 0, none⟩) nC vc (emitCode T) wr wr.heap.size (Reads.of_own (hpf.row HlI.out)) hcl (by omega) (Nat.le_refl _) (fun i hi => (hgood i hi).1)
         have hall : (emitCode T).all goodP = true := List.all_eq_true.2 fun i hi => (hgood i hi).2
         have hbe : base ≤ wr.heap.size := by
          have := ((Items.at_ hpf (i := 0) (by rw [List.getElem?_set_ne (by omega)]; exact Hil0.out)).lt (base + 1) rfl).2
          omega
         have hb8w := hbr.out
         obtain ⟨Hl0, Hpf, Hrg, Hpt, HImg, Hgood, Hcl, HEnc⟩ := hd8 hl0 hpf hrg hpt hImg hgood hcl hEnc
         obtain ⟨Hall, Hrn, Hsn⟩ := hd3 hall hrn hsn
         clear hsn hrn hall hEnc hcl hgood hImg hpt hrg hpf hl0
         go_wp2_with fail
         refine HEnc.out.mono ?_
         rintro e w20 ⟨hcase, hb20⟩
         rcases hcase with ⟨_, bv, rfl, hbo⟩ | ⟨hbad, _⟩
         case inr => rw [Hall.out] at hbad; cases hbad
         obtain ⟨BA, bc, hbv, _⟩ := own_any hbo
         subst hbv
         have hE20 := ((Hpf.out.other (i := 0) (by omega) Hil0.out).2).below hb20 ((Hpf.out.other (i := 0) (by omega) Hil0.out).2).lt
         have ke0 := Blk.cell hE20 0
         have ke3 := Blk.cell hE20 3
         have ke4 := Blk.cell hE20 4
         simp only [List.getElem?_toArray, List.getElem?_cons_zero, List.getElem?_cons_succ] at ke0 ke3 ke4
         have hb8n := hb8w.trans (hb20.mono hbe)
         have hR20 := HR8.out.below hb8n HRb'.out
         have kr0 := Blk.cell hR20 0
         have kr1 := Blk.cell hR20 1
         have kr2 := Blk.cell hR20 2
         simp only [List.getElem?_toArray, List.getElem?_cons_zero, List.getElem?_cons_succ] at kr0 kr1 kr2
         have fr0 := Blk.frozen hR20 0
         have fr1 := Blk.frozen hR20 1
         have fr2 := Blk.frozen hR20 2
         have hb20n : Below w.heap.size w w20 := Hb8.out.trans (hb8n.mono (by rw [Hbase.out]; exact Hb8.out.size))
         have hI20 := HImg.out.new (only_of_below hb20 none) (x := .row (.slice BA (8 * nC) bc) 5 1 (8 * nC) (byteVals ((emitCode T).flatMap mbytes))) (It.At.lower hbo hbe) (fun b e => (hbo.lt b e).1)
         have hfar : ∀ x : It, x ∈ _ → ∀ b, x.block = some b → some R ≠ some b := fun x hx b e ee => by
          have h1 := ((hI20.each x hx).lt b e).1
          have h2 := HRb'.out
          injection ee with ee
          omega
         have hbig : ¬ (1048576 : Int) < nC := by omega
         have hR4 := ((hR20.set_ 0 (.slice BA (8 * nC) bc)).set_ 1 (.slice FV rn fvc)).set_ 2 (.slice SV sn svc)
         simp only [List.setIfInBounds_toArray, List.set_cons_zero, List.set_cons_succ] at hR4
         have hb21 := ((hb20n.setCell (p := ⟨R, 0, none⟩) hRw (.slice BA (8 * nC) bc)).setCell (p := ⟨R, 1, none⟩) hRw (.slice FV rn fvc)).setCell (p := ⟨R, 2, none⟩) hRw (.slice SV sn svc)
         have hI23 := ((hI20.kept (grown_setCell _ ⟨R, 0, none⟩ (.slice BA (8 * nC) bc)) hfar).kept (grown_setCell _ ⟨R, 1, none⟩ (.slice FV rn fvc)) hfar).kept (grown_setCell _ ⟨R, 2, none⟩ (.slice SV sn svc)) hfar
         obtain ⟨HE20, Hb8n, HR20, Hb20n, HI20, Hfar, HR4, Hb21⟩ := hd8 hE20 hb8n hR20 hb20n hI20 hfar hR4 hb21
         obtain ⟨Hb20, Hbo, HI23⟩ := hd3 hb20 hbo hI23
         clear hI23 hbo hb20 hb21 hR4 hfar hI20 hb20n hR20 hb8n hE20
         go_wp2_with fail
         refine bodyPost_ret (results_row_tmp rfl _ _ R 33 _ (0, 0) _ rfl HR4.out Tryd.underlying33 (by kernel_rfl)) rfl ?_
         have hfit := emit_fits gs Hc.out Hu0.out Hov.out (by rw [Hgsl.out, HT.out]; exact Hall.out) (by rw [Hgsl.out, HT.out, Hcl.out]; omega)
         refine ⟨Hb21.out, .inr ⟨hfit, .slice BA (8 * nC) bc, .slice FV rn fvc, .slice SV sn svc, lvs, ps, rfl, ?_, ?_, ?_⟩⟩
         ·rw [Hgsl.out, HT.out]; exact Hl1.out
         ·rw [Hgsl.out, HT.out]; exact Hl2.out
         ·rw [Hgsl.out, HT.out, Hcl.out]
          exact HI23.out.lower (by rw [Hbase.out]; exact Hb8.out.size)
        ·intro xk ck v1 cnt1 hwx hwc hlx hat hrg1 hlt hg1 hs1 hen
         have hhas : Maps.has D (.int .i64 xk) = true := by
          rcases hh : Maps.has D (.int .i64 xk) with _ | _
          ·have h1 := hat (.lit (.int .i64 (ck + 1)))
           rw [Maps.atKey_of_not_has hh] at h1
           have := lit_inj h1
           omega
          ·rfl
         obtain ⟨k, hk⟩ := Hkeys.out _ hhas
         injection hk with _ hk
         subst hk
         obtain ⟨l, hl⟩ : ∃ l, T.calls k = some l := by
          rcases hj : T.calls k with _ | l
          ·rw [(Hget.out k).2 hj] at hhas; cases hhas
          ·exact ⟨l, rfl⟩
         have hcl : ck = (l : Nat) := by
          have h1 := ((Hget.out k).1 l hl).2 (.lit (.int .i64 0))
          rw [hat] at h1
          exact lit_inj h1
         subst hcl
         obtain ⟨hlZ, hm⟩ := Hinv.out.calls k l hl
         obtain ⟨m, hmm2⟩ : ∃ m : MInstD, m = ⟨9, 0, 0, 0, 0⟩ := ⟨_, rfl⟩
         rw [← hmm2] at hm
         have hkn : k < nC := by have := (List.getElem?_eq_some_iff.1 hm).1; rw [HnC.out] at this; exact this
         have hpm : (patch T.code T.calls (fun f => T.start[f]?) (fun i => left (.int .i64 (i : Int))))[k]? = some m := by
          rw [patch_get, hm]
          show some (patchAt _ _ _ k m) = some m
          unfold patchAt
          rw [hl]
          simp [hlx]
         obtain ⟨lv, hlv⟩ : ∃ lv : Nat, T.start[l]? = some lv := ⟨_, List.getElem?_eq_getElem (by rw [Hrows.out.2]; exact hlZ)⟩
         have hpt1 := (hpt.out.kept Hfree.out hCBr hg1).drew
         have hso1 : v1.drew.ownsRow base 3 1 (.slice (some ⟨SB, 0, none⟩) Z stc) Z (natV T.start) := hpt1.other (i := si) hsi1 Hsi.out
         obtain ⟨ad, u, hA, _, hu, hcu⟩ := (Reads.of_own hso1).at_ hlZ
         injection hA with hA
         subst hA
         have hu2 : u = .int .i64 (lv : Nat) := by
          unfold natV at hu
          rw [List.getElem?_map, hlv] at hu
          injection hu with hu
          exact hu.symm
         subst hu2
         obtain ⟨o, ho⟩ : ∃ o, w32 (lv : Int) = o := ⟨_, rfl⟩
         have how : IntKind.i32.wrap (lv : Int) = o := ho
         obtain ⟨hpn, hCBb, s4, r4, hCBl⟩ := hpt1.put HlI.out hpm hkn o
         have hps := patch_step T.code T.calls (fun f => T.start[f]?) (fun i => left (.int .i64 (i : Int))) hl hm
         rw [hlv] at hps
         rw [show ((some lv : Option Nat).getD 0) = lv from rfl, ho] at hps
         rw [hps] at hpn
         have hlf : (fun i : Nat => left (.int .i64 (i : Int)) && decide (i ≠ k)) = fun i : Nat => left (.int .i64 (i : Int)) && !(Lit.int .i64 (i : Int)).sameKey (.int .i64 (k : Int)) := by
          funext i
          rw [sameKey_nat]
          simp
         rw [hlf] at hpn
         have e0 : v1.cell? ⟨base + 1, 0, none⟩ = some (.slice (some ⟨CB, 0, none⟩) nC vc) := (hpt1.other (i := 0) (by omega) Hil0.out).2.cell 0
         have e1 : v1.cell? ⟨base + 1, 1, none⟩ = some (.slice (some ⟨SB, 0, none⟩) Z stc) := (hpt1.other (i := 0) (by omega) Hil0.out).2.cell 1
         have es : v1.cell? ⟨SB, l, none⟩ = some (.int .i64 (lv : Nat)) := by
          rw [Addr.add_mid, Nat.zero_add] at hcu
          exact hcu
         have hb1 : Below base w8 v1 := hbr.out.grown hg1 (by have := hs1; have := hrg.out.lt; omega) (fun b e => by injection e with e; omega)
         have hbn := (hb1.drew).setCell (p := ⟨CB, k * 5 + 4, none⟩) hCBb (.int .i32 o)
         have hrg2 := (World.ranges.kept (w := v1) (w' := v1.drew.setCell ⟨CB, k * 5 + 4, none⟩ (.int .i32 o)) hrg1 (row := some CB) (by exact (only_drew (World.grownBy.refl v1 _)).trans (grown_setCell v1.drew ⟨CB, k * 5 + 4, none⟩ (.int .i32 o))) (fun e => by injection e with e; exact hCBJ e.symm) (fun e => by injection e with e; exact hCBr e.symm))
         have hkI : (k : Int) < nC := by omega
         have hlI2 : (l : Int) < Z := by omega
         obtain ⟨Hpt1, Hlv, Ho, Hpn, Hps, Hlf, Hb1, Hbn⟩ := hd8 hpt1 hlv ho hpn hps hlf hb1 hbn
         obtain ⟨Hrg1, Hrg2, Hm, Hpm, Hhas, Hl, Hat, Hpt⟩ := hd8 hrg1 hrg2 hm hpm hhas hl hat hpt
         obtain ⟨Hrg, Hbr, Hmm2, Hu, Hcu, Hso1⟩ := hd6 hrg hbr hmm2 hu hcu hso1
         clear hso1 hcu hu hmm2 hbr hrg hpt hat hl hhas hpm hm hrg2 hrg1 hbn hb1 hlf hps hpn ho hlv hpt1
         go_upto_region 24 with fail
         refine wp_region_lateM (S := fun W => W.cell? ⟨base + 1, 0, none⟩ = some (.slice (some ⟨CB, 0, none⟩) nC vc) ∧ W.cell? ⟨base + 1, 1, none⟩ = some (.slice (some ⟨SB, 0, none⟩) Z stc) ∧ W.cell? ⟨SB, l, none⟩ = some (.int .i64 (lv : Nat))) #[false, false, false, false, false, false, false, false, false, false, false, false, false, false, false, true] (by kernel_rfl) ⟨e0, e1, es⟩ (fun hHeld => ?_)
         refine wpAnyM_tk 0 ?_
         refine wpAnyM_tk 1 ?_
         refine wpAnyM_tk 2 ?_
         refine wpAnyM_tk 3 ?_
         refine wpAnyM_tk 4 ?_
         refine wpAnyM_tk 5 ?_
         refine wpAnyM_tk 6 ?_
         refine wpAnyM_tk 7 ?_
         refine wpAnyM_tk 8 ?_
         refine wpAnyM_tk 9 ?_
         refine wpAnyM_tk 10 ?_
         refine wpAnyM_tk 11 ?_
         refine wpAnyM_tk 12 ?_
         refine wpAnyM_tk 13 ?_
         refine wpAnyM_tk 14 ?_
         refine wpAnyM_last (i := 15) (by kernel_rfl) rfl ⟨15, by kernel_rfl, by kernel_rfl⟩ (fun K hK => ?_)
         go_simp
         refine hK.out _ _ ?_
         clear hK K
         try simp only [Act.put, List.getElem_toArray, List.getElem_cons_zero, List.getElem_cons_succ, List.setIfInBounds_toArray, List.set_cons_zero, List.set_cons_succ]
         refine wpAnyM_done (by kernel_rfl) ?_ _
         go_wp2_with fail
         have hrg3 : ((v1.setCell ⟨CB, k * 5 + 4, none⟩ (.int .i32 o)).drew).ranges Tryd.prog 3 (plainElem Tryd.prog 3) Mc r T.cn D (fun z => left z && !z.sameKey (.int .i64 (k : Int))) cnt1 := Hrg2.out
         refine ⟨⟨fun z => left z && !z.sameKey (.int .i64 (k : Int)), cnt1, Lib.hid hrg3, Lib.hid Hpn.out, Lib.hid Hbn.out⟩, ?_⟩
         rw [hrg3.left_eq, Hrg.out.left_eq]
         exact hlt
end Go.Proofs.YtnfjjliiajaijaaDoor

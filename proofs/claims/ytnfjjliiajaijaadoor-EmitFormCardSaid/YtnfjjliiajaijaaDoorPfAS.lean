/- Part of the proof, named by its texts: Stp FnP FnM FnR. No condition of its own. -/
import Derived.Test.YtnfjjliiajaijaaDoorPfAO
import Derived.Test.YtnfjjliiajaijaaDoorPfAP
import Derived.Test.YtnfjjliiajaijaaDoorPfAR
import Derived.Test.YtnfjjliiajaijaaDoorPfAA
import Derived.Maps.RangeWalk
set_option linter.unusedVariables false
set_option linter.unusedSimpArgs false
set_option maxRecDepth 100000
set_option maxHeartbeats 16000000
namespace Go.Proofs.YtnfjjliiajaijaaDoor
open Go.RowKit
structure zfa (m : zaw) : Prop where
 op : m.op ≠ 9
 good : zaP m = true
 wf : m.Wf
theorem zcb {op d a b v : Int} {cs : List Int} (h : zaS op = some cs) (hd : zbQ cs 68 = true ∨ d = 0) (ha : zbQ cs 65 = true ∨ a = 0) (hb : zbQ cs 66 = true ∨ b = 0) (hv : zbQ cs 73 = true ∨ v = 0)
  (d0 : 0 <= d /\ d <= 15) (a0 : 0 <= a /\ a <= 15) (b0 : 0 <= b /\ b <= 15) (hs : za2 op v = true) : zaP ⟨op, d, a, b, v⟩ = true := by
 unfold zaP;simp only [h];unfold zap;simp only [Bool.and_eq_true, Bool.or_eq_true, decide_eq_true_eq, beq_iff_eq, Bool.not_true, Bool.false_eq_true, false_or, Bool.not_false, true_or, and_true];exact ⟨⟨⟨⟨⟨hd, d0⟩, ha, a0⟩, hb, b0⟩, hv⟩, hs⟩
theorem zeU (v : Int) : -2147483648 <= w32 v /\ w32 v <= 2147483647 := by
 unfold w32;rw [IntKind.wrap_i32]; omega
theorem zg2 {v : Int} (h0 : -2147483648 <= v) (h1 : v <= 2147483647) : w32 v = v := by
 unfold w32;rw [IntKind.wrap_i32]; omega
theorem zeg {op d a b v : Int} (h : 0 <= op /\ op <= 255) (hd : 0 <= d /\ d <= 15) (ha : 0 <= a /\ a <= 15) (hb : 0 <= b /\ b <= 15) (hv : -2147483648 <= v /\ v <= 2147483647) : zaw.Wf ⟨op, d, a, b, v⟩ :=
 ⟨h, by show _ <= d /\ d <= _; omega, by show _ <= a /\ a <= _; omega, by show _ <= b /\ b <= _; omega, hv⟩
section
variable {d a b : Nat} {v : Int}
theorem zmR (hd : d <= 15) (hv : -2147483648 <= v /\ v <= 2147483647) : zfa ⟨1, d, 0, 0, v⟩ := ⟨by show (1 : Int) ≠ 9; omega, zcb (cs := [68, 73]) rfl (.inl rfl) (.inr rfl) (.inr rfl) (.inl rfl) (by omega) (by omega) (by omega) rfl, zeg (by omega) (by omega) (by omega) (by omega) hv⟩
theorem znk (hd : d <= 15) (hv : -2147483648 <= v /\ v <= 2147483647) : zfa ⟨2, d, 0, 0, v⟩ := ⟨by show (2 : Int) ≠ 9; omega, zcb (cs := [68, 73]) rfl (.inl rfl) (.inr rfl) (.inr rfl) (.inl rfl) (by omega) (by omega) (by omega) rfl, zeg (by omega) (by omega) (by omega) (by omega) hv⟩
theorem znj (hd : d <= 15) (ha : a <= 15) : zfa ⟨3, d, a, 0, 0⟩ := ⟨by show (3 : Int) ≠ 9; omega, zcb (cs := [68, 65]) rfl (.inl rfl) (.inl rfl) (.inr rfl) (.inr rfl) (by omega) (by omega) (by omega) rfl, zeg (by omega) (by omega) (by omega) (by omega) (by omega)⟩
theorem zh1 (hd : d <= 15) (ha : a <= 15) (hv : -2147483648 <= v /\ v <= 2147483647) : zfa ⟨4, d, a, 0, v⟩ := ⟨by show (4 : Int) ≠ 9; omega, zcb (cs := [68, 65, 73]) rfl (.inl rfl) (.inl rfl) (.inr rfl) (.inl rfl) (by omega) (by omega) (by omega) rfl, zeg (by omega) (by omega) (by omega) (by omega) hv⟩
theorem zmP (ha : a <= 15) (hb : b <= 15) (hv : -2147483648 <= v /\ v <= 2147483647) : zfa ⟨5, 0, a, b, v⟩ := ⟨by show (5 : Int) ≠ 9; omega, zcb (cs := [65, 66, 73]) rfl (.inr rfl) (.inl rfl) (.inl rfl) (.inl rfl) (by omega) (by omega) (by omega) rfl, zeg (by omega) (by omega) (by omega) (by omega) hv⟩
theorem zmm (hd : d <= 15) (ha : a <= 15) (hv : -2147483648 <= v /\ v <= 2147483647) : zfa ⟨6, d, a, 0, v⟩ := ⟨by show (6 : Int) ≠ 9; omega, zcb (cs := [68, 65, 73]) rfl (.inl rfl) (.inl rfl) (.inr rfl) (.inl rfl) (by omega) (by omega) (by omega) rfl, zeg (by omega) (by omega) (by omega) (by omega) hv⟩
theorem zmQ : zfa ⟨10, 0, 0, 0, 0⟩ := ⟨by show (10 : Int) ≠ 9; omega, zcb (cs := []) rfl (.inr rfl) (.inr rfl) (.inr rfl) (.inr rfl) (by omega) (by omega) (by omega) rfl, zeg (by omega) (by omega) (by omega) (by omega) (by omega)⟩
theorem ziB {o : Int} (ho : o = 11 ∨ o = 12) (hv : 0 <= v /\ v <= 65536 /\ v % 8 = 0) : zfa ⟨o, 0, 0, 0, v⟩ := by
 have hs : za2 o v = true := by
  unfold za2;rw [if_pos ho];simp only [Bool.and_eq_true, decide_eq_true_eq]
  omega
 rcases ho with rfl | rfl
 ·exact ⟨by show (11 : Int) ≠ 9; omega, zcb (cs := [73]) rfl (.inr rfl) (.inr rfl) (.inr rfl) (.inl rfl) (by omega) (by omega) (by omega) hs, zeg (by omega) (by omega) (by omega) (by omega) (by omega)⟩
 ·exact ⟨by show (12 : Int) ≠ 9; omega, zcb (cs := [73]) rfl (.inr rfl) (.inr rfl) (.inr rfl) (.inl rfl) (by omega) (by omega) (by omega) hs, zeg (by omega) (by omega) (by omega) (by omega) (by omega)⟩
theorem zeX (hd : d <= 15) (ha : a <= 15) (hb : b <= 15) (hv : 0 <= v /\ v <= 2147483647) : zfa ⟨13, d, a, b, v⟩ := by
 have hs : za2 13 v = true := by
  unfold za2;rw [if_neg (by omega), if_pos rfl];simp only [decide_eq_true_eq]
  omega
 exact ⟨by show (13 : Int) ≠ 9; omega, zcb (cs := [68, 65, 66, 73]) rfl (.inl rfl) (.inl rfl) (.inl rfl) (.inl rfl) (by omega) (by omega) (by omega) hs, zeg (by omega) (by omega) (by omega) (by omega) (by omega)⟩
theorem zmS {y : Nat} (h : 7 <= y /\ y <= 20) (hd : d <= 15) (ha : a <= 15) (hb : b <= 15) : zfa ⟨32 + (y : Int), d, a, b, 0⟩ := by
 have hl : zaS (32 + (y : Int)) = some [68, 65, 66] := by
  unfold zaS;rw [if_neg (by omega), if_neg (by omega), if_neg (by omega), if_neg (by omega), if_neg (by omega), if_neg (by omega), if_neg (by omega), if_neg (by omega), if_pos (by omega)]
 have hs : za2 (32 + (y : Int)) 0 = true := by
  unfold za2;rw [if_neg (by omega), if_neg (by omega)]
 exact ⟨by show (32 + (y : Int)) ≠ 9; omega, zcb hl (.inl rfl) (.inl rfl) (.inl rfl) (.inr rfl) (by omega) (by omega) (by omega) hs, zeg (by omega) (by omega) (by omega) (by omega) (by omega)⟩
end
inductive Steps (F : Nat) (P : List Int -> Prop) : EmS -> EmS -> Prop
 | refl (E : EmS) : Steps F P E E
 | put {E E' : EmS} {m : zaw} (h : Steps F P E E') (hm : zfa m) : Steps F P E (E'.put [m])
 | jump {E E' : EmS} {op a l : Nat} (h : Steps F P E E') (ho : op = 7 /\ a = 0 ∨ op = 8 /\ a <= 15) : Steps F P E (E'.jump op a l)
 | mark {E E' : EmS} (h : Steps F P E E') (l : Nat) : Steps F P E (E'.mark l)
 | zero {E E' : EmS} (h : Steps F P E E') : Steps F P E E'.zero
 | nul {E E' : EmS} (h : Steps F P E E') : Steps F P E E'.nul
 | call {E E' : EmS} {f : Nat} {L : List Int} (h : Steps F P E E') (hf : f < F) (hL : P L) : Steps F P E (((E'.call f).put [⟨9, 0, 0, 0, 0⟩]).site L)
section
variable {F : Nat} {P : List Int -> Prop} {E E' E'' : EmS} {d a b p r : Nat} {v : Int}
theorem Steps.trans (h : Steps F P E E') (h' : Steps F P E' E'') : Steps F P E E'' := by
 induction h' with
 | refl => exact h
 | put _ hm ih => exact ih.put hm
 | jump _ ho ih => exact ih.jump ho
 | mark _ l ih => exact ih.mark l
 | zero _ ih => exact ih.zero
 | nul _ ih => exact ih.nul
 | call _ hf hL ih => exact ih.call hf hL
theorem Steps.store (h : Steps F P E E') (o : Int) (hr : r <= 15) : Steps F P E (E'.store o r) := h.put (zmP (a := 14) (by omega) hr (zeU o))
theorem Steps.read (h : Steps F P E E') (p : Nat) (hr : r <= 15) : Steps F P E (E'.read p r) := by
 unfold EmS.read
 split
 ·exact h
 ·exact h.put (zh1 (a := 14) hr (by omega) (zeU _))
theorem Steps.done (h : Steps F P E E') (p : Nat) (hr : r <= 15) : Steps F P E (E'.done p r) := by
 unfold EmS.done
 split
 ·exact h
 ·exact h.store _ hr
theorem Steps.number (h : Steps F P E E') (v : Int) (hr : r <= 15) : Steps F P E (E'.number r v) := by
 unfold EmS.number
 split
 ·exact (h.put (zmR hr (zgD _))).put (znk hr (zgD _))
 ·exact h.put (zmR hr (zgD _))
theorem zb3 (p : Nat) {i : Nat} (hi : i <= 15) : zax p i <= 15 := by unfold zax; split <;> omega
theorem Steps.move (h : Steps F P E E') (d a : Nat) : Steps F P E (E'.move d a) := by
 unfold EmS.move
 split
 ·next hh => exact h.put (znj (by omega) (by omega))
 ·split
  ·exact h.read a (by omega)
  ·exact (h.read a (by omega)).done d (zb3 a (by omega))
theorem Steps.alu (h : Steps F P E E') {y : Nat} (hy : 7 <= y /\ y <= 20) (d a b : Nat) {r s : Nat} (hr : r <= 15) (hs : s <= 15) : Steps F P E (E'.alu y d a b r s) := by
 unfold EmS.alu;exact (h.put (by have := zmS hy (zb3 d (show 13 <= 15 by omega)) hr hs; simpa using this)).done d (zb3 d (by omega))
theorem Steps.reckon (h : Steps F P E E') {y : Nat} (hy : 7 <= y /\ y <= 20) (d a b : Nat) : Steps F P E (E'.reckon y d a b) := by
 unfold EmS.reckon;have h1 := (h.read a (show 13 <= 15 by omega)).read b (show 15 <= 15 by omega);dsimp only
 split
 ·exact (h1.zero.jump (.inr ⟨rfl, zb3 b (by omega)⟩)).alu hy d a b (zb3 a (by omega)) (zb3 b (by omega))
 ·exact h1.alu hy d a b (zb3 a (by omega)) (zb3 b (by omega))
theorem Steps.memory (h : Steps F P E E') (o d a b : Nat) : Steps F P E (E'.memory o d a b) := by
 unfold EmS.memory;have h1 := ((h.read a (show 13 <= 15 by omega)).nul).jump (op := 8) (a := zax a 13) (l := 1048578) (.inr ⟨rfl, zb3 a (by omega)⟩);dsimp only
 split
 ·exact (h1.read b (show 15 <= 15 by omega)).put (zmP (zb3 a (by omega)) (zb3 b (by omega)) (by omega))
 ·exact (h1.put (zh1 (zb3 d (by omega)) (zb3 a (by omega)) (by omega))).done d (zb3 d (by omega))
theorem Steps.system (h : Steps F P E E') (o d e a f : Nat) (hf : f < 16) : Steps F P E (E'.system o d e a f) := by
 unfold EmS.system
 split
 ·rw [zg2 (by omega) (by omega)];exact h.put (zeX (d := 0) (a := 0) (b := 0) (by omega) (by omega) (by omega) (by omega))
 ·split
  ·exact (h.put (zeX (a := 0) (b := 0) (zb3 d (by omega)) (by omega) (by omega) (by omega))).done d (zb3 d (by omega))
  ·split
   ·exact ((h.put (zeX (a := 0) (zb3 d (by omega)) (by omega) (zb3 e (by omega)) (by omega))).done d (zb3 d (by omega))).done e (zb3 e (by omega))
   ·refine (h.read a (show 13 <= 15 by omega)).put (zeX (d := 0) (b := 0) (by omega) (zb3 a (by omega)) (by omega) ?_);unfold ziv
    repeat' split
    all_goals omega
theorem Steps.node {gs : List zad} {g : zad} {x : zam} {ns : Nat} {res : Int} {L : List Int} (h : Steps F P E E') (ok : zlV gs g x) (hF : gs.length = F) (hF16 : F <= 16) (hL : P L) (hns : ns <= 1048576) (hc : g.cells <= 1048576) (i : Nat) : Steps F P E (E'.node ns res i L x) := by
 have hm := h.mark i;obtain ⟨o1, o2⟩ := ok.op1;unfold EmS.node
 by_cases q1 : x.op = 1
 ·rw [if_pos q1]; exact (hm.number _ (zb3 _ (by omega))).done _ (zb3 _ (by omega))
 rw [if_neg q1]
 by_cases q2 : x.op = 2
 ·rw [if_pos q2]; exact hm.move _ _
 rw [if_neg q2]
 by_cases q3 : x.op = 3
 ·rw [if_pos q3]; have := ok.by_ q3; exact hm.reckon (by omega) _ _ _
 rw [if_neg q3]
 by_cases q4 : x.op = 4
 ·rw [if_pos q4]; have := ok.cell (by omega); exact (hm.put (zh1 (a := 14) (zb3 _ (by omega)) (by omega) (by omega))).done _ (zb3 _ (by omega))
 rw [if_neg q4]
 by_cases q5 : x.op = 5
 ·rw [if_pos q5]; exact (hm.read _ (show 13 <= 15 by omega)).store _ (zb3 _ (by omega))
 rw [if_neg q5]
 by_cases q6 : x.op = 6
 ·rw [if_pos q6]; have := ok.cell (by omega); exact (hm.put (zmm (a := 14) (zb3 _ (by omega)) (by omega) (by omega))).done _ (zb3 _ (by omega))
 rw [if_neg q6]
 by_cases q7 : x.op = 7
 ·rw [if_pos q7]; exact hm.memory _ _ _ _
 rw [if_neg q7]
 by_cases q8 : x.op = 8
 ·rw [if_pos q8]; exact hm.memory _ _ _ _
 rw [if_neg q8]
 by_cases q9 : x.op = 9
 ·rw [if_pos q9]; exact (hm.read _ (show 13 <= 15 by omega)).jump (.inr ⟨rfl, zb3 _ (by omega)⟩)
 rw [if_neg q9]
 by_cases q10 : x.op = 10
 ·rw [if_pos q10]; exact hm.jump (.inl ⟨rfl, rfl⟩)
 rw [if_neg q10]
 by_cases q11 : x.op = 11
 ·rw [if_pos q11]; have := ok.f (.inl q11); exact hm.call (by omega) hL
 rw [if_neg q11]
 by_cases q12 : x.op = 12
 ·rw [if_pos q12]
  split
  ·exact hm.jump (.inl ⟨rfl, rfl⟩)
  ·exact ((hm.read _ (show 13 <= 15 by omega)).store _ (zb3 _ (by omega))).jump (.inl ⟨rfl, rfl⟩)
 rw [if_neg q12]
 by_cases q13 : x.op = 13
 ·rw [if_pos q13]; have := ok.f (.inr q13); exact hm.system _ _ _ _ _ (by omega)
 rw [if_neg q13]
 by_cases q14 : x.op = 14
 ·rw [if_pos q14]; exact hm.system _ _ _ _ _ (by omega)
 rw [if_neg q14]
 by_cases q15 : x.op = 15
 ·rw [if_pos q15]; exact hm.system _ _ _ _ _ (by omega)
 rw [if_neg q15]
 by_cases q16 : x.op = 16
 ·rw [if_pos q16]; exact hm.system _ _ _ _ _ (by omega)
 rw [if_neg q16]
 by_cases q17 : x.op = 17
 ·rw [if_pos q17]; exact hm.system _ _ _ _ _ (by omega)
 rw [if_neg q17];exact hm.system _ _ _ _ _ (by omega)
def EmS.nodes (E : EmS) (ns : Nat) (res : Int) (Lf : Nat -> List Int) (l : List zam) : EmS := (l.zipIdx).foldl (fun E p => E.node ns res p.2 (Lf p.2) p.1) E
theorem zdP (E : EmS) (ns : Nat) (res : Int) (Lf : Nat -> List Int) (l : List zam) (x : zam) : E.nodes ns res Lf (l ++ [x]) = (E.nodes ns res Lf l).node ns res l.length (Lf l.length) x := by
 unfold EmS.nodes;rw [List.zipIdx_append, List.foldl_append];simp
theorem Steps.nodes {gs : List zad} {g : zad} {ns : Nat} {res : Int} {Lf : Nat -> List Int} (h : Steps F P E E') (hF : gs.length = F) (hF16 : F <= 16) (hns : ns <= 1048576) (hc : g.cells <= 1048576) (l : List zam) (ok : ∀ x ∈ l, zlV gs g x) (hL : ∀ i, P (Lf i)) : Steps F P E (E'.nodes ns res Lf l) := by
 suffices hs : ∀ n, n <= l.length -> Steps F P E (E'.nodes ns res Lf (l.take n)) by
  have := hs l.length (Nat.le_refl _)
  rwa [List.take_length] at this
 intro n
 induction n with
 | zero => intro _; rw [List.take_zero]; exact h
 | succ n ih =>
  intro hn;rw [List.take_add_one, List.getElem?_eq_getElem (by omega), Option.toList_some, zdP];exact (ih (by omega)).node (ok _ (List.getElem_mem _)) hF hF16 (hL _) hns hc _
theorem Steps.saves (l : List Mv) (hl : ∀ s ∈ l, s.1.toNat <= 15) : ∀ {E' : EmS}, Steps F P E E' -> Steps F P E (E'.saves l) := by
 induction l with
 | nil => intro E' h; exact h
 | cons s l ih => intro E' h; exact ih (fun s hs => hl s (List.mem_cons_of_mem _ hs)) (h.store _ (hl s List.mem_cons_self))
theorem Steps.clear (l : List Int) : ∀ {E' : EmS}, Steps F P E E' -> Steps F P E (E'.clear l) := by
 induction l with
 | nil => intro E' h; exact h
 | cons s l ih => intro E' h; exact ih (h.store _ (show 13 <= 15 by omega))
theorem Steps.fetch (l : List Mv) (hl : ∀ s ∈ l, s.1.toNat <= 15) : ∀ {E' : EmS}, Steps F P E E' -> Steps F P E (E'.fetch l) := by
 induction l with
 | nil => intro E' h; exact h
 | cons s l ih => intro E' h; exact ih (fun s hs => hl s (List.mem_cons_of_mem _ hs)) (h.put (zh1 (a := 14) (hl s List.mem_cons_self) (by omega) (zeU _)))
theorem Steps.inits (ns : Nat) (l : List Int) (hl : l.length <= 16) (h : Steps F P E E') : Steps F P E (E'.inits ns l) := by
 suffices hs : ∀ n, n <= l.length -> Steps F P E (E'.inits ns (l.take n)) by
  have := hs l.length (Nat.le_refl _)
  rwa [List.take_length] at this
 intro n
 induction n with
 | zero => intro _; rw [List.take_zero]; exact h
 | succ n ih =>
  intro hn;rw [List.take_add_one, List.getElem?_eq_getElem (by omega), Option.toList_some, zeM]
  split
  ·exact (ih (by omega)).store _ (by rw [List.length_take]; omega)
  ·exact ih (by omega)
theorem Steps.begin {X : EmX} (init : List Int) (h : Steps F P E E') (hs : ∀ s ∈ X.saves, s.1.toNat <= 15) (hi : init.length <= 16) (hz : 0 <= X.size /\ X.size <= 65536 /\ X.size % 8 = 0) : Steps F P E (E'.begin X init) := by
 unfold EmS.begin;dsimp only;rw [zg2 (by omega) (by omega)];have h1 := (h.put (ziB (.inl rfl) hz)).saves X.saves hs;refine Steps.inits _ _ hi (Steps.clear _ ?_)
 split
 ·exact h1
 ·exact h1.number 0 (by omega)
theorem Steps.panics (h : Steps F P E E') (l n : Nat) (v : Int) : Steps F P E (E'.panics l n v) := by
 unfold EmS.panics
 split
 ·exact h
 ·exact ((h.mark l).number v (show 13 <= 15 by omega)).put (zeX (d := 0) (a := 13) (b := 0) (by omega) (by omega) (by omega) (by omega))
theorem zmi (E : EmS) (m n : zaw) : E.put [m, n] = (E.put [m]).put [n] := by unfold EmS.put; simp
theorem Steps.leave {X : EmX} (r : Bool) (h : Steps F P E E') (hs : ∀ s ∈ X.saves, s.1.toNat <= 15) (hz : 0 <= X.size /\ X.size <= 65536 /\ X.size % 8 = 0) : Steps F P E (E'.leave X r) := by
 unfold EmS.leave;dsimp only;rw [zg2 (v := X.size) (by omega) (by omega), zmi];refine ((Steps.fetch X.saves hs ?_).put (ziB (.inr rfl) hz)).put zmQ
 have h1 : Steps F P E (if X.defers = true then (E'.mark 1048576).put [⟨13, 0, 0, 0, 8⟩] else E'.mark 1048576) := by
  split
  ·exact (h.mark _).put (zeX (d := 0) (a := 0) (b := 0) (by omega) (by omega) (by omega) (by omega))
  ·exact h.mark _
 split
 ·exact h1.put (zh1 (d := 0) (a := 14) (by omega) (by omega) (zeU _))
 ·exact h1
theorem Steps.resume {X : EmX} (r : Bool) (keep : Int) (h : Steps F P E E') : Steps F P E (E'.resume X r keep) := by
 unfold EmS.resume;dsimp only;refine Steps.jump ?_ (.inl ⟨rfl, rfl⟩)
 split
 ·refine Steps.store ?_ _ (by omega)
  split
  ·exact h.put (zh1 (d := 13) (a := 14) (by omega) (by omega) (zeU _))
  ·exact h.number 0 (by omega)
 ·exact h
theorem Steps.end_ {X : EmX} (r : Bool) (keep : Int) (h : Steps F P E E') (hs : ∀ s ∈ X.saves, s.1.toNat <= 15) (hz : 0 <= X.size /\ X.size <= 65536 /\ X.size % 8 = 0) : Steps F P E (E'.end_ X r keep) := by
 unfold EmS.end_;dsimp only;refine Steps.panics (Steps.panics ?_ _ _ _) _ _ _
 split
 ·exact (h.leave r hs hz).resume r keep
 ·exact h.leave r hs hz
end
structure ziq where
 start : Nat
 stop : Nat
 size : Int
 params : List Int
 saves : List Mv
 resume : Int
structure zco where
 code : List zaw
 calls : Nat -> Option Nat
 cn : Nat
 sites : List (Nat × List Int)
 start : List Nat
 rows : List ziq
def zdN (r : ziq) (pv sv : Value) : List Value := [.int .i64 (r.start : Nat), .int .i64 (r.stop : Nat), .int .i64 r.size, pv, sv, .int .i64 r.resume]
def zaQ (rows : List ziq) (ps : List (Value × Value)) : List Value := (rows.zip ps).flatMap fun p => zdN p.1 p.2.1 p.2.2
def zcf (l : List Int) : List Value := l.map (Value.int .u8)
def zdX (rows : List ziq) (ps : List (Value × Value)) : List It := (rows.zip ps).flatMap fun p => [.row p.2.1 87 1 p.1.params.length (zcf p.1.params), .row p.2.2 50 2 p.1.saves.length (za9 p.1.saves)]
def zcn (ep : Nat) (T : zco) (cv stv fv sv : Value) (Mc : Nat) (lvs : List Value) (ps : List (Value × Value)) : List It :=
 [.blk ep 67 #[cv, stv, .map (some Mc), fv, sv], .row cv 71 5 T.code.length (T.code.flatMap zaW), .map Mc T.cn T.calls] ++
 ([.row sv 112 2 T.sites.length (zaC T.sites lvs)] ++ (zaM T.sites lvs ++ ([.row stv 3 1 T.start.length (zd9 T.start), .row fv 48 6 T.rows.length (zaQ T.rows ps)] ++ zdX T.rows ps)))
def zbZ (w : World) (base ep : Nat) (T : zco) (rest : List It) : Prop :=
 ∃ cv stv fv sv Mc lvs ps, lvs.length = T.sites.length /\ ps.length = T.rows.length /\ zaA w base (zcn ep T cv stv fv sv Mc lvs ps ++ rest)
def zbi (l : List zam) : Bool := l.any fun x => decide (x.op = 13)
def xOf (g : zad) : EmX := ⟨0, 0, ⟨0, 0, none⟩, zaG g, zaU g, (zaF g : Nat), zdB g, zdw (zcK g.nodes 6) (zaG g + zaU g), undef, undef, undef, zbi g.nodes, undef, undef, undef⟩
def znc (g : zad) (p : Nat) : Int := g.kinds.getD p 0
def zct (g : zad) (i : Nat) : List Int := zdi (znc g) (zbB g.kinds.length (zhl g.kinds.length g.nodes (2 * i + 1)))
def zbc (T : zco) : EmS := ⟨T.code, T.calls, T.cn, T.sites, fun _ => none, 0, fun _ => none, 0, [], []⟩
def zdb (T : zco) (g : zad) : EmS := ((zbc T).begin (xOf g) g.init).nodes (zaG g) (zdB g) (zct g) g.nodes
def zdI (T : zco) (g : zad) : EmS := (zdb T g).end_ (xOf g) g.result g.keep
def zaV (jumps labels : Nat -> Option Nat) (left : Nat -> Bool) (i : Nat) (m : zaw) : zaw :=
 match jumps i with
 | none => m
 | some l => if left i then m else { m with imm := w32 (((labels l).getD 0 : Nat) : Int) }
def zcd (code : List zaw) (jumps labels : Nat -> Option Nat) (left : Nat -> Bool) : List zaw := (code.zipIdx).map fun p => zaV jumps labels left p.2 p.1
def zhQ (T : zco) (g : zad) : ziq := ⟨T.code.length, (zdI T g).code.length, (zaF g : Nat), g.params.map fun p => g.kinds.getD p.toNat 0, zdw (zcK g.nodes 6) (zaG g + zaU g), (zdb T g).resumeAt (xOf g) g.result⟩
def zco.fn (T : zco) (g : zad) : zco :=
 let E := zdI T g
 ⟨zcd E.code E.jumps E.labels (fun _ => false), E.calls, E.cn, E.sites, T.start ++ [T.code.length], T.rows ++ [zhQ T g]⟩
theorem BdL.iter {n : Nat} {l : List zam} (hr : ∀ x ∈ l, ∀ t ∈ zaT x, 0 <= t /\ t < n) : ∀ (f : Nat) {S : ze4}, BdL n S -> BdL n (zfE n l f S)
 | 0, S, h => h
 | f + 1, S, h => by
  rw [zfE]
  split
  ·exact BdL.iter hr f (h.sweep hr)
  ·exact h.sweep hr
theorem BdL.live {n : Nat} {l : List zam} (hr : ∀ x ∈ l, ∀ t ∈ zaT x, 0 <= t /\ t < n) : BdL n (zhl n l) := BdL.iter hr _ (BdL.none n)
theorem zbH (code : List zaw) (j l : Nat -> Option Nat) (f : Nat -> Bool) : (zcd code j l f).length = code.length := by simp [zcd]
theorem zbR (code : List zaw) (j l : Nat -> Option Nat) (f : Nat -> Bool) (i : Nat) : (zcd code j l f)[i]? = (code[i]?).map (zaV j l f i) := by
 unfold zcd;rw [List.getElem?_map, List.getElem?_zipIdx]
 cases code[i]? <;> simp
theorem zen (code : List zaw) (j l : Nat -> Option Nat) (f : Nat -> Bool) (h : ∀ i, j i ≠ none -> f i = true) : zcd code j l f = code := by
 refine List.ext_getElem? fun i => ?_
 rw [zbR]
 rcases hc : code[i]? with _ | m
 ·rfl
 ·show some (zaV j l f i m) = some m;unfold zaV
  rcases hj : j i with _ | t
  ·rfl
  ·simp [h i (by rw [hj]; simp)]
theorem zf7 (code : List zaw) (j l : Nat -> Option Nat) (f : Nat -> Bool) {i t : Nat} {m : zaw} (hj : j i = some t) (hm : code[i]? = some m) :
  (zcd code j l f).set i { m with imm := w32 (((l t).getD 0 : Nat) : Int) } = zcd code j l (fun k => f k && decide (k ≠ i)) := by
 refine List.ext_getElem? fun k => ?_
 rw [List.getElem?_set, zbH, zbR, zbR];have hil := (List.getElem?_eq_some_iff.1 hm).1
 by_cases hk : i = k
 ·subst hk;rw [if_pos rfl, if_pos hil, hm];show some _ = some (zaV j l _ i m);unfold zaV;rw [hj];simp
 ·rw [if_neg hk]
  rcases hc : code[k]? with _ | x
  ·rfl
  ·show some (zaV j l f k x) = some (zaV j l _ k x);unfold zaV
   rcases hjk : j k with _ | u
   ·rfl
   ·simp [show k ≠ i from fun e => hk e.symm]
section
variable {F : Nat} {P : List Int -> Prop} {E E' : EmS}
theorem Steps.len (h : Steps F P E E') : E.code.length <= E'.code.length := by
 induction h with
 | refl => exact Nat.le_refl _
 | put _ _ ih => unfold EmS.put; simp only [List.length_append]; omega
 | jump _ _ ih => unfold EmS.jump; simp only [List.length_append]; omega
 | mark _ _ ih => exact ih
 | zero _ ih => exact ih
 | nul _ ih => exact ih
 | call _ _ _ ih => unfold EmS.site EmS.put EmS.call; simp only [List.length_append]; omega
theorem zfp {f : Nat -> Option Nat} {k v i l : Nat} (h : upd f k v i = some l) : (i = k /\ l = v) ∨ f i = some l := by
 by_cases hi : i = k
 ·subst hi;rw [zcY] at h;injection h with h;exact .inl ⟨rfl, h.symm⟩
 ·rw [upd_ne hi] at h; exact .inr h
theorem Steps.jumps (h : Steps F P E E') : ∀ i l, E'.jumps i = some l -> E.jumps i = some l ∨ (E.code.length <= i /\ i < E'.code.length) := by
 induction h with
 | refl => intro i l hi; exact .inl hi
 | put _ _ ih =>
  intro i l hi
  rcases ih i l hi with h | h
  ·exact .inl h
  ·refine .inr ⟨h.1, ?_⟩;unfold EmS.put; simp only [List.length_append]; omega
 | jump h _ ih =>
  intro i l hi;have hl := h.len
  rcases zfp hi with ⟨rfl, _⟩ | hi
  ·refine .inr ⟨hl, ?_⟩;unfold EmS.jump; simp
  ·rcases ih i l hi with h | h
   ·exact .inl h
   ·refine .inr ⟨h.1, ?_⟩;unfold EmS.jump; simp only [List.length_append]; omega
 | mark _ _ ih => exact ih
 | zero _ ih => exact ih
 | nul _ ih => exact ih
 | call _ _ _ ih =>
  intro i l hi
  rcases ih i l hi with h | h
  ·exact .inl h
  ·refine .inr ⟨h.1, ?_⟩;unfold EmS.site EmS.put EmS.call; simp only [List.length_append]; omega
end
theorem zjV (E : EmS) (y d a b : Nat) : (E.reckon y d a b).sz <= E.sz + 7 := by
 unfold EmS.reckon;have h1 := zbq E a 13;have h2 := zbq (E.read a 13) b 15;dsimp only
 split
 ·have h3 := zl0 (((E.read a 13).read b 15).zero.jump 8 (zax b 15) 1048577) y d a b (zax a 13) (zax b 15);rw [zch, zhK] at h3; omega
 ·have h3 := zl0 ((E.read a 13).read b 15) y d a b (zax a 13) (zax b 15)
  omega
theorem zg3 (E : EmS) (o d a b : Nat) : (E.memory o d a b).sz <= E.sz + 7 := by
 unfold EmS.memory;have h1 := zbq E a 13;dsimp only
 split
 ·rw [zb5];have h2 := zbq (((E.read a 13).nul).jump 8 (zax a 13) 1048578) b 15;rw [zch, zis] at h2; omega
 ·have h2 := zcV ((((E.read a 13).nul).jump 8 (zax a 13) 1048578).put [⟨4, zax d 13, zax a 13, 0, 0⟩]) d (zax d 13);rw [zb5, zch, zis] at h2; omega
theorem zcZ (E : EmS) (o d e a f : Nat) : (E.system o d e a f).sz <= E.sz + 3 := by
 unfold EmS.system
 split
 ·rw [zb5]; omega
 ·split
  ·have := zcV (E.put [⟨13, zax d 13, 0, 0, 3⟩]) d (zax d 13);rw [zb5] at this; omega
  ·split
   ·have h1 := zcV (E.put [⟨13, zax d 13, 0, zax e 15, 6⟩]) d (zax d 13);have h2 := zcV ((E.put [⟨13, zax d 13, 0, zax e 15, 6⟩]).done d (zax d 13)) e (zax e 15);rw [zb5] at h1; omega
   ·rw [zb5];have := zbq E a 13
    omega
theorem zmf (E : EmS) (d a : Nat) : (E.move d a).sz <= E.sz + 2 := by
 unfold EmS.move
 split
 ·rw [zb5]; omega
 ·split
  ·have := zbq E a d; omega
  ·have h1 := zbq E a 13;have h2 := zcV (E.read a 13) d (zax a 13)
   omega
theorem zme (E : EmS) (ns : Nat) (res : Int) (i : Nat) (L : List Int) (x : zam) : (E.node ns res i L x).sz <= E.sz + 9 := by
 have hm := zaJ E i;unfold EmS.node
 by_cases q1 : x.op = 1
 ·rw [if_pos q1];have h1 := zcr (E.mark i) (zax x.d.toNat 13) x.imm;have h2 := zcV ((E.mark i).number (zax x.d.toNat 13) x.imm) x.d.toNat (zax x.d.toNat 13)
  omega
 rw [if_neg q1]
 by_cases q2 : x.op = 2
 ·rw [if_pos q2];have := zmf (E.mark i) x.d.toNat x.a.toNat; omega
 rw [if_neg q2]
 by_cases q3 : x.op = 3
 ·rw [if_pos q3];have := zjV (E.mark i) x.byo.toNat x.d.toNat x.a.toNat x.b.toNat; omega
 rw [if_neg q3]
 by_cases q4 : x.op = 4
 ·rw [if_pos q4];have := zcV ((E.mark i).put [⟨4, zax x.d.toNat 13, 14, 0, 8 * ((ns + x.cell.toNat : Nat) : Int)⟩]) x.d.toNat (zax x.d.toNat 13);rw [zb5] at this; omega
 rw [if_neg q4]
 by_cases q5 : x.op = 5
 ·rw [if_pos q5];rw [zcB];have := zbq (E.mark i) x.a.toNat 13
  omega
 rw [if_neg q5]
 by_cases q6 : x.op = 6
 ·rw [if_pos q6];have := zcV ((E.mark i).put [⟨6, zax x.d.toNat 13, 14, 0, 8 * ((ns + x.cell.toNat : Nat) : Int)⟩]) x.d.toNat (zax x.d.toNat 13);rw [zb5] at this; omega
 rw [if_neg q6]
 by_cases q7 : x.op = 7
 ·rw [if_pos q7];have := zg3 (E.mark i) 7 x.d.toNat x.a.toNat 0; omega
 rw [if_neg q7]
 by_cases q8 : x.op = 8
 ·rw [if_pos q8];have := zg3 (E.mark i) 8 0 x.a.toNat x.b.toNat; omega
 rw [if_neg q8]
 by_cases q9 : x.op = 9
 ·rw [if_pos q9];rw [zch];have := zbq (E.mark i) x.a.toNat 13
  omega
 rw [if_neg q9]
 by_cases q10 : x.op = 10
 ·rw [if_pos q10];rw [zch]; omega
 rw [if_neg q10]
 by_cases q11 : x.op = 11
 ·rw [if_pos q11];rw [zmd, zb5, zhL]; omega
 rw [if_neg q11]
 by_cases q12 : x.op = 12
 ·rw [if_pos q12]
  split
  ·rw [zch]; omega
  ·rw [zch, zcB];have := zbq (E.mark i) x.a.toNat 13
   omega
 rw [if_neg q12]
 by_cases q13 : x.op = 13
 ·rw [if_pos q13];have := zcZ (E.mark i) 13 0 0 0 x.f.toNat; omega
 rw [if_neg q13]
 by_cases q14 : x.op = 14
 ·rw [if_pos q14];have := zcZ (E.mark i) 14 0 0 x.a.toNat 0; omega
 rw [if_neg q14]
 by_cases q15 : x.op = 15
 ·rw [if_pos q15];have := zcZ (E.mark i) 15 x.d.toNat x.e.toNat 0 0; omega
 rw [if_neg q15]
 by_cases q16 : x.op = 16
 ·rw [if_pos q16];have := zcZ (E.mark i) 16 x.d.toNat 0 0 0; omega
 rw [if_neg q16]
 by_cases q17 : x.op = 17
 ·rw [if_pos q17];have := zcZ (E.mark i) 17 0 0 x.a.toNat 0; omega
 rw [if_neg q17];have := zcZ (E.mark i) 18 0 0 x.a.toNat 0; omega
theorem zgs (E : EmS) (ns : Nat) (res : Int) (Lf : Nat -> List Int) (l : List zam) : (E.nodes ns res Lf l).sz <= E.sz + 9 * l.length := by
 suffices hs : ∀ n, n <= l.length -> (E.nodes ns res Lf (l.take n)).sz <= E.sz + 9 * n by
  have := hs l.length (Nat.le_refl _)
  rwa [List.take_length] at this
 intro n
 induction n with
 | zero => intro _; rw [List.take_zero]; exact Nat.le_refl _
 | succ n ih =>
  intro hn;rw [List.take_add_one, List.getElem?_eq_getElem (by omega), Option.toList_some, zdP];have h1 := ih (by omega);have h2 := zme (E.nodes ns res Lf (l.take n)) ns res (l.take n).length (Lf (l.take n).length) l[n]
  omega
theorem ziu (E : EmS) (X : EmX) (init : List Int) : (E.begin X init).sz <= E.sz + 3 + X.saves.length + (X.ns + X.nc) + init.length := by
 unfold EmS.begin;dsimp only;have h0 := zgr X.saves (E.put [⟨11, 0, 0, 0, w32 X.size⟩]);rw [zb5] at h0;obtain ⟨E1, hE1⟩ := mn ((E.put [⟨11, 0, 0, 0, w32 X.size⟩]).saves X.saves);rw [hE1] at h0 ⊢;obtain ⟨E2, hE2⟩ := mn ((if X.ns + X.nc = 0 then E1 else E1.number 13 0));rw [hE2]
 have h1 : E2.sz <= E1.sz + 2 := by
  rw [<- hE2]
  split
  ·omega
  ·exact zcr _ _ _
 have h2 := zgt (zaL 0 (X.ns + X.nc)) E2;rw [zdJ] at h2;have h3 := zit X.ns init (E2.clear (zaL 0 (X.ns + X.nc)))
 omega
theorem zk3 (E : EmS) (X : EmX) (r : Bool) : (E.leave X r).sz <= E.sz + 5 + X.saves.length := by
 unfold EmS.leave;dsimp only;obtain ⟨E2, hE2⟩ := mn ((if X.defers = true then (E.mark 1048576).put [⟨13, 0, 0, 0, 8⟩] else E.mark 1048576));rw [hE2]
 have h2 : E2.sz <= E.sz + 2 := by
  rw [<- hE2]
  split
  ·rw [zb5, zaJ]; omega
  ·rw [zaJ]; omega
 obtain ⟨E3, hE3⟩ := mn ((if r = true then E2.put [⟨4, 0, 14, 0, w32 X.res⟩] else E2));rw [hE3]
 have h3 : E3.sz <= E2.sz + 1 := by
  rw [<- hE3]
  split
  ·rw [zb5]; omega
  ·omega
 rw [zbe, zb6];simp only [List.length_cons, List.length_nil]
 omega
theorem zjU (E : EmS) (X : EmX) (r : Bool) (k : Int) : (E.resume X r k).sz <= E.sz + 5 := by
 unfold EmS.resume;dsimp only;rw [zch]
 split
 ·rw [zcB]
  split
  ·rw [zb5]; omega
  ·have := zcr E 13 0; omega
 ·omega
theorem zlZ (E : EmS) (X : EmX) (r : Bool) (k : Int) : (E.end_ X r k).sz <= E.sz + 18 + X.saves.length := by
 unfold EmS.end_;dsimp only;obtain ⟨E2, hE2⟩ := mn ((if X.defers = true then (E.leave X r).resume X r k else E.leave X r));rw [hE2];have h1 := zk3 E X r
 have h2 : E2.sz <= E.sz + 10 + X.saves.length := by
  rw [<- hE2]
  split
  ·have := zjU (E.leave X r) X r k; omega
  ·omega
 have h3 := zcI E2 1048577 E2.zeros.length 18446744073709551615;have h4 := zcI (E2.panics 1048577 E2.zeros.length 18446744073709551615) 1048578 E2.nulls.length 18446744073709551614
 omega
theorem zio {X Y : EmX} (E : EmS) (init : List Int) (h1 : X.ns = Y.ns) (h2 : X.nc = Y.nc) (h3 : X.size = Y.size) (h4 : X.saves = Y.saves) : E.begin X init = E.begin Y init := by
 unfold EmS.begin; rw [h1, h2, h3, h4]
theorem zia {X Y : EmX} (E : EmS) (r : Bool) (h3 : X.size = Y.size) (h4 : X.saves = Y.saves) (h5 : X.defers = Y.defers) (h6 : X.res = Y.res) : E.leave X r = E.leave Y r := by
 unfold EmS.leave; rw [h3, h4, h5, h6]
theorem zkG {X Y : EmX} (E : EmS) (r : Bool) (k : Int) (h1 : X.ns = Y.ns) (h3 : X.size = Y.size) (h4 : X.saves = Y.saves) (h5 : X.defers = Y.defers) (h6 : X.res = Y.res) : E.end_ X r k = E.end_ Y r k /\ E.resumeAt X r = E.resumeAt Y r := by
 have := zia E r h3 h4 h5 h6;unfold EmS.end_ EmS.resumeAt EmS.resume;rw [this, h1, h5, h6];exact ⟨rfl, rfl⟩
theorem zbs {a : It} {l1 l2 m1 m2 : List It} (h : (l1 ++ l2).Perm (m1 ++ m2)) : (l1 ++ a :: l2).Perm (m1 ++ a :: m2) :=
 (List.perm_middle.trans (h.cons a)).trans List.perm_middle.symm
abbrev intRow (v : Value) (l : List Int) : It := .row v 3 1 l.length (l.map (Value.int .i64))
def zjY (g : zad) (v : Value) : It := .row v 3 1 (zaG g) ((zaL 0 (zaG g)).map (Value.int .i64))
def zjZ (g : zad) (v : Value) : It := .row v 3 1 (zaU g) ((zaL (zaG g) (zaU g)).map (Value.int .i64))
def zbG (g : zad) : List Mv := zdw (zcK g.nodes 6) (zaG g + zaU g)
theorem zcJ (g : zad) : (zbG g).length = zb9 g := zg7 _ _
def zi2 (g : zad) (v : Value) : It := .row v 50 2 (zbG g).length (za9 (zbG g))
theorem zg6 : ∀ (l : List Nat) (o : Nat), ∀ s ∈ zdw l o, ∃ r ∈ l, s.1 = (r : Int)
 | [], _, s, h => by cases h
 | r :: l, o, s, h => by
  rcases List.mem_cons.1 h with rfl | h
  ·exact ⟨r, List.mem_cons_self, rfl⟩
  ·obtain ⟨r', h1, h2⟩ := zg6 l (o + 1) s h;exact ⟨r', List.mem_cons_of_mem _ h1, h2⟩
theorem zc1 (g : zad) : ∀ s ∈ zbG g, 6 <= s.1 /\ s.1 <= 11 := fun s hs => by
 obtain ⟨r, h1, h2⟩ := zg6 _ _ s hs;unfold zcK at h1;obtain ⟨h3, _⟩ := List.mem_filter.1 h1;obtain ⟨k, h4, h5⟩ := List.mem_map.1 h3;rw [List.mem_range] at h4
 omega
def zgq (T : zco) (stv fv : Value) (ps : List (Value × Value)) : List It := .row stv 3 1 T.start.length (zd9 T.start) :: .row fv 48 6 T.rows.length (zaQ T.rows ps) :: zdX T.rows ps
def xAt (g : zad) (ep fp gb go : Nat) (slv clv svv stv fv : Value) (df : Bool) (pv : Value) : EmX := ⟨ep, fp, ⟨gb, (go : Nat), none⟩, zaG g, zaU g, (zaF g : Nat), zdB g, zbG g, slv, clv, svv, df, pv, stv, fv⟩
theorem zjw (a1 a2 a3 c1 b1 b2 N1 FB LB M1 M2 s1 s2 s3 : It) (LR RI rest : List It) : (N1 :: N1 :: FB :: M2 :: M1 :: LB :: (([a1, a2, a3] ++ ([c1] ++ (LR ++ ([b1, b2] ++ RI)))) ++ (s1 :: s2 :: s3 :: rest))).Perm ([a1, a2, a3, FB, M1, M2, N1, N1, s1, s2, s3, c1] ++ (LR ++ ((b1 :: b2 :: RI) ++ (LB :: rest)))) := by
 refine zbs (l1 := []) (m1 := [a1, a2, a3, FB, M1, M2]) ?_;refine zbs (l1 := []) (m1 := [a1, a2, a3, FB, M1, M2]) ?_;refine zbs (l1 := []) (m1 := [a1, a2, a3]) ?_;refine zbs (l1 := []) (m1 := [a1, a2, a3, M1]) ?_;refine zbs (l1 := []) (m1 := [a1, a2, a3]) ?_;show (LB :: (([a1, a2, a3] ++ ([c1] ++ (LR ++ ([b1, b2] ++ RI)))) ++ (s1 :: s2 :: s3 :: rest))).Perm ([a1, a2, a3, s1, s2, s3, c1] ++ (LR ++ ((b1 :: b2 :: RI) ++ (LB :: rest))))
 have e1 : [a1, a2, a3, s1, s2, s3, c1] ++ (LR ++ ((b1 :: b2 :: RI) ++ (LB :: rest))) = ([a1, a2, a3, s1, s2, s3, c1] ++ (LR ++ (b1 :: b2 :: RI))) ++ (LB :: rest) := by simp [List.append_assoc]
 rw [e1];refine zbs (l1 := []) ?_
 have e2 : ([a1, a2, a3, s1, s2, s3, c1] ++ (LR ++ (b1 :: b2 :: RI))) ++ rest = [a1, a2, a3] ++ s1 :: s2 :: s3 :: (c1 :: (LR ++ (b1 :: b2 :: RI)) ++ rest) := by simp [List.append_assoc]
 rw [e2];refine zbs (l1 := [a1, a2, a3] ++ ([c1] ++ (LR ++ ([b1, b2] ++ RI)))) (m1 := [a1, a2, a3]) ?_;refine zbs (l1 := [a1, a2, a3] ++ ([c1] ++ (LR ++ ([b1, b2] ++ RI)))) (m1 := [a1, a2, a3]) ?_;refine zbs (l1 := [a1, a2, a3] ++ ([c1] ++ (LR ++ ([b1, b2] ++ RI)))) (m1 := [a1, a2, a3]) ?_;exact List.Perm.of_eq (by simp [List.append_assoc])
theorem zbZ.mem {w : World} {base ep : Nat} {T : zco} {rest : List It} {x : It} (h : zbZ w base ep T rest) (hx : x ∈ rest) : x.At w base := by
 obtain ⟨cv, stv, fv, sv, Mc, lvs, ps, _, _, hI⟩ := h;exact hI.each x (List.mem_append_right _ hx)
theorem zj7 {a b c d : It} {l : List It} : (a :: b :: c :: d :: l).Perm (d :: a :: b :: c :: l) := List.perm_middle (l₁ := [a, b, c])
theorem zjm (a1 a2 a3 f j l z n s1 s2 s3 c1 fr rb kv st LB : It) (LR RI rest : List It) {w : World} {base : Nat} (h : zaA w base ([a1, a2, a3, f, j, l, z, n, s1, s2, s3, c1] ++ (LR ++ (fr :: rb :: kv :: st :: (RI ++ (LB :: rest)))))) : zaA w base (([a1, a2, a3] ++ ([c1] ++ (LR ++ ([st, fr] ++ (RI ++ [kv, s3]))))) ++ rest) := by
 have hs : ([a1, a2, a3, s3, c1] ++ (LR ++ (fr :: kv :: st :: (RI ++ rest)))).Sublist ([a1, a2, a3, f, j, l, z, n, s1, s2, s3, c1] ++ (LR ++ (fr :: rb :: kv :: st :: (RI ++ (LB :: rest))))) := by
  refine List.Sublist.append (.cons_cons a1 (.cons_cons a2 (.cons_cons a3 (.cons f (.cons j (.cons l (.cons z (.cons n (.cons s1 (.cons s2 (.cons_cons s3 (.cons_cons c1 .slnil)))))))))))) ?_;refine (List.Sublist.refl LR).append (.cons_cons fr (.cons rb (.cons_cons kv (.cons_cons st ?_))));exact (List.Sublist.refl RI).append (List.sublist_cons_self LB rest)
 refine (h.sub hs).perm ?_
 have hA : (fr :: kv :: st :: (RI ++ rest)).Perm (st :: fr :: (RI ++ (kv :: rest))) :=
  (List.perm_middle (l₁ := [fr, kv]) (a := st) (l₂ := RI ++ rest)).trans (((List.perm_middle (l₁ := RI) (a := kv) (l₂ := rest)).symm.cons fr).cons st)
 have hB : (s3 :: (c1 :: (LR ++ (st :: fr :: (RI ++ (kv :: rest)))))).Perm ((c1 :: (LR ++ (st :: fr :: (RI ++ [kv])))) ++ s3 :: rest) := by
  refine List.Perm.trans (List.Perm.of_eq ?_) (List.perm_middle (l₁ := c1 :: (LR ++ (st :: fr :: (RI ++ [kv])))) (a := s3) (l₂ := rest)).symm;simp [List.append_assoc]
 have hC := (((hA.append_left LR).cons c1).cons s3).trans hB;refine ((hC.append_left [a1, a2, a3])).trans (List.Perm.of_eq ?_);simp [List.append_assoc]
theorem zbZ.enter {w w' : World} {base ep fp J L : Nat} {gb go : Nat} {T : zco} {g : zad} {slv clv svv : Value} {rest new : List It} (h : zbZ w base ep T (zjY g slv :: zjZ g clv :: zi2 g svv :: rest)) :
  ∃ (cv stv fv sv : Value) (Mc : Nat) (lvs : List Value) (ps : List (Value × Value)), lvs.length = T.sites.length /\ ps.length = T.rows.length /\ w.cell? ⟨ep, 0, none⟩ = some cv /\
   (∀ (lc : Array Value) (tl : TypeId), zaz ((((w.alloc (.cells lc tl)).alloc (.map #[] 0)).alloc (.map #[] 0)).alloc (.cells (zeN (xAt g ep (w.heap.size + 3) gb go slv clv svv stv fv false (.slice none 0 0)) (w.heap.size + 1) (w.heap.size + 2) (.slice none 0 0) (.slice none 0 0)) 101)) base (xAt g ep (w.heap.size + 3) gb go slv clv svv stv fv false (.slice none 0 0)) (zbc T) (zgq T stv fv ps ++ (.blk w.heap.size tl lc :: rest)) /\
    Below base w ((((w.alloc (.cells lc tl)).alloc (.map #[] 0)).alloc (.map #[] 0)).alloc (.cells (zeN (xAt g ep (w.heap.size + 3) gb go slv clv svv stv fv false (.slice none 0 0)) (w.heap.size + 1) (w.heap.size + 2) (.slice none 0 0) (.slice none 0 0)) 101))) := by
 obtain ⟨cv, stv, fv, sv, Mc, lvs, ps, h1, h2, hI⟩ := h
 have hbz : base <= w.heap.size := by
  have := (hI.at_ (i := 0) rfl).lt ep rfl
  omega
 refine ⟨cv, stv, fv, sv, Mc, lvs, ps, h1, h2, (hI.blk (i := 0) rfl).cell 0, fun lc tl => ⟨?_, ?_⟩⟩
 ·have i1 := hI.newBlk hbz tl lc;have i2 : zaA ((w.alloc (.cells lc tl)).alloc (.map #[] 0)) base (.map (w.heap.size + 1) 0 (fun _ => none) :: _) := i1.new (World.grownBy_alloc _ _ none) (x := .map (w.heap.size + 1) 0 (fun _ => none)) ⟨by omega, by have := zcx.made (w.alloc (.cells lc tl)); simpa using this⟩ (fun b e => by injection e with e; simp; omega);have i3 : zaA (((w.alloc (.cells lc tl)).alloc (.map #[] 0)).alloc (.map #[] 0)) base (.map (w.heap.size + 2) 0 (fun _ => none) :: _) := i2.new (World.grownBy_alloc _ _ none) (x := .map (w.heap.size + 2) 0 (fun _ => none)) ⟨by omega, by have := zcx.made ((w.alloc (.cells lc tl)).alloc (.map #[] 0)); simpa using this⟩ (fun b e => by injection e with e; simp; omega);have i4 := i3.newBlk (by simp; omega) 101 (zeN (xAt g ep (w.heap.size + 3) gb go slv clv svv stv fv false (.slice none 0 0)) (w.heap.size + 1) (w.heap.size + 2) (.slice none 0 0) (.slice none 0 0))
  have e3 : (((w.alloc (.cells lc tl)).alloc (.map #[] 0)).alloc (.map #[] 0)).heap.size = w.heap.size + 3 := by simp
  rw [e3] at i4;have i5 := i4.cons (x := .row (.slice none 0 0) 3 1 0 []) (World.ownsRow_nil _ _ _ _) (fun b e => by cases e);have i6 := i5.cons (x := .row (.slice none 0 0) 3 1 0 []) (World.ownsRow_nil _ _ _ _) (fun b e => by cases e);refine ⟨cv, sv, .slice none 0 0, .slice none 0 0, Mc, w.heap.size + 1, w.heap.size + 2, lvs, h1, i6.perm ?_⟩
  exact zjw (.blk ep 67 #[cv, stv, .map (some Mc), fv, sv]) (.row cv 71 5 T.code.length (T.code.flatMap zaW)) (.map Mc T.cn T.calls) (.row sv 112 2 T.sites.length (zaC T.sites lvs)) (.row stv 3 1 T.start.length (zd9 T.start)) (.row fv 48 6 T.rows.length (zaQ T.rows ps))
   (.row (.slice none 0 0) 3 1 0 []) (.blk (w.heap.size + 3) 101 (zeN (xAt g ep (w.heap.size + 3) gb go slv clv svv stv fv false (.slice none 0 0)) (w.heap.size + 1) (w.heap.size + 2) (.slice none 0 0) (.slice none 0 0))) (.blk w.heap.size tl lc) (.map (w.heap.size + 1) 0 (fun _ => none)) (.map (w.heap.size + 2) 0 (fun _ => none)) (zjY g slv) (zjZ g clv) (zi2 g svv) (zaM T.sites lvs) (zdX T.rows ps) rest
 ·exact ((((Below.refl base w).alloc hbz _).alloc (by simp; omega) _).alloc (by simp; omega) _).alloc (by simp; omega) _
theorem zhR {rows : List ziq} {ps : List (Value × Value)} (h : ps.length = rows.length) (r : ziq) (p : Value × Value) : zdX (rows ++ [r]) (ps ++ [p]) = zdX rows ps ++ [.row p.1 87 1 r.params.length (zcf r.params), .row p.2 50 2 r.saves.length (za9 r.saves)] := by
 unfold zdX;rw [List.zip_append h.symm, List.flatMap_append]; rfl
theorem zfS {rows : List ziq} {ps : List (Value × Value)} (h : ps.length = rows.length) (r : ziq) (p : Value × Value) : zaQ (rows ++ [r]) (ps ++ [p]) = zaQ rows ps ++ zdN r p.1 p.2 := by
 unfold zaQ;rw [List.zip_append h.symm, List.flatMap_append];simp
theorem zly : (Tryd.prog.info? 48).map (fun i => (i.zero, i.size, i.bytes)) = some (some (.agg #[.int .i64 0, .int .i64 0, .int .i64 0, .slice none 0 0, .slice none 0 0, .int .i64 0]), 6, 80) := by kernel_rfl
section
variable {w w' : World} {base : Nat} {X : EmX} {E : EmS} {rest : List It}
theorem zaz.mem {x : It} (h : zaz w base X E rest) (hx : x ∈ rest) : x.At w base := by
 obtain ⟨cv, sv, zv, nv, Mc, J, L, lvs, h1, hI⟩ := h;exact hI.each x (List.mem_append_right _ (List.mem_append_right _ hx))
theorem zaz.setDf (h : zaz w base X E rest) (b : Bool) : zaz (w.setCell ⟨X.fp, 11, none⟩ (.bool b)) base { X with defers := b } E rest := by
 obtain ⟨cv, sv, zv, nv, Mc, J, L, lvs, h1, hI⟩ := h;exact ⟨cv, sv, zv, nv, Mc, J, L, lvs, h1, hI.set_ (i := 3) rfl 11 (.bool b)⟩
theorem zaz.setStv (h : zaz w base X E rest) (v : Value) : zaz (w.setCell ⟨X.ep, 1, none⟩ v) base { X with stv := v } E rest := by
 obtain ⟨cv, sv, zv, nv, Mc, J, L, lvs, h1, hI⟩ := h;exact ⟨cv, sv, zv, nv, Mc, J, L, lvs, h1, hI.set_ (i := 0) rfl 1 v⟩
theorem zaz.setFv (h : zaz w base X E rest) (v : Value) : zaz (w.setCell ⟨X.ep, 3, none⟩ v) base { X with fv := v } E rest := by
 obtain ⟨cv, sv, zv, nv, Mc, J, L, lvs, h1, hI⟩ := h;exact ⟨cv, sv, zv, nv, Mc, J, L, lvs, h1, hI.set_ (i := 0) rfl 3 v⟩
theorem zaz.epFree (h : zaz w base X E rest) (k : Nat) : w.frozen? ⟨X.ep, k, none⟩ = false := by
 obtain ⟨cv, sv, zv, nv, Mc, J, L, lvs, _, hI⟩ := h;exact (hI.blk (i := 0) rfl).frozen k
theorem zaz.epCells (h : zaz w base X E rest) : w.cell? ⟨X.ep, 1, none⟩ = some X.stv /\ w.cell? ⟨X.ep, 3, none⟩ = some X.fv := by
 obtain ⟨cv, sv, zv, nv, Mc, J, L, lvs, _, hI⟩ := h;exact ⟨(hI.blk (i := 0) rfl).cell 1, (hI.blk (i := 0) rfl).cell 3⟩
theorem zaz.pushR {i n n' size : Nat} {v v' : Value} {e : TypeId} {xs xs' : List Value} (h : zaz w base X E rest) (hi : rest[i]? = some (.row v e size n xs)) (ho : w'.ownsRow base e size v' n' xs') (hg : w.grownBy w' v.ownBlock) (hat : v'.ownBlock = v.ownBlock ∨ ∀ b, v'.ownBlock = some b -> w.heap.size <= b) : zaz w' base X E (rest.set i (.row v' e size n' xs')) :=
 h.changeR hi hg ho hat
end
theorem ziJ : ∀ (code : List zaw) (k : Nat) (m : zaw) (v : Int), code[k]? = some m -> (code.flatMap zaW).set (k * 5 + 4) (.int .i32 v) = (code.set k { m with imm := v }).flatMap zaW
 | [], k, m, v, h => by simp at h
 | x :: code, 0, m, v, h => by
  simp at h;subst h
  rfl
 | x :: code, k + 1, m, v, h => by
  simp at h;have ih := ziJ code k m v h;rw [List.flatMap_cons, List.set_cons_succ, List.flatMap_cons, <- ih];show (zaW x ++ code.flatMap zaW).set ((k + 1) * 5 + 4) _ = _;rw [List.set_append_right _ _ (by show 5 <= _; omega)]
  congr 2
  show (k + 1) * 5 + 4 - 5 = _
  omega
theorem flat_get (code : List zaw) (k : Nat) (m : zaw) (h : code[k]? = some m) : (code.flatMap zaW)[k * 5 + 4]? = some (.int .i32 m.imm) := by
 induction code generalizing k with
 | nil => simp at h
 | cons x code ih =>
  cases k with
  | zero => simp at h; subst h; rfl
  | succ k =>
   simp at h;rw [List.flatMap_cons, List.getElem?_append_right (by show 5 <= _; omega), <- ih k h]
   congr 1
   show (k + 1) * 5 + 4 - 5 = _
   omega
def zcw (w : World) (base : Nat) (IL : List It) (CB nC vc : Nat) (code : List zaw) : Prop := zaA w base (IL.set 1 (.row (.slice (some ⟨CB, 0, none⟩) nC vc) 71 5 nC (code.flatMap zaW)))
section
variable {w w' : World} {base CB nC vc r k : Nat} {IL : List It} {code : List zaw} {m : zaw}
theorem zcw.row (h : zcw w base IL CB nC vc code) (hl : 1 < IL.length) : w.ownsRow base 71 5 (.slice (some ⟨CB, 0, none⟩) nC vc) nC (code.flatMap zaW) :=
 zaA.own h (i := 1) (by rw [List.getElem?_set_self hl])
theorem zcw.other (h : zcw w base IL CB nC vc code) {i : Nat} {x : It} (hi : i ≠ 1) (hx : IL[i]? = some x) : x.At w base :=
 zaA.at_ h (i := i) (by rw [List.getElem?_set_ne (Ne.symm hi)]; exact hx)
theorem zcw.kept (h : zcw w base IL CB nC vc code) (hfree : ∀ x ∈ IL, x.block ≠ some r) (hr : CB ≠ r) (hg : w.grownBy w' (some r)) : zcw w' base IL CB nC vc code :=
 zaA.kept h hg fun x hx b hb e => by
  injection e with e;subst e
  rcases List.mem_or_eq_of_mem_set hx with hx | rfl
  ·exact hfree x hx hb
  ·injection hb with hb;exact hr hb
theorem zcw.drew (h : zcw w base IL CB nC vc code) : zcw w.drew base IL CB nC vc code := zaA.drew h
theorem zcw.keep (h : zcw w base IL CB nC vc code) (hg : w.grownBy w' none) : zcw w' base IL CB nC vc code := zaA.keep h hg
theorem zcw.put (h : zcw w base IL CB nC vc code) (hl : 1 < IL.length) (hm : code[k]? = some m) (hk : k < nC) (v : Int) :
  zcw (w.setCell ⟨CB, k * 5 + 4, none⟩ (.int .i32 v)) base IL CB nC vc (code.set k { m with imm := v }) /\ base <= CB /\ w.cell? ⟨CB, k * 5 + 4, none⟩ = some (.int .i32 m.imm) /\ w.frozen? ⟨CB, k * 5 + 4, none⟩ = false /\ CB < w.heap.size := by
 have ho := h.row hl
 have hi : (IL.set 1 (.row (.slice (some ⟨CB, 0, none⟩) nC vc) 71 5 nC (code.flatMap zaW)))[1]? = some (.row (.slice (some ⟨CB, 0, none⟩) nC vc) 71 5 nC (code.flatMap zaW)) := by rw [List.getElem?_set_self hl]
 have h2 := zaA.setRow h hi (j := k * 5 + 4) (by omega) (.int .i32 v);rw [List.set_set, ziJ code k m v hm] at h2;obtain ⟨cs, hcs⟩ := zci ho rfl;obtain ⟨_, g', e, _, _, hrow⟩ := zd7 ho (by omega);injection e with e;injection e with e;subst e;have h1 := hrow (k * 5 + 4) _ (flat_get code k m hm);rw [Addr.add_mid, Nat.zero_add] at h1;exact ⟨h2, (zaA.at_ h hi).lt CB rfl |>.1, h1, hcs.frozen _, hcs.lt⟩
end
theorem zfr (a b : Nat) : (Lit.int .i64 (a : Int)).sameKey (.int .i64 (b : Int)) = decide (a = b) := by
 by_cases h : a = b
 ·subst h;rw [decide_eq_true rfl];exact WideAt.sameKey_self (by first | trivial | simp [WideAt.IsKeyLit])
 ·rw [decide_eq_false h];simp only [Lit.sameKey];simp
  omega
end Go.Proofs.YtnfjjliiajaijaaDoor

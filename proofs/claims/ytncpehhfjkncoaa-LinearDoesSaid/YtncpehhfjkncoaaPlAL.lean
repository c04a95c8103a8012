/- What the line is, plainly: where each node lies, and what stands behind it. Conditions: at most so many nodes, each leads to nodes. -/
import Derived.Test.YtncpehhfjkncoaaPlAC
set_option linter.unusedVariables false
set_option linter.unusedSimpArgs false
set_option maxRecDepth 100000
set_option maxHeartbeats 16000000
namespace Go.Proofs.Ytncpehhfjkncoaa

/-- nodes lead to nodes -/
structure NsOk (ns : List NodeD) : Prop where
 len : ns.length <= 4096
 next : ∀ x ∈ ns, ∀ t ∈ nextL x, 0 <= t /\ t < ns.length
 args : ∀ x ∈ ns, x.args.length * 8 <= 140737488351232
theorem NsOk.hop {ns : List NodeD} (h : NsOk ns) : Hop ns := fun x hx h10 => h.next x hx _ (by unfold nextL; simp [h10])
theorem next_mem {x : NodeD} (h : nextL x ≠ []) : x.next ∈ nextL x := by
 unfold nextL at h ⊢
 split
 ·rename_i h1; rw [if_pos h1] at h; exact absurd rfl h
 ·rename_i h1
  rw [if_neg h1] at h
  split
  ·simp
  ·rename_i h2
   rw [if_neg h2] at h
   split
   ·rename_i h3; rw [if_pos h3] at h; exact absurd rfl h
   ·simp
theorem els_mem {x : NodeD} (h : x.op = 9) : x.els ∈ nextL x := by
 unfold nextL;rw [if_neg (by omega)]
 by_cases he : x.els = x.next
 ·rw [if_neg (fun h => h.2 he), if_neg (by omega), he]; simp
 ·rw [if_pos ⟨h, he⟩]; simp
theorem br_next {x : NodeD} (h : x.op = 9) : nextL x ≠ [] := fun e => by have := els_mem h; rw [e] at this; cases this
theorem turned_next {ns : List NodeD} {x : NodeD} : nextL (turned ns x) = [] ↔ nextL x = [] := by
 unfold turned
 split
 ·rename_i h
  exact ⟨fun h' => absurd h' (br_next h), fun h' => absurd h' (br_next h)⟩
 ·exact Iff.rfl
section
variable {ns : List NodeD}
/-- what is laid for a node -/
def laid (ns : List NodeD) (i : Nat) : NodeD := if (nd ns i).op = 10 then { nd ns i with next := i } else turned ns (nd ns i)
def nx (ns : List NodeD) (i : Nat) : Nat := thru ns (nd ns i).next.toNat
def el (ns : List NodeD) (i : Nat) : Nat := thru ns (nd ns i).els.toNat
/-- the node behind, or a jump to it -/
def Foll (s : LS) (c t : Nat) : Prop := s.at_ t = some (c + 1) ∨ (s.out[c + 1]? = some (nopD t) /\ (s.at_ t).isSome)
structure Good (ns : List NodeD) (s : LS) (F T : Option Nat) : Prop where
 at_ : ∀ j c, s.at_ j = some c -> j < ns.length /\ s.out[c]? = some (laid ns j) /\
  ((nd ns j).op ≠ 10 -> nextL (nd ns j) ≠ [] -> Foll s c (nx ns j) ∨ (c + 1 = s.out.length /\ F = some (nx ns j))) /\
  ((nd ns j).op = 9 -> el ns j ∈ s.todo ∨ (s.at_ (el ns j)).isSome ∨ T = some (el ns j))
 out : ∀ (c : Nat) x, s.out[c]? = some x -> (∃ j, s.at_ j = some c) ∨ (∃ t, x = nopD t /\ (s.at_ t).isSome)
 todo : ∀ i ∈ s.todo, i < ns.length
/-- more of it -/
structure More (s s' : LS) : Prop where
 at_ : ∀ j c, s.at_ j = some c -> s'.at_ j = some c
 out : ∃ l, s'.out = s.out ++ l
 todo : ∃ l, s'.todo = s.todo ++ l
theorem More.refl (s : LS) : More s s := ⟨fun _ _ h => h, ⟨[], by simp⟩, ⟨[], by simp⟩⟩
theorem More.trans {a b c : LS} (h : More a b) (h' : More b c) : More a c := by
 obtain ⟨l, hl⟩ := h.out;obtain ⟨l', hl'⟩ := h'.out;obtain ⟨m, hm⟩ := h.todo;obtain ⟨m', hm'⟩ := h'.todo;exact ⟨fun j c hj => h'.at_ j c (h.at_ j c hj), ⟨l ++ l', by rw [hl', hl, List.append_assoc]⟩, ⟨m ++ m', by rw [hm', hm, List.append_assoc]⟩⟩
theorem isSome_of {α : Type} {a : Option α} {b : α} (h : a = some b) : a.isSome = true := by rw [h]; rfl
theorem some_of {α : Type} {a : Option α} (h : a.isSome = true) : ∃ b, a = some b := by
 cases a with
 | none => cases h
 | some b => exact ⟨b, rfl⟩
theorem More.some {s s' : LS} (h : More s s') {j : Nat} (hj : (s.at_ j).isSome = true) : (s'.at_ j).isSome = true := by
 obtain ⟨c, hc⟩ := some_of hj;exact isSome_of (h.at_ j c hc)
theorem get_append {α : Type} {l m : List α} {c : Nat} {x : α} (h : l[c]? = some x) : (l ++ m)[c]? = some x := by
 rw [List.getElem?_append_left (List.getElem?_eq_some_iff.1 h).1]; exact h
theorem More.foll {s s' : LS} (h : More s s') {c t : Nat} (hf : Foll s c t) : Foll s' c t := by
 obtain ⟨l, hl⟩ := h.out
 rcases hf with hf | ⟨h1, h2⟩
 ·exact .inl (h.at_ _ _ hf)
 ·exact .inr ⟨by rw [hl]; exact get_append h1, h.some h2⟩
/-- one node laid, and perhaps a jump behind it, and perhaps one more to be done -/
theorem good_lay {s : LS} {F T : Option Nat} {i : Nat} (hg : Good ns s F T) (hF : ∀ t, F = some t -> t = i) (hT : ∀ t, T = some t -> t = i) (hi : s.at_ i = none) (hiN : i < ns.length)
  (tail : List NodeD) (td : List Nat) (F' : Option Nat) (htail : tail = [] ∨ (∃ t, tail = [nopD t] /\ ((upd s.at_ i s.out.length) t).isSome))
  (hnew : (nd ns i).op ≠ 10 -> nextL (nd ns i) ≠ [] -> (tail = [] /\ F' = some (nx ns i)) ∨ (tail = [nopD (nx ns i)] /\ (upd s.at_ i s.out.length (nx ns i)).isSome))
  (hF' : F' = none ∨ tail = []) (htd : (nd ns i).op = 9 -> el ns i ∈ td) (htdN : ∀ j ∈ td, j < ns.length) :
  Good ns ⟨upd s.at_ i s.out.length, (s.out ++ [laid ns i]) ++ tail, s.todo ++ td⟩ F' none /\ More s ⟨upd s.at_ i s.out.length, (s.out ++ [laid ns i]) ++ tail, s.todo ++ td⟩ := by
 have hM : More s ⟨upd s.at_ i s.out.length, (s.out ++ [laid ns i]) ++ tail, s.todo ++ td⟩ := by
  refine ⟨fun j c hj => ?_, ⟨[laid ns i] ++ tail, by rw [List.append_assoc]⟩, ⟨td, rfl⟩⟩
  have hne : j ≠ i := fun e => by rw [e, hi] at hj; cases hj
  show upd s.at_ i s.out.length j = some c;rw [upd_ne hne]; exact hj
 refine ⟨⟨fun j c hj => ?_, fun c x hx => ?_, fun j hj => ?_⟩, hM⟩
 ·by_cases hji : j = i
  ·subst hji
   have hc : c = s.out.length := by
    have : upd s.at_ j s.out.length j = some c := hj;rw [upd_at] at this;injection this with this;exact this.symm
   subst hc;refine ⟨hiN, ?_, fun h10 hn => ?_, fun h9 => .inl (List.mem_append_right _ (htd h9))⟩
   ·exact get_append (by rw [List.getElem?_append_right (Nat.le_refl _), Nat.sub_self]; rfl)
   ·rcases hnew h10 hn with ⟨h1, h2⟩ | ⟨h1, h2⟩
    ·exact .inr ⟨by simp [h1], h2⟩
    ·refine .inl (.inr ⟨?_, h2⟩);show ((s.out ++ [laid ns j]) ++ tail)[s.out.length + 1]? = _;rw [h1, List.getElem?_append_right (by simp)];simp
  ·have hj' : s.at_ j = some c := by
    have : upd s.at_ i s.out.length j = some c := hj
    rwa [upd_ne hji] at this
   obtain ⟨h1, h2, h3, h4⟩ := hg.at_ j c hj';refine ⟨h1, ?_, fun h10 hn => ?_, fun h9 => ?_⟩
   ·exact get_append (get_append h2)
   ·rcases h3 h10 hn with h | ⟨h, h'⟩
    ·exact .inl (hM.foll h)
    ·refine .inl (.inl ?_);show upd s.at_ i s.out.length (nx ns j) = some (c + 1);rw [hF _ h', h, upd_at]
   ·rcases h4 h9 with h | h | h
    ·exact .inl (List.mem_append_left _ h)
    ·exact .inr (.inl (hM.some h))
    ·refine .inr (.inl ?_);show (upd s.at_ i s.out.length (el ns j)).isSome = true;rw [hT _ h, upd_at]; rfl
 ·have hx : ((s.out ++ [laid ns i]) ++ tail)[c]? = some x := hx
  rcases Nat.lt_or_ge c s.out.length with h | h
  ·rw [List.getElem?_append_left (by simp; omega), List.getElem?_append_left h] at hx
   rcases hg.out c x hx with ⟨j, hj⟩ | ⟨t, h1, h2⟩
   ·exact .inl ⟨j, hM.at_ _ _ hj⟩
   ·exact .inr ⟨t, h1, hM.some h2⟩
  ·rcases Nat.lt_or_ge c (s.out.length + 1) with h' | h'
   ·have : c = s.out.length := by omega
    subst this;exact .inl ⟨i, upd_at⟩
   ·rw [List.getElem?_append_right (by simp; omega)] at hx
    rcases htail with rfl | ⟨t, rfl, ht⟩
    ·simp at hx
    ·have hx1 := (List.getElem?_eq_some_iff.1 hx).1;simp only [List.length_append, List.length_singleton] at hx1
     have h0 : c - (s.out ++ [laid ns i]).length = 0 := by simp; omega
     rw [h0] at hx;simp only [List.getElem?_cons_zero, Option.some.injEq] at hx;exact .inr ⟨t, hx.symm, ht⟩
 ·rcases List.mem_append.1 hj with h | h
  ·exact hg.todo j h
  ·exact htdN j h
theorem Good.forget {s : LS} {F T : Option Nat} {i : Nat} (hg : Good ns s F T) (hF : F = none) (hT : ∀ t, T = some t -> t = i) (hi : (s.at_ i).isSome = true) : Good ns s none none := by
 subst hF;refine ⟨fun j c hj => ?_, hg.out, hg.todo⟩;obtain ⟨h1, h2, h3, h4⟩ := hg.at_ j c hj;refine ⟨h1, h2, h3, fun h9 => ?_⟩
 rcases h4 h9 with h | h | h
 ·exact .inl h
 ·exact .inr (.inl h)
 ·rw [hT _ h]; exact .inr (.inl hi)
theorem runF_there {s : LS} {i c : Nat} (h : s.at_ i = some c) : ∀ fuel, runF ns fuel s i = s
 | 0 => rfl
 | fuel + 1 => by simp only [runF, h]
theorem runF_nop {s : LS} {i : Nat} (h : s.at_ i = none) (h10 : (nd ns i).op = 10) (fuel : Nat) : runF ns (fuel + 1) s i = ⟨upd s.at_ i s.out.length, s.out ++ [{ nd ns i with next := i }], s.todo⟩ := by
 simp only [runF, h, if_pos h10]
theorem runF_end {s : LS} {i : Nat} (h : s.at_ i = none) (h10 : (nd ns i).op ≠ 10) (hn : nextL (nd ns i) = []) (fuel : Nat) : runF ns (fuel + 1) s i = ⟨upd s.at_ i s.out.length, s.out ++ [turned ns (nd ns i)], s.todo⟩ := by
 simp only [runF, h, if_neg h10, if_pos hn]
def nextS (ns : List NodeD) (s : LS) (i : Nat) : LS :=
 ⟨upd s.at_ i s.out.length, (s.out ++ [turned ns (nd ns i)]) ++ (if (upd s.at_ i s.out.length (thru ns (nd ns i).next.toNat)).isSome then [nopD (thru ns (nd ns i).next.toNat)] else []),
  if (nd ns i).op = 9 then s.todo ++ [thru ns (nd ns i).els.toNat] else s.todo⟩
theorem runF_more {s : LS} {i : Nat} (h : s.at_ i = none) (h10 : (nd ns i).op ≠ 10) (hn : nextL (nd ns i) ≠ []) (fuel : Nat) : runF ns (fuel + 1) s i = runF ns fuel (nextS ns s i) (thru ns (nd ns i).next.toNat) := by
 simp only [runF, h, if_neg h10, if_neg hn]; rfl
theorem laid_nop {i : Nat} (h : (nd ns i).op = 10) : laid ns i = { nd ns i with next := i } := by unfold laid; rw [if_pos h]
theorem laid_not {i : Nat} (h : (nd ns i).op ≠ 10) : laid ns i = turned ns (nd ns i) := by unfold laid; rw [if_neg h]
theorem nx_lt (hns : NsOk ns) {i : Nat} (hi : i < ns.length) (hn : nextL (nd ns i) ≠ []) : nx ns i < ns.length := by
 have := hns.next _ (nd_mem hi) _ (next_mem hn);exact thru_lt hns.hop (by omega)
theorem el_lt (hns : NsOk ns) {i : Nat} (hi : i < ns.length) (h9 : (nd ns i).op = 9) : el ns i < ns.length := by
 have := hns.next _ (nd_mem hi) _ (els_mem h9);exact thru_lt hns.hop (by omega)
/-- a run of nodes -/
theorem good_run (hns : NsOk ns) : ∀ (fuel : Nat) {s : LS} {F T : Option Nat} {i : Nat}, Good ns s F T -> (∀ t, F = some t -> t = i /\ s.at_ i = none) -> (∀ t, T = some t -> t = i) -> i < ns.length -> ns.length < fuel + cardF s.at_ ns.length ->
  Good ns (runF ns fuel s i) none none /\ ((runF ns fuel s i).at_ i).isSome = true /\ More s (runF ns fuel s i)
 | 0, s, F, T, i, _, _, _, _, hfu => by
  have := cardF_le (f := s.at_) ns.length
  omega
 | fuel + 1, s, F, T, i, hg, hF, hT, hiN, hfu => by
  rcases hi : s.at_ i with _ | c
  ·by_cases h10 : (nd ns i).op = 10
   ·rw [runF_nop hi h10, <- laid_nop h10];obtain ⟨h1, h2⟩ := good_lay hg (fun t h => (hF t h).1) hT hi hiN [] [] none (.inl rfl) (fun h => absurd h10 h) (.inl rfl) (fun h => by omega) nofun;rw [List.append_nil, List.append_nil] at h1 h2;exact ⟨h1, by show (upd s.at_ i s.out.length i).isSome = true; rw [upd_at]; rfl, h2⟩
   ·by_cases hn : nextL (nd ns i) = []
    ·rw [runF_end hi h10 hn, <- laid_not h10];obtain ⟨h1, h2⟩ := good_lay hg (fun t h => (hF t h).1) hT hi hiN [] [] none (.inl rfl) (fun _ h => absurd hn h) (.inl rfl) (fun h => absurd hn (br_next h)) nofun;rw [List.append_nil, List.append_nil] at h1 h2;exact ⟨h1, by show (upd s.at_ i s.out.length i).isSome = true; rw [upd_at]; rfl, h2⟩
    ·rw [runF_more hi h10 hn];have hcard : cardF (nextS ns s i).at_ ns.length = cardF s.at_ ns.length + 1 := cardF_upd hi hiN;have htl := nx_lt hns hiN hn
     have key : ∃ tail td, nextS ns s i = ⟨upd s.at_ i s.out.length, (s.out ++ [laid ns i]) ++ tail, s.todo ++ td⟩ /\ tail = (if (upd s.at_ i s.out.length (nx ns i)).isSome then [nopD (nx ns i)] else []) /\ ((nd ns i).op = 9 -> el ns i ∈ td) /\ ∀ j ∈ td, j < ns.length := by
      refine ⟨_, if (nd ns i).op = 9 then [el ns i] else [], ?_, rfl, fun h => by rw [if_pos h]; simp, fun j hj => ?_⟩
      ·unfold nextS;rw [laid_not h10]
       congr 1
       split <;> simp [el]
      ·split at hj
       ·rename_i h9
        rw [List.mem_singleton] at hj;rw [hj]; exact el_lt hns hiN h9
       ·cases hj
     obtain ⟨tail, td, hS, htail, htd, htdN⟩ := key
     by_cases hsome : (upd s.at_ i s.out.length (nx ns i)).isSome = true
     ·rw [if_pos hsome] at htail;obtain ⟨h1, h2⟩ := good_lay hg (fun t h => (hF t h).1) hT hi hiN tail td none (.inr ⟨_, htail, hsome⟩) (fun _ _ => .inr ⟨htail, hsome⟩) (.inl rfl) htd htdN;rw [<- hS] at h1 h2;obtain ⟨q1, q2, q3⟩ := good_run hns fuel (i := thru ns (nd ns i).next.toNat) h1 nofun nofun htl (by omega);refine ⟨q1, q3.some ?_, h2.trans q3⟩;show (upd s.at_ i s.out.length i).isSome = true;rw [upd_at]; rfl
     ·rw [if_neg hsome] at htail;obtain ⟨h1, h2⟩ := good_lay hg (fun t h => (hF t h).1) hT hi hiN tail td (some (nx ns i)) (.inl htail) (fun _ _ => .inl ⟨htail, rfl⟩) (.inr htail) htd htdN;rw [<- hS] at h1 h2
      have hnone : (nextS ns s i).at_ (nx ns i) = none := by
       have e : (nextS ns s i).at_ (nx ns i) = upd s.at_ i s.out.length (nx ns i) := rfl;rw [e]
       cases h : upd s.at_ i s.out.length (nx ns i) with
       | none => rfl
       | some c => rw [h] at hsome; exact absurd rfl hsome
      obtain ⟨q1, q2, q3⟩ := good_run hns fuel (i := thru ns (nd ns i).next.toNat) h1 (fun t ht => by injection ht with ht; exact ⟨ht.symm, hnone⟩) nofun htl (by omega);refine ⟨q1, q3.some ?_, h2.trans q3⟩;show (upd s.at_ i s.out.length i).isSome = true;rw [upd_at]; rfl
  ·rw [runF_there hi]
   have hFn : F = none := by
    cases F with
    | none => rfl
    | some t => have := (hF t rfl).2; rw [hi] at this; cases this
   exact ⟨hg.forget hFn hT (isSome_of hi), isSome_of hi, More.refl s⟩
structure Bnd (ns : List NodeD) (s : LS) (m : Nat) : Prop where
 out : s.out.length <= 2 * cardF s.at_ ns.length
 todo : s.todo.length + m <= 1 + cardF s.at_ ns.length
theorem bnd_run (hns : NsOk ns) : ∀ (fuel : Nat) {s : LS} {i m : Nat}, Bnd ns s m -> i < ns.length -> Bnd ns (runF ns fuel s i) m
 | 0, _, _, _, h, _ => h
 | fuel + 1, s, i, m, h, hiN => by
  rcases hi : s.at_ i with _ | c
  ·have hc : ∀ v, cardF (upd s.at_ i v) ns.length = cardF s.at_ ns.length + 1 := fun v => cardF_upd hi hiN
   have h1 := h.out;have h2 := h.todo
   by_cases h10 : (nd ns i).op = 10
   ·rw [runF_nop hi h10];exact ⟨by rw [hc]; simp; omega, by rw [hc]; simp; omega⟩
   ·by_cases hn : nextL (nd ns i) = []
    ·rw [runF_end hi h10 hn];exact ⟨by rw [hc]; simp; omega, by rw [hc]; simp; omega⟩
    ·rw [runF_more hi h10 hn];refine bnd_run hns fuel ?_ (nx_lt hns hiN hn);refine ⟨?_, ?_⟩
     ·show ((s.out ++ [_]) ++ _).length <= 2 * cardF (upd s.at_ i _) _;rw [hc];simp only [List.length_append, List.length_singleton]
      split
      ·simp only [List.length_singleton]; omega
      ·simp only [List.length_nil]; omega
     ·show (if _ then _ else _ : List Nat).length + m <= 1 + cardF (upd s.at_ i _) _;rw [hc]
      split
      ·rw [List.length_append, List.length_singleton]; omega
      ·omega
  ·rw [runF_there hi]; exact h
theorem good_work (hns : NsOk ns) : ∀ (fuel : Nat) {s : LS} {m : Nat}, Good ns s none none -> Bnd ns s m -> ns.length + 2 <= fuel + m ->
  Good ns (workF ns fuel s) none none /\ Bnd ns (workF ns fuel s) 0 /\ (workF ns fuel s).todo = [] /\ (∀ j c, s.at_ j = some c -> (workF ns fuel s).at_ j = some c) /\ ∃ l, (workF ns fuel s).out = s.out ++ l
 | 0, s, m, hg, hb, hf => by
  have := hb.todo;have := cardF_le (f := s.at_) ns.length
  omega
 | fuel + 1, s, m, hg, hb, hf => by
  rcases ht : s.todo with _ | ⟨i, r⟩
  ·simp only [workF, ht];exact ⟨hg, ⟨hb.out, by have := hb.todo; omega⟩, trivial, fun _ _ h => h, [], by simp⟩
  ·simp only [workF, ht];have hiN : i < ns.length := hg.todo i (by rw [ht]; exact List.mem_cons_self)
   have hg' : Good ns ⟨s.at_, s.out, r⟩ none (some i) := by
    refine ⟨fun j c hj => ?_, hg.out, fun j hj => hg.todo j (by rw [ht]; exact List.mem_cons_of_mem _ hj)⟩;obtain ⟨h1, h2, h3, h4⟩ := hg.at_ j c hj;refine ⟨h1, h2, h3, fun h9 => ?_⟩
    rcases h4 h9 with h | h | h
    ·rw [ht] at h
     rcases List.mem_cons.1 h with h | h
     ·exact .inr (.inr (by rw [h]))
     ·exact .inl h
    ·exact .inr (.inl h)
    ·cases h
   have hb' : Bnd ns ⟨s.at_, s.out, r⟩ (m + 1) := ⟨hb.out, by have := hb.todo; rw [ht] at this; simp only [List.length_cons] at this; show r.length + (m + 1) <= 1 + cardF s.at_ ns.length; omega⟩
   obtain ⟨q1, _, q3⟩ := good_run hns (ns.length + 1) (i := i) hg' nofun (fun t h => by injection h with h; exact h.symm) hiN (by omega);have q4 := bnd_run hns (ns.length + 1) hb' hiN;obtain ⟨r1, r2, r3, r4, l2, r5⟩ := good_work hns fuel q1 q4 (by omega);obtain ⟨l, hl⟩ := q3.out;exact ⟨r1, r2, r3, fun j c hj => r4 j c (q3.at_ j c hj), l ++ l2, by rw [r5, hl, List.append_assoc]⟩
/-- the whole line -/
structure Line (ns : List NodeD) (entry : Nat) (s : LS) : Prop where
 at_ : ∀ j c, s.at_ j = some c -> j < ns.length /\ s.out[c]? = some (laid ns j) /\ ((nd ns j).op ≠ 10 -> nextL (nd ns j) ≠ [] -> Foll s c (nx ns j)) /\ ((nd ns j).op = 9 -> (s.at_ (el ns j)).isSome)
 out : ∀ (c : Nat) x, s.out[c]? = some x -> (∃ j, s.at_ j = some c) ∨ (∃ t, x = nopD t /\ (s.at_ t).isSome)
 entry : s.at_ (thru ns entry) = some 0
 todo : s.todo = []
 len : s.out.length <= 2 * ns.length
 pos : 0 < s.out.length
theorem line_good (hns : NsOk ns) {entry : Nat} (he : entry < ns.length) : Line ns entry (lineS ns entry) := by
 have hi := thru_lt hns.hop he;have hc0 := cardF_none ns.length
 have hg0 : Good ns ⟨fun _ => none, [], []⟩ none (some (thru ns entry)) := ⟨nofun, fun c x h => by simp at h, nofun⟩
 obtain ⟨q1, q2, q3⟩ := good_run hns (ns.length + 1) (i := thru ns entry) hg0 nofun (fun t h => by injection h with h; exact h.symm) hi (by omega);have q4 : Bnd ns (runF ns (ns.length + 1) ⟨fun _ => none, [], []⟩ (thru ns entry)) 1 := bnd_run hns _ (s := ⟨fun _ => none, [], []⟩) ⟨by simp [hc0], by simp [hc0]⟩ hi;obtain ⟨r1, r2, r3, r4, l, r5⟩ := good_work hns (ns.length + 1) q1 q4 (by omega);have hS : lineS ns entry = workF ns (ns.length + 1) (runF ns (ns.length + 1) ⟨fun _ => none, [], []⟩ (thru ns entry)) := rfl;rw [<- hS] at r1 r2 r3 r4 r5
 have hz : (runF ns (ns.length + 1) ⟨fun _ => none, [], []⟩ (thru ns entry)).at_ (thru ns entry) = some 0 := by
  have hu : (upd (fun _ => none) (thru ns entry) 0) (thru ns entry) = some 0 := upd_at
  by_cases h10 : (nd ns (thru ns entry)).op = 10
  ·rw [runF_nop rfl h10]; exact hu
  ·by_cases hn : nextL (nd ns (thru ns entry)) = []
   ·rw [runF_end rfl h10 hn]; exact hu
   ·rw [runF_more rfl h10 hn]
    have hle : ∀ (fuel : Nat) (s : LS) (i : Nat) j c, s.at_ j = some c -> (runF ns fuel s i).at_ j = some c := by
     intro fuel
     induction fuel with
     | zero => intro s i j c h; exact h
     | succ fuel ih =>
      intro s i j c h
      rcases hi : s.at_ i with _ | k
      ·have hne : j ≠ i := fun e => by rw [e, hi] at h; cases h
       have hu : ∀ v, upd s.at_ i v j = some c := fun v => by rw [upd_ne hne]; exact h
       by_cases h10 : (nd ns i).op = 10
       ·rw [runF_nop hi h10]; exact hu _
       ·by_cases hn : nextL (nd ns i) = []
        ·rw [runF_end hi h10 hn]; exact hu _
        ·rw [runF_more hi h10 hn]; exact ih _ _ _ _ (hu _)
      ·rw [runF_there hi]; exact h
    exact hle _ _ _ _ _ hu
 have hen := r4 _ _ hz;refine ⟨fun j c hj => ?_, r1.out, hen, r3, ?_, ?_⟩
 ·obtain ⟨h1, h2, h3, h4⟩ := r1.at_ j c hj;refine ⟨h1, h2, fun a b => ?_, fun h9 => ?_⟩
  ·rcases h3 a b with h | ⟨_, h⟩
   ·exact h
   ·cases h
  ·rcases h4 h9 with h | h | h
   ·rw [r3] at h; cases h
   ·exact h
   ·cases h
 ·have h1 := r2.out;have h2 := cardF_le (f := (lineS ns entry).at_) ns.length
  omega
 ·obtain ⟨_, h2, _⟩ := r1.at_ _ _ hen;exact (List.getElem?_eq_some_iff.1 h2).1
end
end Go.Proofs.Ytncpehhfjkncoaa

/- Part of the proof, named by its texts: LinSt LinInv. No condition of its own. -/
import Derived.Test.YtnfjjliiajaijaaDoorPfAE
import Derived.Test.YtnfjjliiajaijaaDoorPfAB
set_option linter.unusedVariables false
set_option linter.unusedSimpArgs false
set_option maxRecDepth 100000
set_option maxHeartbeats 16000000
namespace Go.Proofs.YtnfjjliiajaijaaDoor
open Go.RowKit
def za8 (w : World) (e : TypeId) (row : Option Nat) : Prop := ∀ g, row = some g -> w.heap.size <= g ∨ ∀ cs, w.heap[g]? ≠ some (.cells cs e (0, 0))
section
variable {w w' : World} {base n size : Nat} {e e' : TypeId} {v : Value} {xs : List Value} {row : Option Nat}
theorem za8.none_ (w : World) (e : TypeId) : za8 w e none := nofun
theorem za8.blk {g : Nat} {t : TypeId} {cs : Array Value} (h : Blk w g t cs) (hne : t ≠ e) : za8 w e (some g) := fun k hk => by
 injection hk with hk;subst hk
 refine .inr fun cs' h' => ?_
 unfold Blk at h;rw [h] at h';injection h' with h';injection h' with _ h';exact hne h'
theorem za8.map {b m : Nat} {f : Nat -> Option Nat} (h : zcx w b m f) (e : TypeId) : za8 w e (some b) := fun k hk => by
 injection hk with hk;subst hk
 exact .inr fun cs' h' => h.ne_blk (show Blk w b e cs' from h') rfl
theorem ziy (h : w.ownsRow base e size v n xs) {g : Nat} (hg : v.ownBlock = some g) : ∃ cur, w.heap[g]? = some (.cells cur e (0, 0)) := by
 rcases h.2 with ⟨rfl, _⟩ | ⟨g', cap, cur, rfl, _, hh, _⟩
 ·cases hg
 ·have : g' = g := by simpa [Value.ownBlock] using hg
  subst this;exact ⟨cur, hh⟩
theorem za8.own (h : w.ownsRow base e' size v n xs) (hne : e' ≠ e) : za8 w e v.ownBlock := fun g hg => by
 obtain ⟨cur, hh⟩ := ziy h hg
 refine .inr fun cs' h' => ?_
 rw [hh] at h';injection h' with h';injection h' with _ h';exact hne h'
theorem za8.tail (h : zeD w base e' v xs) (hne : e' ≠ e) : za8 w e v.ownBlock := by
 obtain ⟨dead, g, k, n, c, C, rfl, h, _⟩ := h
 exact fun j hj => za8.own h hne j hj
theorem za8.ne (ho : za8 w e row) (h : w.ownsRow base e size v n xs) : v.ownBlock = none ∨ v.ownBlock ≠ row := by
 rcases hv : v.ownBlock with _ | g
 ·exact .inl rfl
 ·refine .inr fun hr => ?_
  obtain ⟨cur, hh⟩ := ziy h hv
  rcases ho g hr.symm with h1 | h1
  ·have := (h.lt g hv).2; omega
  ·exact h1 cur hh
theorem za8.own_keep (ho : za8 w e row) (h : w.ownsRow base e size v n xs) (hg : w.grownBy w' row) : w'.ownsRow base e size v n xs := h.kept hg (ho.ne h)
theorem za8.tail_keep (ho : za8 w e row) (h : zeD w base e v xs) (hg : w.grownBy w' row) : zeD w' base e v xs := by
 have h' := h;obtain ⟨dead, g, k, n, c, C, rfl, h2, _⟩ := h';refine h.kept hg ?_
 rcases ho.ne h2 with h3 | h3
 ·cases h3
 ·exact h3
end
def zcT (w : World) (base : Nat) (T : Option Nat) (v : Value) (l : List zam) : Prop :=
 ∃ css : List (List Value), css.length = l.length /\ w.ownsRow base 55 12 v l.length css.flatten /\ ∀ (k : Nat) x, l[k]? = some x -> ∃ av, css[k]? = some (zae x av) /\ zat w base av x.args /\ ∀ g, av.ownBlock = some g -> T ≠ some g
section
variable {w w' : World} {base : Nat} {T : Option Nat} {v : Value} {l : List zam} {row : Option Nat}
theorem zcT.nil (w : World) (base : Nat) (T : Option Nat) : zcT w base T (.slice none 0 0) [] := ⟨[], rfl, World.ownsRow_nil _ _ _ _, by intro k x h; simp at h⟩
theorem zcT.nodes (h : zcT w base T v l) : za4 w base v l := by
 obtain ⟨css, h1, h2, h3⟩ := h
 exact ⟨css, h1, h2, fun k x hx => by
  obtain ⟨av, q1, q2, _⟩ := h3 k x hx
  exact ⟨av, q1, q2⟩⟩
theorem zhq {av : Value} {ys : List Int} (h : zat w base av ys) (hT : ∀ g, av.ownBlock = some g -> T ≠ some g) (hg : w.grownBy w' row) (hr : za8 w 3 row ∨ row = T) : zat w' base av ys := by
 rcases hr with hr | rfl
 ·exact hr.own_keep h hg
 ·refine World.ownsRow.kept h hg ?_
  rcases hv : av.ownBlock with _ | g
  ·exact .inl rfl
  ·exact .inr fun e => hT g hv e.symm
theorem zcT.kept (h : zcT w base T v l) (hg : w.grownBy w' row) (hn : za8 w 55 row) (hr : za8 w 3 row ∨ row = T) : zcT w' base T v l := by
 obtain ⟨css, h1, h2, h3⟩ := h;refine ⟨css, h1, hn.own_keep h2 hg, fun k x hx => ?_⟩;obtain ⟨av, q1, q2, q3⟩ := h3 k x hx;exact ⟨av, q1, zhq q2 q3 hg hr, q3⟩
theorem zcT.snoc {v' : Value} {x : zam} {av : Value} {css : List (List Value)} (h1 : css.length = l.length) (h3 : ∀ (k : Nat) x, l[k]? = some x -> ∃ av, css[k]? = some (zae x av) /\ zat w' base av x.args /\ ∀ g, av.ownBlock = some g -> T ≠ some g)
  (ho : w'.ownsRow base 55 12 v' (l.length + 1) (css.flatten ++ zae x av)) (ha : zat w' base av x.args) (haT : ∀ g, av.ownBlock = some g -> T ≠ some g) : zcT w' base T v' (l ++ [x]) := by
 refine ⟨css ++ [zae x av], by simp [h1], by simpa using ho, fun k y hy => ?_⟩
 rcases Nat.lt_or_ge k l.length with hk | hk
 ·rw [List.getElem?_append_left hk] at hy;obtain ⟨av', q1, q2⟩ := h3 k y hy;exact ⟨av', by rw [List.getElem?_append_left (by omega)]; exact q1, q2⟩
 ·rw [List.getElem?_append_right hk] at hy
  have h0 : k - l.length = 0 := by
   have := (List.getElem?_eq_some_iff.1 hy).1;simp at this; omega
  rw [h0] at hy;simp only [List.getElem?_cons_zero, Option.some.injEq] at hy;subst hy;exact ⟨av, by rw [List.getElem?_append_right (by omega), h1, h0]; rfl, ha, haT⟩
end
structure zcm (w : World) (base lp M : Nat) (ga : Addr) (N : Nat) (ov tv : Value) (s : LS) : Prop where
 blk : Blk w lp 121 #[.pointer (some ga), .map (some M), ov, tv]
 map : zcx w M (zbJ s.at_ N) s.at_
 out : zcT w base tv.ownBlock ov s.out
 todo : zeD w base 3 tv (s.todo.map fun i => Value.int .i64 (i : Nat))
 lo : base <= lp /\ base <= M
section
variable {w w' : World} {base lp M N : Nat} {ga : Addr} {ov tv : Value} {s : LS}
theorem zcm.below (h : zcm w base lp M ga N ov tv s) (hb : Below w.heap.size w w') : zcm w' base lp M ga N ov tv s :=
 ⟨h.blk.below hb h.blk.lt, h.map.below hb h.map.lt, h.out.kept (zah hb none) (za8.none_ _ _) (.inl (za8.none_ _ _)), za8.tail_keep (za8.none_ _ _) h.todo (zah hb none), h.lo⟩
theorem zcm.far (h : zcm w base lp M ga N ov tv s) {p : Addr} (hp1 : lp ≠ p.block) {t : TypeId} {cs : Array Value} (hP : Blk w p.block t cs) (hov : ov.ownBlock ≠ some p.block) (ht : t ≠ 3) (u : Value) : zcm (w.setCell p u) base lp M ga N ov tv s := by
 have hg := zar w p u;have hi : za8 w 3 (some p.block) := za8.blk hP ht;refine ⟨h.blk.far hp1 u, h.map.set (h.map.ne_blk hP) u, ?_, hi.tail_keep h.todo hg, h.lo⟩;obtain ⟨css, h1, h2, h3⟩ := h.out;refine ⟨css, h1, h2.kept hg (.inr hov), fun k x hx => ?_⟩;obtain ⟨av, q1, q2, q3⟩ := h3 k x hx;exact ⟨av, q1, hi.own_keep q2 hg, q3⟩
theorem zcm.put (h : zcm w base lp M ga N ov tv s) {i k : Nat} (hi : s.at_ i = none) (hN : i < N) (hm : zcx w' M (zbJ s.at_ N + 1) (upd s.at_ i k)) (hg : w.grownBy w' (some M)) : zcm w' base lp M ga N ov tv ⟨upd s.at_ i k, s.out, s.todo⟩ :=
 ⟨h.blk.grown hg (fun e => h.map.ne_blk h.blk (Option.some.inj e).symm), (zcc hi hN).symm ▸ hm, h.out.kept hg (za8.map h.map _) (.inl (za8.map h.map _)), za8.tail_keep (za8.map h.map _) h.todo hg, h.lo⟩
theorem zcm.push (h : zcm w base lp M ga N ov tv s) {v' : Value} {x : zam} {av : Value} {css : List (List Value)} (h1 : css.length = s.out.length) (ho0 : w.ownsRow base 55 12 ov s.out.length css.flatten)
  (h3 : ∀ (k : Nat) x, s.out[k]? = some x -> ∃ av, css[k]? = some (zae x av) /\ zat w base av x.args /\ ∀ g, av.ownBlock = some g -> tv.ownBlock ≠ some g)
  (ha : zat w base av x.args) (haT : ∀ g, av.ownBlock = some g -> tv.ownBlock ≠ some g)
  (ho : w'.ownsRow base 55 12 v' (s.out.length + 1) (css.flatten ++ zae x av)) (hg : w.grownBy w' ov.ownBlock) :
  zcm (w'.setCell ⟨lp, 2, none⟩ v') base lp M ga N v' tv ⟨s.at_, s.out ++ [x], s.todo⟩ := by
 have hL1 := h.blk.grown hg (fun e => zaq ho0 h.blk (by decide) e.symm);have hM1 := h.map.kept hg (h.map.ne_row ho0);have hgs := zar w' ⟨lp, 2, none⟩ v';have hi : za8 w 3 ov.ownBlock := za8.own ho0 (by decide);have hi2 : za8 w' 3 (some lp) := za8.blk hL1 (by decide);have hn2 : za8 w' 55 (some lp) := za8.blk hL1 (by decide);refine ⟨by have := hL1.set_ 2 v'; simpa using this, hM1.set (hM1.ne_blk hL1) v', ?_, hi2.tail_keep (hi.tail_keep h.todo hg) hgs, h.lo⟩
 have hl : zcT w' base tv.ownBlock v' (s.out ++ [x]) := zcT.snoc h1 (fun k y hy => by
  obtain ⟨av', q1, q2, q3⟩ := h3 k y hy
  exact ⟨av', q1, hi.own_keep q2 hg, q3⟩) ho (hi.own_keep ha hg) haT
 exact hl.kept hgs hn2 (.inl hi2)
theorem zcm.more (h : zcm w base lp M ga N ov tv s) {v' : Value} {i : Nat} (hn : zeD w' base 3 v' (s.todo.map (fun i => Value.int .i64 (i : Nat)) ++ [.int .i64 (i : Nat)])) (hg : w.grownBy w' tv.ownBlock) (hat : v'.ownBlock = tv.ownBlock ∨ v'.ownBlock = some w.heap.size) :
  zcm (w'.setCell ⟨lp, 3, none⟩ v') base lp M ga N ov v' ⟨s.at_, s.out, s.todo ++ [i]⟩ := by
 obtain ⟨gt, hgt, _, hgl⟩ := h.todo.block;have hnN : za8 w 55 tv.ownBlock := za8.tail h.todo (by decide)
 have hneL : some lp ≠ tv.ownBlock := fun e => by
  have ho := za8.tail (e := 121) h.todo (by decide)
  rcases ho lp e.symm with h1 | h1
  ·have := h.blk.lt; omega
  ·exact h1 _ h.blk
 have hneM : some M ≠ tv.ownBlock := fun e => by
  obtain ⟨dead, g, k, n, c, C, rfl, h2, _⟩ := h.todo;exact h.map.ne_row h2 e
 have hL1 := h.blk.grown hg hneL;have hM1 := h.map.kept hg hneM;have hgs := zar w' ⟨lp, 3, none⟩ v';have hi2 : za8 w' 3 (some lp) := za8.blk hL1 (by decide);have hn2 : za8 w' 55 (some lp) := za8.blk hL1 (by decide);refine ⟨by have := hL1.set_ 3 v'; simpa using this, hM1.set (hM1.ne_blk hL1) v', ?_, by rw [List.map_append]; exact hi2.tail_keep hn hgs, h.lo⟩
 have hl1 : zcT w' base v'.ownBlock ov s.out := by
  obtain ⟨css, h1, h2, h3⟩ := h.out;refine ⟨css, h1, hnN.own_keep h2 hg, fun k x hx => ?_⟩;obtain ⟨av, q1, q2, q3⟩ := h3 k x hx;refine ⟨av, q1, zhq q2 q3 hg (.inr rfl), fun g hg' => ?_⟩
  rcases hat with e' | e'
  ·rw [e']; exact q3 g hg'
  ·rw [e'];intro e;injection e with e;have := (q2.lt g hg').2
   omega
 exact hl1.kept hgs hn2 (.inl hi2)
end
end Go.Proofs.YtnfjjliiajaijaaDoor
namespace Go.Proofs.YtnfjjliiajaijaaDoor
structure zjM (ns : List zam) : Prop where
 len : ns.length <= 4096
 next : ∀ x ∈ ns, ∀ t ∈ zaR x, 0 <= t /\ t < ns.length
 args : ∀ x ∈ ns, x.args.length * 8 <= 140737488351232
theorem zjM.hop {ns : List zam} (h : zjM ns) : Hop ns := fun x hx h10 => h.next x hx _ (by unfold zaR; simp [h10])
theorem zgB {x : zam} (h : zaR x ≠ []) : x.next ∈ zaR x := by
 unfold zaR at h ⊢
 split
 ·rename_i h1; rw [if_pos h1] at h; exact absurd rfl h
 ·rename_i h1
  rw [if_neg h1] at h
  split
  ·simp
  ·rename_i h2
   rw [if_neg h2] at h
   split
   ·rename_i h3; rw [if_pos h3] at h; exact absurd rfl h
   ·simp
theorem zik {x : zam} (h : x.op = 9) : x.els ∈ zaR x := by
 unfold zaR;rw [if_neg (by omega)]
 by_cases he : x.els = x.next
 ·rw [if_neg (fun h => h.2 he), if_neg (by omega), he]; simp
 ·rw [if_pos ⟨h, he⟩]; simp
theorem zeR {x : zam} (h : x.op = 9) : zaR x ≠ [] := fun e => by have := zik h; rw [e] at this; cases this
theorem zlb {x : zam} (h : x.op = 10) : zaR x ≠ [] := by unfold zaR; simp [h]
theorem zd4 {ns : List zam} {x : zam} : zaR (zcq ns x) = [] ↔ zaR x = [] := by
 unfold zcq
 split
 ·rename_i h
  exact ⟨fun h' => absurd h' (zeR h), fun h' => absurd h' (zeR h)⟩
 ·exact Iff.rfl
section
variable {ns : List zam}
def laid (ns : List zam) (i : Nat) : zam := if (nd ns i).op = 10 then { nd ns i with next := i } else zcq ns (nd ns i)
def nx (ns : List zam) (i : Nat) : Nat := zcU ns (nd ns i).next.toNat
def el (ns : List zam) (i : Nat) : Nat := zcU ns (nd ns i).els.toNat
def zne (s : LS) (c t : Nat) : Prop := s.at_ t = some (c + 1) ∨ (s.out[c + 1]? = some (ziD t) /\ (s.at_ t).isSome)
structure Good (ns : List zam) (s : LS) (F T : Option Nat) : Prop where
 at_ : ∀ j c, s.at_ j = some c -> j < ns.length /\ s.out[c]? = some (laid ns j) /\
  ((nd ns j).op ≠ 10 -> zaR (nd ns j) ≠ [] -> zne s c (nx ns j) ∨ (c + 1 = s.out.length /\ F = some (nx ns j))) /\
  ((nd ns j).op = 9 -> el ns j ∈ s.todo ∨ (s.at_ (el ns j)).isSome ∨ T = some (el ns j))
 out : ∀ (c : Nat) x, s.out[c]? = some x -> (∃ j, s.at_ j = some c) ∨ (∃ t, x = ziD t /\ (s.at_ t).isSome)
 todo : ∀ i ∈ s.todo, i < ns.length
structure ziQ (s s' : LS) : Prop where
 at_ : ∀ j c, s.at_ j = some c -> s'.at_ j = some c
 out : ∃ l, s'.out = s.out ++ l
 todo : ∃ l, s'.todo = s.todo ++ l
theorem ziQ.refl (s : LS) : ziQ s s := ⟨fun _ _ h => h, ⟨[], by simp⟩, ⟨[], by simp⟩⟩
theorem ziQ.trans {a b c : LS} (h : ziQ a b) (h' : ziQ b c) : ziQ a c := by
 obtain ⟨l, hl⟩ := h.out;obtain ⟨l', hl'⟩ := h'.out;obtain ⟨m, hm⟩ := h.todo;obtain ⟨m', hm'⟩ := h'.todo;exact ⟨fun j c hj => h'.at_ j c (h.at_ j c hj), ⟨l ++ l', by rw [hl', hl, List.append_assoc]⟩, ⟨m ++ m', by rw [hm', hm, List.append_assoc]⟩⟩
theorem zfF {α : Type} {a : Option α} {b : α} (h : a = some b) : a.isSome = true := by rw [h]; rfl
theorem zhN {α : Type} {a : Option α} (h : a.isSome = true) : ∃ b, a = some b := by
 cases a with
 | none => cases h
 | some b => exact ⟨b, rfl⟩
theorem ziQ.some {s s' : LS} (h : ziQ s s') {j : Nat} (hj : (s.at_ j).isSome = true) : (s'.at_ j).isSome = true := by
 obtain ⟨c, hc⟩ := zhN hj;exact zfF (h.at_ j c hc)
theorem get_append {α : Type} {l m : List α} {c : Nat} {x : α} (h : l[c]? = some x) : (l ++ m)[c]? = some x := by
 rw [List.getElem?_append_left (List.getElem?_eq_some_iff.1 h).1]; exact h
theorem ziQ.foll {s s' : LS} (h : ziQ s s') {c t : Nat} (hf : zne s c t) : zne s' c t := by
 obtain ⟨l, hl⟩ := h.out
 rcases hf with hf | ⟨h1, h2⟩
 ·exact .inl (h.at_ _ _ hf)
 ·exact .inr ⟨by rw [hl]; exact get_append h1, h.some h2⟩
theorem zfi {s : LS} {F T : Option Nat} {i : Nat} (hg : Good ns s F T) (hF : ∀ t, F = some t -> t = i) (hT : ∀ t, T = some t -> t = i) (hi : s.at_ i = none) (hiN : i < ns.length)
  (tail : List zam) (td : List Nat) (F' : Option Nat) (htail : tail = [] ∨ (∃ t, tail = [ziD t] /\ ((upd s.at_ i s.out.length) t).isSome))
  (hnew : (nd ns i).op ≠ 10 -> zaR (nd ns i) ≠ [] -> (tail = [] /\ F' = some (nx ns i)) ∨ (tail = [ziD (nx ns i)] /\ (upd s.at_ i s.out.length (nx ns i)).isSome))
  (hF' : F' = none ∨ tail = []) (htd : (nd ns i).op = 9 -> el ns i ∈ td) (htdN : ∀ j ∈ td, j < ns.length) :
  Good ns ⟨upd s.at_ i s.out.length, (s.out ++ [laid ns i]) ++ tail, s.todo ++ td⟩ F' none /\ ziQ s ⟨upd s.at_ i s.out.length, (s.out ++ [laid ns i]) ++ tail, s.todo ++ td⟩ := by
 have hM : ziQ s ⟨upd s.at_ i s.out.length, (s.out ++ [laid ns i]) ++ tail, s.todo ++ td⟩ := by
  refine ⟨fun j c hj => ?_, ⟨[laid ns i] ++ tail, by rw [List.append_assoc]⟩, ⟨td, rfl⟩⟩
  have hne : j ≠ i := fun e => by rw [e, hi] at hj; cases hj
  show upd s.at_ i s.out.length j = some c;rw [upd_ne hne]; exact hj
 refine ⟨⟨fun j c hj => ?_, fun c x hx => ?_, fun j hj => ?_⟩, hM⟩
 ·by_cases hji : j = i
  ·subst hji
   have hc : c = s.out.length := by
    have : upd s.at_ j s.out.length j = some c := hj;rw [zcY] at this;injection this with this;exact this.symm
   subst hc;refine ⟨hiN, ?_, fun h10 hn => ?_, fun h9 => .inl (List.mem_append_right _ (htd h9))⟩
   ·exact get_append (by rw [List.getElem?_append_right (Nat.le_refl _), Nat.sub_self]; rfl)
   ·rcases hnew h10 hn with ⟨h1, h2⟩ | ⟨h1, h2⟩
    ·exact .inr ⟨by simp [h1], h2⟩
    ·refine .inl (.inr ⟨?_, h2⟩);show ((s.out ++ [laid ns j]) ++ tail)[s.out.length + 1]? = _;rw [h1, List.getElem?_append_right (by simp)];simp
  ·have hj' : s.at_ j = some c := by
    have : upd s.at_ i s.out.length j = some c := hj
    rwa [upd_ne hji] at this
   obtain ⟨h1, h2, h3, h4⟩ := hg.at_ j c hj';refine ⟨h1, ?_, fun h10 hn => ?_, fun h9 => ?_⟩
   ·exact get_append (get_append h2)
   ·rcases h3 h10 hn with h | ⟨h, h'⟩
    ·exact .inl (hM.foll h)
    ·refine .inl (.inl ?_);show upd s.at_ i s.out.length (nx ns j) = some (c + 1);rw [hF _ h', h, zcY]
   ·rcases h4 h9 with h | h | h
    ·exact .inl (List.mem_append_left _ h)
    ·exact .inr (.inl (hM.some h))
    ·refine .inr (.inl ?_);show (upd s.at_ i s.out.length (el ns j)).isSome = true;rw [hT _ h, zcY]; rfl
 ·have hx : ((s.out ++ [laid ns i]) ++ tail)[c]? = some x := hx
  rcases Nat.lt_or_ge c s.out.length with h | h
  ·rw [List.getElem?_append_left (by simp; omega), List.getElem?_append_left h] at hx
   rcases hg.out c x hx with ⟨j, hj⟩ | ⟨t, h1, h2⟩
   ·exact .inl ⟨j, hM.at_ _ _ hj⟩
   ·exact .inr ⟨t, h1, hM.some h2⟩
  ·rcases Nat.lt_or_ge c (s.out.length + 1) with h' | h'
   ·have : c = s.out.length := by omega
    subst this;exact .inl ⟨i, zcY⟩
   ·rw [List.getElem?_append_right (by simp; omega)] at hx
    rcases htail with rfl | ⟨t, rfl, ht⟩
    ·simp at hx
    ·have hx1 := (List.getElem?_eq_some_iff.1 hx).1;simp only [List.length_append, List.length_singleton] at hx1
     have h0 : c - (s.out ++ [laid ns i]).length = 0 := by simp; omega
     rw [h0] at hx;simp only [List.getElem?_cons_zero, Option.some.injEq] at hx;exact .inr ⟨t, hx.symm, ht⟩
 ·rcases List.mem_append.1 hj with h | h
  ·exact hg.todo j h
  ·exact htdN j h
theorem Good.forget {s : LS} {F T : Option Nat} {i : Nat} (hg : Good ns s F T) (hF : F = none) (hT : ∀ t, T = some t -> t = i) (hi : (s.at_ i).isSome = true) : Good ns s none none := by
 subst hF;refine ⟨fun j c hj => ?_, hg.out, hg.todo⟩;obtain ⟨h1, h2, h3, h4⟩ := hg.at_ j c hj;refine ⟨h1, h2, h3, fun h9 => ?_⟩
 rcases h4 h9 with h | h | h
 ·exact .inl h
 ·exact .inr (.inl h)
 ·rw [hT _ h]; exact .inr (.inl hi)
theorem zdM {s : LS} {i c : Nat} (h : s.at_ i = some c) : ∀ fuel, zeC ns fuel s i = s
 | 0 => rfl
 | fuel + 1 => by simp only [zeC, h]
theorem zej {s : LS} {i : Nat} (h : s.at_ i = none) (h10 : (nd ns i).op = 10) (fuel : Nat) : zeC ns (fuel + 1) s i = ⟨upd s.at_ i s.out.length, s.out ++ [{ nd ns i with next := i }], s.todo⟩ := by
 simp only [zeC, h, if_pos h10]
theorem zek {s : LS} {i : Nat} (h : s.at_ i = none) (h10 : (nd ns i).op ≠ 10) (hn : zaR (nd ns i) = []) (fuel : Nat) : zeC ns (fuel + 1) s i = ⟨upd s.at_ i s.out.length, s.out ++ [zcq ns (nd ns i)], s.todo⟩ := by
 simp only [zeC, h, if_neg h10, if_pos hn]
def zes (ns : List zam) (s : LS) (i : Nat) : LS :=
 ⟨upd s.at_ i s.out.length, (s.out ++ [zcq ns (nd ns i)]) ++ (if (upd s.at_ i s.out.length (zcU ns (nd ns i).next.toNat)).isSome then [ziD (zcU ns (nd ns i).next.toNat)] else []),
  if (nd ns i).op = 9 then s.todo ++ [zcU ns (nd ns i).els.toNat] else s.todo⟩
theorem zdA {s : LS} {i : Nat} (h : s.at_ i = none) (h10 : (nd ns i).op ≠ 10) (hn : zaR (nd ns i) ≠ []) (fuel : Nat) : zeC ns (fuel + 1) s i = zeC ns fuel (zes ns s i) (zcU ns (nd ns i).next.toNat) := by
 simp only [zeC, h, if_neg h10, if_neg hn]; rfl
theorem zgG {i : Nat} (h : (nd ns i).op = 10) : laid ns i = { nd ns i with next := i } := by unfold laid; rw [if_pos h]
theorem zfg {i : Nat} (h : (nd ns i).op ≠ 10) : laid ns i = zcq ns (nd ns i) := by unfold laid; rw [if_neg h]
theorem zmT (hns : zjM ns) {i : Nat} (hi : i < ns.length) (hn : zaR (nd ns i) ≠ []) : nx ns i < ns.length := by
 have := hns.next _ (zfw hi) _ (zgB hn);exact zeG hns.hop (by omega)
theorem zns (hns : zjM ns) {i : Nat} (hi : i < ns.length) (h9 : (nd ns i).op = 9) : el ns i < ns.length := by
 have := hns.next _ (zfw hi) _ (zik h9);exact zeG hns.hop (by omega)
theorem zfh (hns : zjM ns) : ∀ (fuel : Nat) {s : LS} {F T : Option Nat} {i : Nat}, Good ns s F T -> (∀ t, F = some t -> t = i /\ s.at_ i = none) -> (∀ t, T = some t -> t = i) -> i < ns.length -> ns.length < fuel + zbJ s.at_ ns.length ->
  Good ns (zeC ns fuel s i) none none /\ ((zeC ns fuel s i).at_ i).isSome = true /\ ziQ s (zeC ns fuel s i)
 | 0, s, F, T, i, _, _, _, _, hfu => by
  have := zcE (f := s.at_) ns.length
  omega
 | fuel + 1, s, F, T, i, hg, hF, hT, hiN, hfu => by
  rcases hi : s.at_ i with _ | c
  ·by_cases h10 : (nd ns i).op = 10
   ·rw [zej hi h10, <- zgG h10];obtain ⟨h1, h2⟩ := zfi hg (fun t h => (hF t h).1) hT hi hiN [] [] none (.inl rfl) (fun h => absurd h10 h) (.inl rfl) (fun h => by omega) nofun;rw [List.append_nil, List.append_nil] at h1 h2;exact ⟨h1, by show (upd s.at_ i s.out.length i).isSome = true; rw [zcY]; rfl, h2⟩
   ·by_cases hn : zaR (nd ns i) = []
    ·rw [zek hi h10 hn, <- zfg h10];obtain ⟨h1, h2⟩ := zfi hg (fun t h => (hF t h).1) hT hi hiN [] [] none (.inl rfl) (fun _ h => absurd hn h) (.inl rfl) (fun h => absurd hn (zeR h)) nofun;rw [List.append_nil, List.append_nil] at h1 h2;exact ⟨h1, by show (upd s.at_ i s.out.length i).isSome = true; rw [zcY]; rfl, h2⟩
    ·rw [zdA hi h10 hn];have hcard : zbJ (zes ns s i).at_ ns.length = zbJ s.at_ ns.length + 1 := zcc hi hiN;have htl := zmT hns hiN hn
     have key : ∃ tail td, zes ns s i = ⟨upd s.at_ i s.out.length, (s.out ++ [laid ns i]) ++ tail, s.todo ++ td⟩ /\ tail = (if (upd s.at_ i s.out.length (nx ns i)).isSome then [ziD (nx ns i)] else []) /\ ((nd ns i).op = 9 -> el ns i ∈ td) /\ ∀ j ∈ td, j < ns.length := by
      refine ⟨_, if (nd ns i).op = 9 then [el ns i] else [], ?_, rfl, fun h => by rw [if_pos h]; simp, fun j hj => ?_⟩
      ·unfold zes;rw [zfg h10]
       congr 1
       split <;> simp [el]
      ·split at hj
       ·rename_i h9
        rw [List.mem_singleton] at hj;rw [hj]; exact zns hns hiN h9
       ·cases hj
     obtain ⟨tail, td, hS, htail, htd, htdN⟩ := key
     by_cases hsome : (upd s.at_ i s.out.length (nx ns i)).isSome = true
     ·rw [if_pos hsome] at htail;obtain ⟨h1, h2⟩ := zfi hg (fun t h => (hF t h).1) hT hi hiN tail td none (.inr ⟨_, htail, hsome⟩) (fun _ _ => .inr ⟨htail, hsome⟩) (.inl rfl) htd htdN;rw [<- hS] at h1 h2;obtain ⟨q1, q2, q3⟩ := zfh hns fuel (i := zcU ns (nd ns i).next.toNat) h1 nofun nofun htl (by omega);refine ⟨q1, q3.some ?_, h2.trans q3⟩;show (upd s.at_ i s.out.length i).isSome = true;rw [zcY]; rfl
     ·rw [if_neg hsome] at htail;obtain ⟨h1, h2⟩ := zfi hg (fun t h => (hF t h).1) hT hi hiN tail td (some (nx ns i)) (.inl htail) (fun _ _ => .inl ⟨htail, rfl⟩) (.inr htail) htd htdN;rw [<- hS] at h1 h2
      have hnone : (zes ns s i).at_ (nx ns i) = none := by
       have e : (zes ns s i).at_ (nx ns i) = upd s.at_ i s.out.length (nx ns i) := rfl;rw [e]
       cases h : upd s.at_ i s.out.length (nx ns i) with
       | none => rfl
       | some c => rw [h] at hsome; exact absurd rfl hsome
      obtain ⟨q1, q2, q3⟩ := zfh hns fuel (i := zcU ns (nd ns i).next.toNat) h1 (fun t ht => by injection ht with ht; exact ⟨ht.symm, hnone⟩) nofun htl (by omega);refine ⟨q1, q3.some ?_, h2.trans q3⟩;show (upd s.at_ i s.out.length i).isSome = true;rw [zcY]; rfl
  ·rw [zdM hi]
   have hFn : F = none := by
    cases F with
    | none => rfl
    | some t => have := (hF t rfl).2; rw [hi] at this; cases this
   exact ⟨hg.forget hFn hT (zfF hi), zfF hi, ziQ.refl s⟩
structure Bnd (ns : List zam) (s : LS) (m : Nat) : Prop where
 out : s.out.length <= 2 * zbJ s.at_ ns.length
 todo : s.todo.length + m <= 1 + zbJ s.at_ ns.length
theorem zgR (hns : zjM ns) : ∀ (fuel : Nat) {s : LS} {i m : Nat}, Bnd ns s m -> i < ns.length -> Bnd ns (zeC ns fuel s i) m
 | 0, _, _, _, h, _ => h
 | fuel + 1, s, i, m, h, hiN => by
  rcases hi : s.at_ i with _ | c
  ·have hc : ∀ v, zbJ (upd s.at_ i v) ns.length = zbJ s.at_ ns.length + 1 := fun v => zcc hi hiN
   have h1 := h.out;have h2 := h.todo
   by_cases h10 : (nd ns i).op = 10
   ·rw [zej hi h10];exact ⟨by rw [hc]; simp; omega, by rw [hc]; simp; omega⟩
   ·by_cases hn : zaR (nd ns i) = []
    ·rw [zek hi h10 hn];exact ⟨by rw [hc]; simp; omega, by rw [hc]; simp; omega⟩
    ·rw [zdA hi h10 hn];refine zgR hns fuel ?_ (zmT hns hiN hn);refine ⟨?_, ?_⟩
     ·show ((s.out ++ [_]) ++ _).length <= 2 * zbJ (upd s.at_ i _) _;rw [hc];simp only [List.length_append, List.length_singleton]
      split
      ·simp only [List.length_singleton]; omega
      ·simp only [List.length_nil]; omega
     ·show (if _ then _ else _ : List Nat).length + m <= 1 + zbJ (upd s.at_ i _) _;rw [hc]
      split
      ·rw [List.length_append, List.length_singleton]; omega
      ·omega
  ·rw [zdM hi]; exact h
theorem zhu (hns : zjM ns) : ∀ (fuel : Nat) {s : LS} {m : Nat}, Good ns s none none -> Bnd ns s m -> ns.length + 2 <= fuel + m ->
  Good ns (zd3 ns fuel s) none none /\ Bnd ns (zd3 ns fuel s) 0 /\ (zd3 ns fuel s).todo = [] /\ (∀ j c, s.at_ j = some c -> (zd3 ns fuel s).at_ j = some c) /\ ∃ l, (zd3 ns fuel s).out = s.out ++ l
 | 0, s, m, hg, hb, hf => by
  have := hb.todo;have := zcE (f := s.at_) ns.length
  omega
 | fuel + 1, s, m, hg, hb, hf => by
  rcases ht : s.todo with _ | ⟨i, r⟩
  ·simp only [zd3, ht];exact ⟨hg, ⟨hb.out, by have := hb.todo; omega⟩, trivial, fun _ _ h => h, [], by simp⟩
  ·simp only [zd3, ht];have hiN : i < ns.length := hg.todo i (by rw [ht]; exact List.mem_cons_self)
   have hg' : Good ns ⟨s.at_, s.out, r⟩ none (some i) := by
    refine ⟨fun j c hj => ?_, hg.out, fun j hj => hg.todo j (by rw [ht]; exact List.mem_cons_of_mem _ hj)⟩;obtain ⟨h1, h2, h3, h4⟩ := hg.at_ j c hj;refine ⟨h1, h2, h3, fun h9 => ?_⟩
    rcases h4 h9 with h | h | h
    ·rw [ht] at h
     rcases List.mem_cons.1 h with h | h
     ·exact .inr (.inr (by rw [h]))
     ·exact .inl h
    ·exact .inr (.inl h)
    ·cases h
   have hb' : Bnd ns ⟨s.at_, s.out, r⟩ (m + 1) := ⟨hb.out, by have := hb.todo; rw [ht] at this; simp only [List.length_cons] at this; show r.length + (m + 1) <= 1 + zbJ s.at_ ns.length; omega⟩
   obtain ⟨q1, _, q3⟩ := zfh hns (ns.length + 1) (i := i) hg' nofun (fun t h => by injection h with h; exact h.symm) hiN (by omega);have q4 := zgR hns (ns.length + 1) hb' hiN;obtain ⟨r1, r2, r3, r4, l2, r5⟩ := zhu hns fuel q1 q4 (by omega);obtain ⟨l, hl⟩ := q3.out;exact ⟨r1, r2, r3, fun j c hj => r4 j c (q3.at_ j c hj), l ++ l2, by rw [r5, hl, List.append_assoc]⟩
structure zm9 (ns : List zam) (entry : Nat) (s : LS) : Prop where
 at_ : ∀ j c, s.at_ j = some c -> j < ns.length /\ s.out[c]? = some (laid ns j) /\ ((nd ns j).op ≠ 10 -> zaR (nd ns j) ≠ [] -> zne s c (nx ns j)) /\ ((nd ns j).op = 9 -> (s.at_ (el ns j)).isSome)
 out : ∀ (c : Nat) x, s.out[c]? = some x -> (∃ j, s.at_ j = some c) ∨ (∃ t, x = ziD t /\ (s.at_ t).isSome)
 entry : s.at_ (zcU ns entry) = some 0
 todo : s.todo = []
 len : s.out.length <= 2 * ns.length
 pos : 0 < s.out.length
theorem zdG (hns : zjM ns) {entry : Nat} (he : entry < ns.length) : zm9 ns entry (zfB ns entry) := by
 have hi := zeG hns.hop he;have hc0 := zb2 ns.length
 have hg0 : Good ns ⟨fun _ => none, [], []⟩ none (some (zcU ns entry)) := ⟨nofun, fun c x h => by simp at h, nofun⟩
 obtain ⟨q1, q2, q3⟩ := zfh hns (ns.length + 1) (i := zcU ns entry) hg0 nofun (fun t h => by injection h with h; exact h.symm) hi (by omega);have q4 : Bnd ns (zeC ns (ns.length + 1) ⟨fun _ => none, [], []⟩ (zcU ns entry)) 1 := zgR hns _ (s := ⟨fun _ => none, [], []⟩) ⟨by simp [hc0], by simp [hc0]⟩ hi;obtain ⟨r1, r2, r3, r4, l, r5⟩ := zhu hns (ns.length + 1) q1 q4 (by omega);have hS : zfB ns entry = zd3 ns (ns.length + 1) (zeC ns (ns.length + 1) ⟨fun _ => none, [], []⟩ (zcU ns entry)) := rfl;rw [<- hS] at r1 r2 r3 r4 r5
 have hz : (zeC ns (ns.length + 1) ⟨fun _ => none, [], []⟩ (zcU ns entry)).at_ (zcU ns entry) = some 0 := by
  have hu : (upd (fun _ => none) (zcU ns entry) 0) (zcU ns entry) = some 0 := zcY
  by_cases h10 : (nd ns (zcU ns entry)).op = 10
  ·rw [zej rfl h10]; exact hu
  ·by_cases hn : zaR (nd ns (zcU ns entry)) = []
   ·rw [zek rfl h10 hn]; exact hu
   ·rw [zdA rfl h10 hn]
    have hle : ∀ (fuel : Nat) (s : LS) (i : Nat) j c, s.at_ j = some c -> (zeC ns fuel s i).at_ j = some c := by
     intro fuel
     induction fuel with
     | zero => intro s i j c h; exact h
     | succ fuel ih =>
      intro s i j c h
      rcases hi : s.at_ i with _ | k
      ·have hne : j ≠ i := fun e => by rw [e, hi] at h; cases h
       have hu : ∀ v, upd s.at_ i v j = some c := fun v => by rw [upd_ne hne]; exact h
       by_cases h10 : (nd ns i).op = 10
       ·rw [zej hi h10]; exact hu _
       ·by_cases hn : zaR (nd ns i) = []
        ·rw [zek hi h10 hn]; exact hu _
        ·rw [zdA hi h10 hn]; exact ih _ _ _ _ (hu _)
      ·rw [zdM hi]; exact h
    exact hle _ _ _ _ _ hu
 have hen := r4 _ _ hz;refine ⟨fun j c hj => ?_, r1.out, hen, r3, ?_, ?_⟩
 ·obtain ⟨h1, h2, h3, h4⟩ := r1.at_ j c hj;refine ⟨h1, h2, fun a b => ?_, fun h9 => ?_⟩
  ·rcases h3 a b with h | ⟨_, h⟩
   ·exact h
   ·cases h
  ·rcases h4 h9 with h | h | h
   ·rw [r3] at h; cases h
   ·exact h
   ·cases h
 ·have h1 := r2.out;have h2 := zcE (f := (zfB ns entry).at_) ns.length
  omega
 ·obtain ⟨_, h2, _⟩ := r1.at_ _ _ hen;exact (List.getElem?_eq_some_iff.1 h2).1
end
end Go.Proofs.YtnfjjliiajaijaaDoor

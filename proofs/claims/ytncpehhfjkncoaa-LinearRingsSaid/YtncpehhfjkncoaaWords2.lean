/- More words for memory: rows and blocks behind stores and growth, a frame that names what may turn, copy into a row of the call's own. No condition. -/
import Derived.Test.YtncpehhfjkncoaaRows
import Derived.Test.YtncpehhfjkncoaaWords
import Derived.Laws.CopyOwn
import Derived.Laws.ResultCell
import Derived.OneCell
set_option linter.unusedVariables false
set_option linter.unusedSimpArgs false
namespace Go.Proofs.Ytncpehhfjkncoaa
open Go.RowKit

theorem addr_zero (R k : Nat) : (⟨R, 0, none⟩ : Addr).add k = ⟨R, k, none⟩ := by
  unfold Addr.add
  by_cases h : k = 0
  · simp [h]
  · simp [h]
theorem addr_at (R o k : Nat) : (⟨R, o, none⟩ : Addr).add k = ⟨R, o + k, none⟩ := by
  unfold Addr.add
  by_cases h : k = 0
  · simp [h]
  · simp [h]
theorem addr_sub (ad : Addr) (m t : Nat) (ht : 0 < t) : (⟨(ad.add m).block, (ad.add m).off + t, none⟩ : Addr) = ad.add (m + t) := by
  unfold Addr.add
  by_cases h : m = 0
  · subst h; simp [show ¬ t = 0 by omega]
  · simp [h, Nat.add_assoc]
theorem Blk.new2 (w : World) (o : Obj) (t : TypeId) (cs : Array Value) : Blk ((w.alloc o).alloc (.cells cs t)) (w.heap.size + 1) t cs := by
  have := Blk.new (w.alloc o) t cs
  rwa [World.size_alloc] at this
theorem Reads.newS {w : World} (H : Nat) (hH : w.heap.size = H) (cs : Array Value) (t : TypeId) (size n : Nat) (xs : List Value) (hx : cs.toList = xs) (hn : xs.length = n * size) : Reads (w.alloc (.cells cs t)) (H + 1) size (some ⟨H, 0, none⟩) n xs := by
  subst hH hx
  exact ⟨hn, fun _ => ⟨_, rfl, Nat.lt_succ_self _, World.news_of_block (cs := cs) (t := t) (fr := (0, 0)) (heap_alloc_new w _)⟩⟩
theorem Reads.of_blk {w : World} {g size n : Nat} {t : TypeId} {cs : Array Value} {xs : List Value} (h : Blk w g t cs) (hx : cs.toList = xs) (hn : xs.length = n * size) : Reads w w.heap.size size (some ⟨g, 0, none⟩) n xs := by
  subst hx
  exact ⟨hn, fun _ => ⟨_, rfl, h.lt, World.news_of_block (cs := cs) (t := t) (fr := (0, 0)) h⟩⟩
theorem Reads.take {w : World} {B n k : Nat} {A : Option Addr} {xs : List Value} (h : Reads w B 1 A n xs) (hk : k ≤ n) : Reads w B 1 A k (xs.take k) :=
  ⟨by have := h.1; rw [List.length_take]; omega, fun hn => by
    obtain ⟨ad, e, hb, hc⟩ := h.2 (by omega)
    refine ⟨ad, e, hb, fun j u hu => hc j u ?_⟩
    have hj := (List.getElem?_eq_some_iff.1 hu).1
    rw [List.length_take] at hj
    rwa [List.getElem?_take_of_lt (by omega)] at hu⟩
theorem own_of_blk {w : World} {g base size n : Nat} {t : TypeId} {cs : Array Value} {xs : List Value} (h : Blk w g t cs) (hb : base ≤ g) (hx : cs.toList = xs) (hn : xs.length = n * size) (hm : n ≤ maxLen) : w.ownsRow base t size (.slice (some ⟨g, 0, none⟩) n n) n xs := by
  subst hx
  exact ⟨hn, .inr ⟨g, n, cs, rfl, hb, h, Nat.le_refl _, hm, by simpa using hn, by rw [← hn]; exact List.take_length⟩⟩
theorem own_blk {w : World} {base size n g : Nat} {e : TypeId} {v : Value} {xs : List Value} (h : w.ownsRow base e size v n xs) (hg : v.ownBlock = some g) : ∃ cs, Blk w g e cs := by
  rcases h.2 with ⟨rfl, _⟩ | ⟨g', cap, cur, rfl, _, hh, _⟩
  · cases hg
  · injection hg with hg
    simp only at hg
    subst hg
    exact ⟨cur, hh⟩
theorem own_app {w : World} {base size n : Nat} {e : TypeId} {v : Value} {xs ys : List Value} (h : w.ownsRow base e size v (0 + n) ([] ++ xs)) (hx : xs = ys) : w.ownsRow base e size v n ys := by
  subst hx; rw [Nat.zero_add, List.nil_append] at h; exact h
theorem grown_setCell (w : World) (p : Addr) (u : Value) : w.grownBy (w.setCell p u) (some p.block) := only_setCell (g := p.block) (World.grownBy.refl w _) (.inl rfl) u
theorem own_kept' {w w' : World} {base size n : Nat} {e : TypeId} {v : Value} {xs : List Value} {row : Option Nat} (h : w.ownsRow base e size v n xs) (hg : w.grownBy w' row)
    (hr : ∀ g, row = some g → w.heap.size ≤ g ∨ ∃ t cs, Blk w g t cs ∧ t ≠ e) : w'.ownsRow base e size v n xs := by
  refine h.kept hg ?_
  by_cases hv : v.ownBlock = none
  · exact .inl hv
  · right
    intro heq
    cases hrow : row with
    | none => exact hv (by rw [heq, hrow])
    | some g =>
      rw [hrow] at heq
      rcases hr g hrow with h1 | ⟨t, cs, h1, h2⟩
      · have := (h.lt g heq).2; omega
      · exact own_blk_ne h h1 (Ne.symm h2) heq
theorem own_set_any {w : World} {M size n g j : Nat} {e : TypeId} {v u : Value} {xs : List Value} (h : w.ownsRow M e size v n xs) :
    ∃ xs', (w.setCell ⟨g, j, none⟩ u).ownsRow M e size v n xs' ∧ ∀ (k : Nat) x, xs'[k]? = some x → xs[k]? = some x ∨ x = u ∧ k = j ∧ v.ownBlock = some g := by
  by_cases hv : v.ownBlock = some g
  · rcases h.2 with ⟨rfl, _⟩ | ⟨g', cap, cur, rfl, hb, hh, h1, h2, h3, h4⟩
    · cases hv
    · injection hv with hv
      simp only at hv
      subst hv
      have hset : (w.setCell ⟨g', j, none⟩ u).heap[g']? = some (.cells (cur.setIfInBounds j u) e (0, 0)) := Blk.set_ (show Blk w g' e cur from hh) j u
      have hlen : ((cur.setIfInBounds j u).toList.take (n * size)).length = n * size := by
        rw [List.length_take, Array.length_toList, Array.size_setIfInBounds, h3]
        exact Nat.min_eq_left (Nat.mul_le_mul_right _ h1)
      refine ⟨(cur.setIfInBounds j u).toList.take (n * size), ⟨hlen, .inr ⟨g', cap, _, rfl, hb, hset, h1, h2, by simpa using h3, rfl⟩⟩, fun k x hx => ?_⟩
      have hk : k < n * size := by
        have := (List.getElem?_eq_some_iff.1 hx).1
        omega
      rw [List.getElem?_take_of_lt hk, Array.toList_setIfInBounds] at hx
      by_cases hkj : k = j
      · subst hkj
        rw [List.getElem?_set_self'] at hx
        cases hc : cur.toList[k]? with
        | none => rw [hc] at hx; simp at hx
        | some y => rw [hc] at hx; simp at hx; exact .inr ⟨hx.symm, rfl, rfl⟩
      · rw [List.getElem?_set_ne (Ne.symm hkj)] at hx
        left
        rw [← h4, List.getElem?_take_of_lt hk]
        exact hx
  · exact ⟨xs, ownsRow_setCell_other h (a := ⟨g, j, none⟩) hv u, fun k x hx => .inl hx⟩
theorem own_row {w : World} {M size n' n c : Nat} {e : TypeId} {A : Option Addr} {xs : List Value} (h : w.ownsRow M e size (.slice A n c) n' xs) (hn : 0 < n) :
    n' = n ∧ ∃ g, A = some ⟨g, 0, none⟩ ∧ M ≤ g ∧ (∃ cs, Blk w g e cs) ∧ ∀ (j : Nat) u, xs[j]? = some u → w.cell? ((⟨g, 0, none⟩ : Addr).add j) = some u := by
  obtain ⟨A', c', e1, _⟩ := own_any h
  injection e1 with e1 e2 e3
  subst e2
  obtain ⟨g, cap, e4, hb, _⟩ := own_form h (by omega)
  injection e4 with e4
  subst e4
  exact ⟨rfl, g, rfl, hb, own_blk h rfl, h.cells (g := g) rfl⟩
theorem results_row_tmp {fn : Func} {p u : Tmp} {ty : TypeId} {P : Program} (h : fn.results = #[.cell p ty, .tmp u]) (tmps : Array Value) (w : World) (g : Nat) (t : TypeId) (cs : Array Value) (fr : Nat × Nat) (d : Array Field)
    (hp : tmps.getD p undef = .pointer (some ⟨g, 0, none⟩)) (hg : w.heap[g]? = some (.cells cs t fr))
    (hu : P.underlying ty = some (.struct d)) (hi : (P.info? ty).map (·.size) = some cs.size) :
    (results fn tmps).run P w = .ok (.tuple #[.agg cs, tmps.getD u undef]) w := by
  rw [results_cell_tmp h, hp]
  simp [asAddr, run_loadVar_row w g t ty cs fr (.struct d) hg hu rfl hi]

/-- nothing that was there has turned, but for the blocks of S -/
structure Keeps (S : Nat → Prop) (w w' : World) : Prop where
  os : w'.os = w.os
  tape : w'.tape = w.tape
  output : w'.output = w.output
  size : w.heap.size ≤ w'.heap.size
  block : ∀ i, i < w.heap.size → ¬ S i → w'.heap[i]? = w.heap[i]?
section
variable {S S' : Nat → Prop} {w w' w'' : World}
theorem Keeps.refl (S : Nat → Prop) (w : World) : Keeps S w w := ⟨rfl, rfl, rfl, Nat.le_refl _, fun _ _ _ => rfl⟩
theorem Keeps.trans (h : Keeps S w w') (k : Keeps S' w' w'') (hS : ∀ i, S' i → S i ∨ w.heap.size ≤ i) : Keeps S w w'' :=
  ⟨k.os.trans h.os, k.tape.trans h.tape, k.output.trans h.output, Nat.le_trans h.size k.size, fun i hi hn =>
    (k.block i (Nat.lt_of_lt_of_le hi h.size) (fun hs => by rcases hS i hs with h1 | h1; exact hn h1; omega)).trans (h.block i hi hn)⟩
theorem Keeps.drewN (h : Keeps S w w') (q : Nat) : Keeps S w (w'.drewN q) := ⟨h.os, h.tape, h.output, h.size, h.block⟩
theorem Keeps.drew (h : Keeps S w w') : Keeps S w w'.drew := ⟨h.os, h.tape, h.output, h.size, h.block⟩
theorem Keeps.of_drew (h : Keeps S w.drew w') : Keeps S w w' := ⟨h.os, h.tape, h.output, h.size, h.block⟩
theorem Keeps.grown {row : Option Nat} (h : Keeps S w w') (hg : w'.grownBy w'' row) (hr : ∀ g, row = some g → S g ∨ w.heap.size ≤ g) : Keeps S w w'' :=
  ⟨hg.os.trans h.os, hg.tape.trans h.tape, hg.output.trans h.output, Nat.le_trans h.size hg.size, fun i hi hn =>
    (hg.block i (Nat.lt_of_lt_of_le hi h.size) (fun e => by rcases hr i e.symm with h1 | h1; exact hn h1; omega)).trans (h.block i hi hn)⟩
theorem Keeps.alloc (h : Keeps S w w') (o : Obj) : Keeps S w (w'.alloc o) := h.grown (World.grownBy_alloc w' o none) nofun
theorem Keeps.setCell (h : Keeps S w w') {p : Addr} (hp : S p.block ∨ w.heap.size ≤ p.block) (u : Value) : Keeps S w (w'.setCell p u) :=
  h.grown (grown_setCell w' p u) fun g e => by injection e with e; subst e; exact hp
theorem Keeps.below {B : Nat} (h : Keeps S w w') (hb : Below B w' w'') (hB : w.heap.size ≤ B) : Keeps S w w'' :=
  ⟨hb.os.trans h.os, hb.tape.trans h.tape, hb.output.trans h.output, Nat.le_trans h.size hb.size, fun i hi hn => (hb.block i (by omega)).trans (h.block i hi hn)⟩
theorem Keeps.mono (h : Keeps S w w') (hS : ∀ i, i < w.heap.size → S i → S' i) : Keeps S' w w' := ⟨h.os, h.tape, h.output, h.size, fun i hi hn => h.block i hi fun hs => hn (hS i hi hs)⟩
theorem Keeps.toBelow {B : Nat} (h : Keeps S w w') (hB : B ≤ w.heap.size) (hS : ∀ i, S i → B ≤ i) : Below B w w' :=
  ⟨h.os, h.tape, h.output, h.size, fun i hi => h.block i (by omega) fun hs => by have := hS i hs; omega⟩
theorem Keeps.blk {g : Nat} {t : TypeId} {cs : Array Value} (h : Keeps S w w') (hb : Blk w g t cs) (hg : ¬ S g) : Blk w' g t cs := (h.block g hb.lt hg).trans hb
theorem Keeps.cell (h : Keeps S w w') {p : Addr} (hl : p.block < w.heap.size) (hp : ¬ S p.block) : w'.cell? p = w.cell? p := World.cell?_of_block (h.block _ hl hp)
theorem Keeps.own {base size n : Nat} {e : TypeId} {v : Value} {xs : List Value} (h : Keeps S w w') (ho : w.ownsRow base e size v n xs) (hs : ∀ k, v.ownBlock = some k → ¬ S k) : w'.ownsRow base e size v n xs := by
  rcases ho.2 with h0 | ⟨g, cap, cur, rfl, h1, h2, h3⟩
  · exact ⟨ho.1, .inl h0⟩
  · exact ⟨ho.1, .inr ⟨g, cap, cur, rfl, h1, h.blk (t := e) (cs := cur) h2 (hs g rfl), h3⟩⟩
theorem Keeps.reads {B size n : Nat} {A : Option Addr} {xs : List Value} (h : Keeps S w w') (hr : Reads w B size A n xs) (hB : B ≤ w.heap.size) (hs : ∀ ad, A = some ad → ¬ S ad.block) : Reads w' B size A n xs :=
  ⟨hr.1, fun hn => by
    obtain ⟨ad, e, hb, hc⟩ := hr.2 hn
    exact ⟨ad, e, hb, fun j u hu => (h.cell (by rw [block_of_add]; omega) (by rw [block_of_add]; exact hs ad e)).trans (hc j u hu)⟩⟩
theorem Keeps.of_below {B : Nat} (h : Below B w w') (hB : w.heap.size ≤ B) : Keeps S w w' := (Keeps.refl S w).below h hB
theorem Keeps.of_grown {row : Option Nat} (hg : w.grownBy w' row) : Keeps (fun i => row = some i) w w' := (Keeps.refl _ w).grown hg fun g e => .inl e
end

/-- copy into a row of the call's own, from a place on -/
theorem run_copy_into {P : Program} (w : World) (dT sT ty elem : TypeId) (hu : P.underlying dT = some (.slice elem)) (hsz : (P.info? elem).map (·.size) = some 1)
    {base g n cap off m k c c2 : Nat} {xs news : List Value} (hown : w.ownsRow base elem 1 (.slice (some ⟨g, 0, none⟩) n cap) n xs) (a : Addr) (hl : news.length = m)
    (hsrc : ∀ j u, news[j]? = some u → w.cell? (a.add j) = some u) (h1 : ∀ u ∈ news, u.oneCell' = true) (hoff : off + m ≤ n) (hk : m ≤ k) :
    ∃ w', (Builtin.copy_ #[dT, sT] ty #[.slice (some ⟨g, off, none⟩) k c, .slice (some a) m c2]).run P w = .ok (goInt m) w' ∧ w'.ownsRow base elem 1 (.slice (some ⟨g, 0, none⟩) n cap) n (splice xs off news) ∧ w.grownBy w' (some g) := by
  rcases hown.2 with ⟨h0, _⟩ | ⟨g', cap', cur, hv, hb, hh, hn, hm, hs, ht⟩
  · cases h0
  · injection hv with hv1 _ hv3
    injection hv1 with hv1
    injection hv1 with hv1
    subst hv1 hv3
    rw [Nat.mul_one] at hs ht
    have hrun := run_copy_row (P := P) w dT sT ty elem g off k c a m c2 cur elem news hu hsz hh (by rw [hl]; exact (Nat.min_eq_left hk).symm) hsrc (by omega) h1
    rw [hl] at hrun
    have hset := setRow_heap w g cur (cur.toList.take off ++ news ++ cur.toList.drop (off + m)).toArray elem (0, 0) hh
    refine ⟨_, hrun, ⟨by rw [length_splice _ _ _ (by have := hown.1; omega)]; exact hown.1, .inr ⟨g, cap, _, rfl, hb, hset, hn, hm, ?_, ?_⟩⟩, ⟨rfl, rfl, rfl, by simp [World.setRow], fun i _ hi => setRow_other w g i _ (fun e => hi (by rw [e]))⟩⟩
    · simp [hl, hs]; omega
    · rw [Nat.mul_one, ← ht]
      have e1 : (cur.toList.take n).take off = cur.toList.take off := by rw [List.take_take, Nat.min_eq_left (by omega)]
      have e2 : (cur.toList.take n).drop (off + m) = (cur.toList.drop (off + m)).take (n - (off + m)) := List.drop_take
      have l1 : (cur.toList.take off).length = off := by rw [List.length_take, Array.length_toList, hs]; omega
      simp only [splice, hl, e1, e2]
      rw [List.append_assoc, List.take_append, l1, List.take_of_length_le (by rw [l1]; omega), List.take_append, List.take_of_length_le (l := news) (by rw [hl]; omega), hl]
      congr 3
      omega
theorem wp_copy_into {P : Program} {o : Oper} {a : Act} {w : World} {K : Act → World → Prop} {Q : Exit → Act → World → Prop} (d s : Operand) (dT sT : TypeId)
    (ho : o.op = .call { callee := .builtin .copy, args := #[d, s], argTypes := #[dT, sT] }) (elem : TypeId) (hu : P.underlying dT = some (.slice elem)) (hsz : (P.info? elem).map (·.size) = some 1)
    {base g n cap off m k c c2 : Nat} {xs news : List Value} (hown : w.ownsRow base elem 1 (.slice (some ⟨g, 0, none⟩) n cap) n xs) (ad : Addr) (hd : a.eval d = .slice (some ⟨g, off, none⟩) k c) (hs : a.eval s = .slice (some ad) m c2) (hl : news.length = m)
    (hsrc : ∀ j u, news[j]? = some u → w.cell? (ad.add j) = some u) (h1 : ∀ u ∈ news, u.oneCell' = true) (hoff : off + m ≤ n) (hk : m ≤ k)
    (h : ∀ w', w'.ownsRow base elem 1 (.slice (some ⟨g, 0, none⟩) n cap) n (splice xs off news) → w.grownBy w' (some g) → K (a.put o.dst (goInt m)) w') : o.wp P a w K Q := by
  obtain ⟨w', hrun, h2, h3⟩ := run_copy_into (P := P) w dT sT o.type elem hu hsz hown ad hl hsrc h1 hoff hk (c := c) (c2 := c2)
  unfold Oper.wp execOp
  simp only [ho, resolve, invoke, builtin, Sem.run_bind, Sem.run_pure, Result.andThen_ok, List.map_toArray, List.map_cons, List.map_nil, hd, hs, hrun]
  exact h w' h2 h3
theorem wpList_copy_into {P : Program} {w : World} {ops : Array Oper} {rest : List Oper} {o : Oper} {a : Act} {Q : Exit → Act → World → Prop} (hgd : o.guard = none) (d s : Operand) (dT sT : TypeId)
    (ho : o.op = .call { callee := .builtin .copy, args := #[d, s], argTypes := #[dT, sT] }) (elem : TypeId) (hu : P.underlying dT = some (.slice elem)) (hsz : (P.info? elem).map (·.size) = some 1)
    {base g n cap off m k c c2 : Nat} {xs news : List Value} (hown : w.ownsRow base elem 1 (.slice (some ⟨g, 0, none⟩) n cap) n xs) (ad : Addr) (hd : a.eval d = .slice (some ⟨g, off, none⟩) k c) (hs : a.eval s = .slice (some ad) m c2) (hl : news.length = m)
    (hsrc : ∀ j u, news[j]? = some u → w.cell? (ad.add j) = some u) (h1 : ∀ u ∈ news, u.oneCell' = true) (hoff : off + m ≤ n) (hk : m ≤ k)
    (h : ∀ w', w'.ownsRow base elem 1 (.slice (some ⟨g, 0, none⟩) n cap) n (splice xs off news) → w.grownBy w' (some g) → wpList P ops Q rest (a.put o.dst (goInt m)) w') : wpList P ops Q (o :: rest) a w :=
  wpList_plain hgd fun _ hK => wp_copy_into d s dT sT ho elem hu hsz hown ad hd hs hl hsrc h1 hoff hk fun w' h2 h3 => hK _ _ (h w' h2 h3)
theorem step_copy_into {P : Program} {ops : Array Oper} {o : Oper} {a : Act} {w : World} {K : Act → World → Prop} {Q : Exit → Act → World → Prop} {E : Prop} (hgd : o.guard = none) (d s : Operand) (dT sT : TypeId)
    (ho : o.op = .call { callee := .builtin .copy, args := #[d, s], argTypes := #[dT, sT] }) (elem : TypeId) (hu : P.underlying dT = some (.slice elem)) (hsz : (P.info? elem).map (·.size) = some 1)
    {base g n cap off m k c c2 : Nat} {xs news : List Value} (hown : w.ownsRow base elem 1 (.slice (some ⟨g, 0, none⟩) n cap) n xs) (ad : Addr) (hd : a.eval d = .slice (some ⟨g, off, none⟩) k c) (hs : a.eval s = .slice (some ad) m c2) (hl : news.length = m)
    (hsrc : ∀ j u, news[j]? = some u → w.cell? (ad.add j) = some u) (h1 : ∀ u ∈ news, u.oneCell' = true) (hoff : off + m ≤ n) (hk : m ≤ k)
    (h : ∀ w', w'.ownsRow base elem 1 (.slice (some ⟨g, 0, none⟩) n cap) n (splice xs off news) → w.grownBy w' (some g) → K (a.put o.dst (goInt m)) w') :
    if Region.wanted o (yielded ops a.tmps) = true then Oper.wp P o a w K Q else E := by
  have hw : Region.wanted o (yielded ops a.tmps) = true := by simp [Region.wanted, hgd]
  rw [if_pos hw]
  exact wp_copy_into d s dT sT ho elem hu hsz hown ad hd hs hl hsrc h1 hoff hk h
end Go.Proofs.Ytncpehhfjkncoaa

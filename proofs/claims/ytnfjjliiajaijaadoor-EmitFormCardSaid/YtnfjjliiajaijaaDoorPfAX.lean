/- Part of the proof, named by its texts: FmP FmT. No condition of its own. -/
import Derived.Test.YtnfjjliiajaijaaDoorPfAA
import Derived.Test.YtnfjjliiajaijaaDoorPfAW
set_option linter.unusedVariables false
set_option linter.unusedSimpArgs false
set_option maxRecDepth 100000
set_option maxHeartbeats 16000000
namespace Go.Proofs.YtnfjjliiajaijaaDoor
open Go.RowKit
structure zhH (sz : Int) (L : List Int) : Prop where
 word : ∀ o ∈ L, 0 <= o /\ o < sz /\ o % 8 = 0
 up : L.Pairwise (· < ·)
theorem zks (g : zad) (i : Nat) : zhH (zaF g : Nat) (zct g i) := by
 unfold zct zdi
 constructor
 ·intro o ho;obtain ⟨p, hp, rfl⟩ := List.mem_map.1 ho;obtain ⟨h1, h2⟩ := List.mem_filter.1 hp;have h3 := (zdF.1 h1).1;simp only [Bool.and_eq_true, decide_eq_true_eq] at h2;unfold zdW zaF zaG
  omega
 ·rw [List.pairwise_map];refine List.Pairwise.imp (R := (· < ·)) (fun {a b} h => by unfold zdW; omega) ?_;refine List.Pairwise.sublist List.filter_sublist ?_;unfold zbB;exact List.Pairwise.sublist List.filter_sublist List.pairwise_lt_range
section
variable {F : Nat} {P : List Int -> Prop} {E E' : EmS}
theorem Steps.pre (h : Steps F P E E') : ∀ (k : Nat) m, E.code[k]? = some m -> E'.code[k]? = some m := by
 induction h with
 | refl => exact fun _ _ h => h
 | put _ _ ih => exact fun k m hm => get_append (ih k m hm)
 | jump _ _ ih => exact fun k m hm => get_append (ih k m hm)
 | mark _ _ ih => exact ih
 | zero _ ih => exact ih
 | nul _ ih => exact ih
 | call _ _ _ ih => exact fun k m hm => get_append (ih k m hm)
theorem Steps.sites (h : Steps F P E E') : ∃ l, E'.sites = E.sites ++ l /\ ∀ s ∈ l, E.code.length < s.1 /\ s.1 <= E'.code.length /\ P s.2 := by
 induction h with
 | refl => exact ⟨[], by simp, nofun⟩
 | @put E' m h hm ih =>
  obtain ⟨l, h1, h2⟩ := ih;refine ⟨l, h1, fun s hs => ?_⟩;obtain ⟨a, b, c⟩ := h2 s hs;exact ⟨a, by unfold EmS.put; simp only [List.length_append]; omega, c⟩
 | @jump E' op a t h _ ih =>
  obtain ⟨l, h1, h2⟩ := ih;refine ⟨l, h1, fun s hs => ?_⟩;obtain ⟨a, b, c⟩ := h2 s hs;exact ⟨a, by unfold EmS.jump; simp only [List.length_append]; omega, c⟩
 | mark _ _ ih => exact ih
 | zero _ ih => exact ih
 | nul _ ih => exact ih
 | @call E' f L h hf hL ih =>
  obtain ⟨l, h1, h2⟩ := ih;have hl := h.len;refine ⟨l ++ [(E'.code.length + 1, L)], by unfold EmS.site EmS.put EmS.call; simp [h1], fun s hs => ?_⟩
  have e : (((E'.call f).put [⟨9, 0, 0, 0, 0⟩]).site L).code.length = E'.code.length + 1 := by unfold EmS.site EmS.put EmS.call; simp
  rw [e]
  rcases List.mem_append.1 hs with hs | hs
  ·obtain ⟨a, b, c⟩ := h2 s hs;exact ⟨a, by omega, c⟩
  ·rw [List.mem_singleton] at hs;subst hs;exact ⟨by show _ < E'.code.length + 1; omega, Nat.le_refl _, hL⟩
end
theorem zhx (T : zco) (g : zad) : (T.fn g).code.length = (zdI T g).code.length := by unfold zco.fn; simp only [zbH]
theorem zmB {gs : List zad} {g : zad} (T : zco) (ok : zd1 gs g) {k : Nat} {m : zaw} (h : T.code[k]? = some m) : (T.fn g).code[k]? = some m := by
 have h1 := (zcG T (P := fun _ => True) ok (fun _ => trivial)).pre k m h;have hk := (List.getElem?_eq_some_iff.1 h).1;show (zcd (zdI T g).code (zdI T g).jumps (zdI T g).labels (fun _ => false))[k]? = some m;rw [zbR, h1];show some (zaV _ _ _ k m) = some m;unfold zaV
 rcases hj : (zdI T g).jumps k with _ | l
 ·rfl
 ·have := (zgj T ok hj).1
  omega
theorem zlF {gs : List zad} {g : zad} (T : zco) (ok : zd1 gs g) (hI : zbl gs.length T.code T.calls (fun _ => none) T.sites) : (T.fn g).code[T.code.length]? = some ⟨11, 0, 0, 0, ((zaF g : Nat) : Int)⟩ := by
 have hz : (zaF g : Nat) <= 65536 := by
  have hk := ok.right.k1;have hc0 := ok.right.c0;have hc1 := ok.right.c1;have hrk : zb9 g <= 6 := zb7 _ _
  have h1 : zaG g <= 1008 := by unfold zaG; omega
  have h2 : zaU g <= 64 := by unfold zaU; omega
  have h3 : zh6 g <= 1 := by unfold zh6; split <;> omega
  unfold zaF
  omega
 have hst := zhz T (P := fun _ => True) ok (fun _ => trivial);rw [zg2 (by omega) (by omega)] at hst
 have h0 : ((zbc T).put [⟨11, 0, 0, 0, ((zaF g : Nat) : Int)⟩]).code[T.code.length]? = some ⟨11, 0, 0, 0, ((zaF g : Nat) : Int)⟩ := by unfold EmS.put zbc; simp
 have h1 := hst.pre _ _ h0;have hinv := (zcG T (P := fun _ => True) ok (fun _ => trivial)).inv hI;show (zcd (zdI T g).code (zdI T g).jumps (zdI T g).labels (fun _ => false))[T.code.length]? = _;rw [zbR, h1];show some (zaV _ _ _ _ _) = _;unfold zaV
 rcases hj : (zdI T g).jumps T.code.length with _ | l
 ·rfl
 ·obtain ⟨m, a, b⟩ := hinv.jumps _ _ hj;rw [h1] at a;injection a with a;subst a
  exfalso
  revert b
  show ¬ ((11 : Int) = 7 ∨ (11 : Int) = 8)
  omega
section
variable {gs l : List zad}
theorem zbA {n : Nat} (hn : n < l.length) : zav (l.take (n + 1)) = (zav (l.take n)).fn l[n] := by
 rw [List.take_add_one, List.getElem?_eq_getElem hn, Option.toList_some, zck]
theorem zeO (ok : ∀ g ∈ l, zd1 gs g) {i k : Nat} {m : zaw} (h : (zav (l.take i)).code[k]? = some m) : (zav l).code[k]? = some m := by
 suffices hn : ∀ n, i <= n -> n <= l.length -> (zav (l.take n)).code[k]? = some m by
  by_cases hi : i <= l.length
  ·have := hn l.length hi (Nat.le_refl _)
   rwa [List.take_length] at this
  ·rwa [List.take_of_length_le (by omega)] at h
 intro n
 induction n with
 | zero =>
  intro h0 _
  obtain rfl : i = 0 := by omega
  exact h
 | succ n ih =>
  intro h1 h2
  by_cases hi : i <= n
  ·rw [zbA (by omega)];exact zmB _ (ok _ (List.getElem_mem _)) (ih hi (by omega))
  ·obtain rfl : i = n + 1 := by omega
   exact h
theorem zkI (ok : ∀ g ∈ l, zd1 gs g) : (zav l).code[0]? = some ⟨13, 0, 0, 0, 0⟩ /\ (zav l).code[1]? = some ⟨13, 0, 0, 0, 1⟩ :=
 ⟨zeO ok (i := 0) rfl, zeO ok (i := 0) rfl⟩
theorem zjz (ok : ∀ g ∈ l, zd1 gs g) {i n : Nat} (h : i <= n) (hn : n <= l.length) : (zav (l.take i)).code.length <= (zav (l.take n)).code.length := by
 induction n with
 | zero =>
  obtain rfl : i = 0 := by omega
  exact Nat.le_refl _
 | succ n ih =>
  by_cases hi : i <= n
  ·have h1 := ih hi (by omega);have h2 := zew (zav (l.take n)) (ok l[n] (List.getElem_mem _));rw [zbA (by omega), zhx]
   omega
  ·obtain rfl : i = n + 1 := by omega
   exact Nat.le_refl _
def za0 (l : List zad) (i : Nat) : Nat := (zav (l.take i)).code.length
theorem zd6 : za0 l l.length = (zay (zav l)).length := by
 unfold za0 zay;rw [List.take_length, zbH]
theorem ziW (ok : ∀ g ∈ l, zd1 gs g) {i : Nat} (hi : i < l.length) : za0 l i < za0 l (i + 1) := by
 have h2 := zew (zav (l.take i)) (ok l[i] (List.getElem_mem _));unfold za0;rw [zbA hi, zhx];exact h2
theorem zf4 (ok : ∀ g ∈ l, zd1 gs g) {i n : Nat} (h : i <= n) (hn : n <= l.length) : za0 l i <= za0 l n := zjz ok h hn
theorem zhA {i : Nat} (hi : i < l.length) : (zav l).start[i]? = some (za0 l i) := by
 suffices hn : ∀ n, i < n -> n <= l.length -> (zav (l.take n)).start[i]? = some (za0 l i) by
  have := hn l.length hi (Nat.le_refl _)
  rwa [List.take_length] at this
 intro n
 induction n with
 | zero => intro h0; omega
 | succ n ih =>
  intro h1 h2;have hl := (zcH (l.take n)).2;rw [List.length_take, Nat.min_eq_left (by omega)] at hl;rw [zbA (by omega)];show ((zav (l.take n)).start ++ [(zav (l.take n)).code.length])[i]? = _
  by_cases hi : i < n
  ·rw [List.getElem?_append_left (by omega)];exact ih hi (by omega)
  ·obtain rfl : n = i := by omega
   rw [List.getElem?_append_right (by omega), hl, Nat.sub_self]
   rfl
structure znv (g : zad) (s t : Nat) (r : ziq) : Prop where
 start : r.start = s
 stop : r.stop = t
 size : r.size = (zaF g : Nat)
 params : r.params = g.params.map fun p => g.kinds.getD p.toNat 0
 saves : r.saves = zbG g
 resume : r.resume = -1 ∨ ((s : Int) <= r.resume /\ r.resume <= t - 1 /\ zbi g.nodes = true)
theorem zdn (ok : ∀ g ∈ l, zd1 gs g) {i : Nat} {g : zad} (h : l[i]? = some g) : ∃ r, (zav l).rows[i]? = some r /\ znv g (za0 l i) (za0 l (i + 1)) r := by
 obtain ⟨hi, rfl⟩ := List.getElem?_eq_some_iff.1 h;refine ⟨_, zkK h, rfl, ?_, rfl, rfl, rfl, ?_⟩
 ·unfold za0;rw [zbA hi, zhx]; rfl
 ·have hok := ok l[i] (List.getElem_mem _);obtain ⟨T, hT⟩ := mn (zav (l.take i))
  have hs : za0 l i = T.code.length := by unfold za0; rw [hT]
  have he : za0 l (i + 1) = (zdI T l[i]).code.length := by unfold za0; rw [zbA hi, zhx, hT]
  rw [hs, he, hT]
  by_cases hd : zbi l[i].nodes = true
  ·right
   have hsv : ∀ s ∈ (xOf l[i]).saves, s.1.toNat <= 15 := fun s hs => by
    have := zc1 l[i] s hs; omega
   have hz : 0 <= (xOf l[i]).size /\ (xOf l[i]).size <= 65536 /\ (xOf l[i]).size % 8 = 0 := by
    have hk := hok.right.k1;have hc0 := hok.right.c0;have hc1 := hok.right.c1;have hrk : zb9 l[i] <= 6 := zb7 _ _;show 0 <= ((zaF l[i] : Nat) : Int) /\ ((zaF l[i] : Nat) : Int) <= 65536 /\ ((zaF l[i] : Nat) : Int) % 8 = 0
    have h1 : zaG l[i] <= 1008 := by unfold zaG; omega
    have h2 : zaU l[i] <= 64 := by unfold zaU; omega
    have h3 : zh6 l[i] <= 1 := by unfold zh6; split <;> omega
    unfold zaF
    omega
   have hx : (xOf l[i]).defers = true := hd;have hb : Steps gs.length (fun _ => True) (zbc T) (zdb T l[i]) := Steps.nodes ((Steps.refl _).begin l[i].init hsv (by have := hok.il; have := hok.pl; omega) hz) rfl hok.fs (by have := hok.right.k1; unfold zaG; omega) (by have := hok.right.c1; omega) l[i].nodes hok.nodes (fun _ => trivial);have h1 := (hb.leave l[i].result hsv hz).len;have h0 : (zbc T).code.length = T.code.length := rfl
   have h2 : ((zdb T l[i]).leave (xOf l[i]) l[i].result).code.length + 1 <= (((zdb T l[i]).leave (xOf l[i]) l[i].result).resume (xOf l[i]) l[i].result l[i].keep).code.length := by
    unfold EmS.resume;dsimp only
    have h3 : Steps 0 (fun _ => True) ((zdb T l[i]).leave (xOf l[i]) l[i].result) (if l[i].result = true then ((if 0 <= l[i].keep then ((zdb T l[i]).leave (xOf l[i]) l[i].result).put [⟨4, 13, 14, 0, w32 (8 * (((xOf l[i]).ns : Int) + l[i].keep))⟩] else ((zdb T l[i]).leave (xOf l[i]) l[i].result).number 13 0)).store (xOf l[i]).res 13 else (zdb T l[i]).leave (xOf l[i]) l[i].result) := by
     split
     ·refine Steps.store ?_ _ (by omega)
      split
      ·exact (Steps.refl _).put (zh1 (d := 13) (a := 14) (by omega) (by omega) (zeU _))
      ·exact (Steps.refl _).number 0 (by omega)
     ·exact Steps.refl _
    have h4 := h3.len;unfold EmS.jump;simp only [List.length_append, List.length_singleton]
    omega
   have h5 : (((zdb T l[i]).leave (xOf l[i]) l[i].result).resume (xOf l[i]) l[i].result l[i].keep).code.length <= (zdI T l[i]).code.length := by
    unfold zdI EmS.end_;dsimp only;rw [if_pos hx];exact (Steps.panics (Steps.panics (Steps.refl (F := 0) (P := fun _ => True) _) _ _ _) _ _ _).len
   rw [show (zhQ T l[i]).resume = (((zdb T l[i]).leave (xOf l[i]) l[i].result).code.length : Nat) from if_pos hx];refine ⟨by omega, by omega, hd⟩
  ·left
   exact if_neg hd
theorem zjy (ok : ∀ g ∈ l, zd1 gs g) : ∀ s ∈ (zav l).sites, ∃ i g, l[i]? = some g /\ za0 l i < s.1 /\ s.1 <= za0 l (i + 1) /\ zhH (zaF g : Nat) s.2 := by
 suffices hn : ∀ n, n <= l.length -> ∀ s ∈ (zav (l.take n)).sites, ∃ i g, l[i]? = some g /\ za0 l i < s.1 /\ s.1 <= za0 l (i + 1) /\ zhH (zaF g : Nat) s.2 by
  have := hn l.length (Nat.le_refl _)
  rwa [List.take_length] at this
 intro n
 induction n with
 | zero => intro _ s hs; cases hs
 | succ n ih =>
  intro h2 s hs;have hg : l[n]? = some l[n] := List.getElem?_eq_getElem (by omega);rw [zbA (by omega)] at hs;obtain ⟨q, hq1, hq2⟩ := (zcG (zav (l.take n)) (P := zhH (zaF l[n] : Nat)) (ok l[n] (List.getElem_mem _)) (zks l[n])).sites;have hs' : s ∈ (zdI (zav (l.take n)) l[n]).sites := hs;rw [hq1] at hs'
  rcases List.mem_append.1 hs' with h | h
  ·exact ih (by omega) s h
  ·obtain ⟨a, b, c⟩ := hq2 s h;refine ⟨n, l[n], hg, a, ?_, c⟩;unfold za0;rw [zbA (by omega), zhx];exact b
theorem zlH (ok : ∀ g ∈ l, zd1 gs g) : ((zav l).sites.map (·.1)).Pairwise (· < ·) := by
 rw [(zda l ok).sites, List.pairwise_map];refine List.Pairwise.imp (R := (· < ·)) (fun {a b} h => by omega) ?_;exact List.Pairwise.sublist List.filter_sublist List.pairwise_lt_range
theorem zeZ (ok : ∀ g ∈ l, zd1 gs g) (hl : l.length = gs.length) (h20 : (zay (zav l)).length <= 1048576) {k : Nat} {m : zaw} (h : (zay (zav l))[k]? = some m) :
  (m.op ≠ 9 /\ (zav l).code[k]? = some m) ∨ (m.op = 9 /\ (∃ f, f < l.length /\ m = ⟨9, 0, 0, 0, ((za0 l f : Nat) : Int)⟩) /\ k + 1 ∈ (zav l).sites.map (·.1)) := by
 have hinv := zda l ok;obtain ⟨x, hx, rfl⟩ := zc2 _ _ _ h
 rcases hc : (zav l).calls k with _ | f
 ·have e : zaV (zav l).calls (fun f => (zav l).start[f]?) (fun _ => false) k x = x := by unfold zaV; rw [hc]
  rw [e]
  by_cases h9 : x.op = 9
  ·obtain ⟨f, hf⟩ := hinv.call k x hx h9;rw [hc] at hf; cases hf
  ·exact .inl ⟨h9, hx⟩
 ·obtain ⟨hf, hb⟩ := hinv.calls k f hc;rw [hx] at hb;injection hb with hb;subst hb
  have hfl : f < l.length := by omega
  have hst := zhA hfl;have hle := zf4 ok (i := f) (n := l.length) (by omega) (Nat.le_refl _);rw [zd6] at hle
  have e : zaV (zav l).calls (fun f => (zav l).start[f]?) (fun _ => false) k ⟨9, 0, 0, 0, 0⟩ = ⟨9, 0, 0, 0, ((za0 l f : Nat) : Int)⟩ := by
   unfold zaV;rw [hc];show (⟨9, 0, 0, 0, w32 ((((zav l).start[f]?).getD 0 : Nat) : Int)⟩ : zaw) = _;rw [hst, Option.getD_some, zg2 (by omega) (by omega)]
  rw [e];refine .inr ⟨rfl, ⟨f, hfl, rfl⟩, ?_⟩;rw [hinv.sites];refine List.mem_map.2 ⟨k, ?_, rfl⟩;unfold zcS;refine List.mem_filter.2 ⟨List.mem_range.2 (List.getElem?_eq_some_iff.1 hx).1, ?_⟩;unfold zc7;rw [hx]
  rfl
def ze2 (l : List zaw) : Nat := (l.filter fun m => decide (m.op = 9)).length
theorem ze1 : ∀ (n : Nat) (code : List zaw), n <= code.length -> ((List.range n).filter (zc7 code)).length = ze2 (code.take n)
 | 0, _, _ => rfl
 | n + 1, code, h => by
  rw [List.range_succ, List.filter_append, List.length_append, ze1 n code (by omega), List.take_add_one, List.getElem?_eq_getElem (by omega), Option.toList_some];unfold ze2;rw [List.filter_append, List.length_append]
  congr 1
  have e : zc7 code n = decide (code[n].op = 9) := by unfold zc7; rw [List.getElem?_eq_getElem (by omega)]
  rw [List.filter_cons, List.filter_cons, e]
  cases decide (code[n].op = 9) <;> rfl
theorem zfW (ok : ∀ g ∈ l, zd1 gs g) : ze2 (zay (zav l)) = (zav l).sites.length := by
 have h1 := (zda l ok).sites;have h2 := congrArg List.length h1;rw [List.length_map, List.length_map] at h2;rw [h2];have h3 := zd0 (code := (zav l).code) (zav l).calls (fun f => (zav l).start[f]?) (fun _ => false);rw [<- h3];have h4 := ze1 (zay (zav l)).length (zay (zav l)) (Nat.le_refl _);rw [List.take_length] at h4;exact h4.symm
end
theorem zbf (E : EmS) (p i : Nat) : (E.read p i).sites = E.sites := by unfold EmS.read; split <;> rfl
theorem zbM (E : EmS) (p r : Nat) : (E.done p r).sites = E.sites := by unfold EmS.done; split <;> rfl
theorem zg5 (E : EmS) (r : Nat) (v : Int) : (E.number r v).sites = E.sites := by unfold EmS.number; split <;> rfl
theorem zi0 (E : EmS) (d a : Nat) : (E.move d a).sites = E.sites := by
 unfold EmS.move
 split
 ·rfl
 ·split
  ·exact zbf _ _ _
  ·rw [zbM, zbf]
theorem zjX (E : EmS) (y d a b r s : Nat) : (E.alu y d a b r s).sites = E.sites := by unfold EmS.alu; rw [zbM]; rfl
theorem zg4 (E : EmS) (y d a b : Nat) : (E.reckon y d a b).sites = E.sites := by
 unfold EmS.reckon;dsimp only;rw [zjX]
 split
 ·show ((E.read a 13).read b 15).sites = _;rw [zbf, zbf]
 ·rw [zbf, zbf]
theorem zeW (E : EmS) (o d a b : Nat) : (E.memory o d a b).sites = E.sites := by
 unfold EmS.memory;dsimp only
 split
 ·show ((((E.read a 13).nul).jump 8 (zax a 13) 1048578).read b 15).sites = _;rw [zbf];exact zbf E a 13
 ·rw [zbM];exact zbf E a 13
theorem zb1 (E : EmS) (o d e a f : Nat) : (E.system o d e a f).sites = E.sites := by
 unfold EmS.system
 split
 ·rfl
 ·split
  ·rw [zbM]; rfl
  ·split
   ·rw [zbM, zbM]; rfl
   ·exact zbf E a 13
theorem ziZ (E : EmS) (ns : Nat) (res : Int) (i : Nat) (L : List Int) (x : zam) : (E.node ns res i L x).sites.length <= E.sites.length + 1 := by
 have hm : (E.mark i).sites = E.sites := rfl
 by_cases h : x.op = 11
 ·unfold EmS.node;rw [if_neg (by omega), if_neg (by omega), if_neg (by omega), if_neg (by omega), if_neg (by omega), if_neg (by omega), if_neg (by omega), if_neg (by omega), if_neg (by omega), if_neg (by omega), if_pos h];unfold EmS.site EmS.put EmS.call EmS.mark; simp
 ·have e : (E.node ns res i L x).sites = E.sites := by
   unfold EmS.node
   by_cases q1 : x.op = 1
   ·rw [if_pos q1]; rw [zbM, zg5]; rfl
   rw [if_neg q1]
   by_cases q2 : x.op = 2
   ·rw [if_pos q2]; exact zi0 _ _ _
   rw [if_neg q2]
   by_cases q3 : x.op = 3
   ·rw [if_pos q3]; exact zg4 _ _ _ _ _
   rw [if_neg q3]
   by_cases q4 : x.op = 4
   ·rw [if_pos q4]; rw [zbM]; rfl
   rw [if_neg q4]
   by_cases q5 : x.op = 5
   ·rw [if_pos q5]; exact zbf (E.mark i) _ _
   rw [if_neg q5]
   by_cases q6 : x.op = 6
   ·rw [if_pos q6]; rw [zbM]; rfl
   rw [if_neg q6]
   by_cases q7 : x.op = 7
   ·rw [if_pos q7]; exact zeW _ _ _ _ _
   rw [if_neg q7]
   by_cases q8 : x.op = 8
   ·rw [if_pos q8]; exact zeW _ _ _ _ _
   rw [if_neg q8]
   by_cases q9 : x.op = 9
   ·rw [if_pos q9]; exact zbf (E.mark i) _ _
   rw [if_neg q9]
   by_cases q10 : x.op = 10
   ·rw [if_pos q10]; rfl
   rw [if_neg q10];rw [if_neg h]
   by_cases q12 : x.op = 12
   ·rw [if_pos q12]
    split
    ·rfl
    ·exact zbf (E.mark i) _ _
   rw [if_neg q12]
   by_cases q13 : x.op = 13
   ·rw [if_pos q13]; exact zb1 _ _ _ _ _ _
   rw [if_neg q13]
   by_cases q14 : x.op = 14
   ·rw [if_pos q14]; exact zb1 _ _ _ _ _ _
   rw [if_neg q14]
   by_cases q15 : x.op = 15
   ·rw [if_pos q15]; exact zb1 _ _ _ _ _ _
   rw [if_neg q15]
   by_cases q16 : x.op = 16
   ·rw [if_pos q16]; exact zb1 _ _ _ _ _ _
   rw [if_neg q16]
   by_cases q17 : x.op = 17
   ·rw [if_pos q17]; exact zb1 _ _ _ _ _ _
   rw [if_neg q17];exact zb1 _ _ _ _ _ _
  rw [e]; omega
theorem zhO (E : EmS) (ns : Nat) (res : Int) (Lf : Nat -> List Int) (l : List zam) : (E.nodes ns res Lf l).sites.length <= E.sites.length + l.length := by
 suffices hs : ∀ n, n <= l.length -> (E.nodes ns res Lf (l.take n)).sites.length <= E.sites.length + n by
  have := hs l.length (Nat.le_refl _)
  rwa [List.take_length] at this
 intro n
 induction n with
 | zero => intro _; rw [List.take_zero]; exact Nat.le_refl _
 | succ n ih =>
  intro hn;rw [List.take_add_one, List.getElem?_eq_getElem (by omega), Option.toList_some, zdP];have h1 := ih (by omega);have h2 := ziZ (E.nodes ns res Lf (l.take n)) ns res (l.take n).length (Lf (l.take n).length) l[n]
  omega
theorem zgb {F : Nat} {E E' : EmS} (h : Steps F (fun _ => False) E E') : E'.sites = E.sites := by
 obtain ⟨l, h1, h2⟩ := h.sites
 cases l with
 | nil => rw [h1, List.append_nil]
 | cons s l => exact (h2 s List.mem_cons_self).2.2.elim
theorem zlE {gs : List zad} {g : zad} (T : zco) (ok : zd1 gs g) : (T.fn g).sites.length <= T.sites.length + 4096 := by
 have hsv : ∀ s ∈ (xOf g).saves, s.1.toNat <= 15 := fun s hs => by
  have := zc1 g s hs; omega
 have hz : 0 <= (xOf g).size /\ (xOf g).size <= 65536 /\ (xOf g).size % 8 = 0 := by
  have hk := ok.right.k1;have hc0 := ok.right.c0;have hc1 := ok.right.c1;have hrk : zb9 g <= 6 := zb7 _ _;show 0 <= ((zaF g : Nat) : Int) /\ ((zaF g : Nat) : Int) <= 65536 /\ ((zaF g : Nat) : Int) % 8 = 0
  have h1 : zaG g <= 1008 := by unfold zaG; omega
  have h2 : zaU g <= 64 := by unfold zaU; omega
  have h3 : zh6 g <= 1 := by unfold zh6; split <;> omega
  unfold zaF
  omega
 have e1 : ((zbc T).begin (xOf g) g.init).sites = T.sites := zgb (F := 0) ((Steps.refl _).begin g.init hsv (by have := ok.il; have := ok.pl; omega) hz);have e2 : (zdI T g).sites = (zdb T g).sites := zgb (F := 0) (Steps.end_ _ _ (Steps.refl _) hsv hz);have e3 : (T.fn g).sites = (zdI T g).sites := rfl;have h := zhO ((zbc T).begin (xOf g) g.init) (zaG g) (zdB g) (zct g) g.nodes;have hn := ok.right.n1;rw [e1] at h;rw [e3, e2];show (((zbc T).begin (xOf g) g.init).nodes (zaG g) (zdB g) (zct g) g.nodes).sites.length <= _
 omega
theorem zhB {gs l : List zad} (ok : ∀ g ∈ l, zd1 gs g) : (zav l).sites.length <= 4096 * l.length := by
 suffices h : ∀ n, n <= l.length -> (zav (l.take n)).sites.length <= 4096 * n by
  have := h l.length (Nat.le_refl _)
  rwa [List.take_length] at this
 intro n
 induction n with
 | zero => intro _; exact Nat.le_refl _
 | succ n ih =>
  intro hn;rw [zbA (by omega)];have h1 := ih (by omega);have h2 := zlE (zav (l.take n)) (ok l[n] (List.getElem_mem _))
  omega
theorem zk7 (ns : List zam) (k : Nat) : (zcK ns k).Pairwise (· < ·) := by
 unfold zcK;refine List.Pairwise.sublist List.filter_sublist ?_;rw [List.pairwise_map]
 exact List.pairwise_lt_range.imp fun h => by omega
theorem zj2 {α : Type} {R : α -> α -> Prop} {l : List α} (h : l.Pairwise R) {i j : Nat} {a b : α} (hi : l[i]? = some a) (hj : l[j]? = some b) (hij : i < j) : R a b := by
 obtain ⟨h1, rfl⟩ := List.getElem?_eq_some_iff.1 hi;obtain ⟨h2, rfl⟩ := List.getElem?_eq_some_iff.1 hj;exact List.pairwise_iff_getElem.1 h i j h1 h2 hij
structure znu (T : zco) (N : Nat) (st : Nat -> Nat) : Prop where
 n16 : N <= 16
 rows : T.rows.length = N
 ns : T.sites.length <= 65536
 up : ∀ i, i < N -> st i < st (i + 1)
 le : ∀ i n, i <= n -> n <= N -> st i <= st n
 top : st N <= 1048576
 row : ∀ (i : Nat) r, T.rows[i]? = some r -> r.start = st i /\ r.stop = st (i + 1) /\ 0 <= r.size /\ r.size <= 65536 /\ r.size % 8 = 0 /\ r.params.length <= 4 /\ (∀ k ∈ r.params, k <= 1) /\ r.saves.length <= 6 /\
  (∀ (k : Nat) q o, r.saves[k]? = some (q, o) -> 6 <= q /\ q <= 11 /\ 0 <= o /\ o < r.size /\ o % 8 = 0) /\ (∀ (j k : Nat) s t, r.saves[j]? = some s -> r.saves[k]? = some t -> j < k -> s.1 < t.1) /\ (r.resume = -1 ∨ ((st i : Nat) : Int) <= r.resume /\ r.resume <= (st (i + 1) : Nat) - 1)
 site : ∀ (j : Nat) s, T.sites[j]? = some s -> ∃ i r, T.rows[i]? = some r /\ st i < s.1 /\ s.1 <= st (i + 1) /\ zhH r.size s.2
 sup : ∀ (j k : Nat) s t, T.sites[j]? = some s -> T.sites[k]? = some t -> j < k -> s.1 < t.1
theorem zkJ {l : List zad} (ok : ∀ g ∈ l, zd1 l g) (hk : ∀ g ∈ l, ∀ k ∈ g.kinds, k <= 1) (h16 : l.length <= 16) (h20 : (zay (zav l)).length <= 1048576) : znu (zav l) l.length (za0 l) := by
 have hrows := (zcH l).1;refine ⟨h16, hrows, by have := zhB ok; omega, fun i hi => ziW ok hi, fun i n h1 h2 => zf4 ok h1 h2, by rw [zd6]; exact h20, fun i r hr => ?_, fun j s hs => ?_, fun j k s t hs ht hjk => ?_⟩
 ·have hi : i < l.length := by rw [<- hrows]; exact (List.getElem?_eq_some_iff.1 hr).1
  have hg : l[i]? = some l[i] := List.getElem?_eq_getElem hi;obtain ⟨r', hr', h⟩ := zdn ok hg;rw [hr] at hr';injection hr' with hr';subst hr';have hok := ok l[i] (List.getElem_mem _);have hk1 := hok.right.k1;have hc0 := hok.right.c0;have hc1 := hok.right.c1;have hrk : zb9 l[i] <= 6 := zb7 _ _
  have h1 : zaG l[i] <= 1008 := by unfold zaG; omega
  have h2 : zaU l[i] <= 64 := by unfold zaU; omega
  have h3 : zh6 l[i] <= 1 := by unfold zh6; split <;> omega
  have hz : ((zaF l[i] : Nat) : Int) <= 65536 /\ ((zaF l[i] : Nat) : Int) % 8 = 0 := by unfold zaF; omega
  refine ⟨h.start, h.stop, by rw [h.size]; omega, by rw [h.size]; omega, by rw [h.size]; omega, by rw [h.params, List.length_map]; exact hok.pl, fun k hk' => ?_, by rw [h.saves, zcJ]; exact hrk, fun k q o hq => ?_, fun j k s t hs ht hjk => ?_, ?_⟩
  ·rw [h.params] at hk';obtain ⟨p, hp, rfl⟩ := List.mem_map.1 hk';obtain ⟨p0, p1⟩ := hok.params p hp
   have hpl : p.toNat < l[i].kinds.length := by omega
   rw [List.getD_eq_getElem?_getD, List.getElem?_eq_getElem hpl];exact hk l[i] (List.getElem_mem _) _ (List.getElem_mem _)
  ·rw [h.saves] at hq;obtain ⟨s, e1, e2, e3, e4⟩ := zgv (List.getElem?_eq_some_iff.1 hq).1;have hm := zc1 l[i] _ (List.mem_of_getElem? hq);rw [hq] at e2;injection e2 with e2;injection e2 with e2 e5;rw [h.size];refine ⟨hm.1, hm.2, by omega, by omega, by omega⟩
  ·rw [h.saves] at hs ht;obtain ⟨a, e1, e2, _⟩ := zgv (List.getElem?_eq_some_iff.1 hs).1;obtain ⟨b, f1, f2, _⟩ := zgv (List.getElem?_eq_some_iff.1 ht).1;rw [hs] at e2;rw [ht] at f2;injection e2 with e2;injection f2 with f2;have := zj2 (zk7 l[i].nodes 6) e1 f1 hjk;rw [e2, f2];show ((a : Nat) : Int) < ((b : Nat) : Int)
   omega
  ·rcases h.resume with h | ⟨h1, h2, _⟩
   ·exact .inl h
   ·exact .inr ⟨h1, h2⟩
 ·obtain ⟨i, g, hg, h1, h2, h3⟩ := zjy ok s (List.mem_of_getElem? hs);obtain ⟨r, hr, h⟩ := zdn ok hg;exact ⟨i, r, hr, h1, h2, by rw [h.size]; exact h3⟩
 ·have e1 : ((zav l).sites.map (·.1))[j]? = some s.1 := by rw [List.getElem?_map, hs]; rfl
  have e2 : ((zav l).sites.map (·.1))[k]? = some t.1 := by rw [List.getElem?_map, ht]; rfl
  exact zj2 (zlH ok) e1 e2 hjk
theorem zhP {w : World} {B SB sc j : Nat} {T : zco} {fv sv : Value} {lvs : List Value} {ps : List (Value × Value)} {s : Nat × List Int} (hI : zaA w B (zbE T fv sv lvs ps)) (hl1 : lvs.length = T.sites.length) (hsv : sv = .slice (some ⟨SB, 0, none⟩) T.sites.length sc) (hj : T.sites[j]? = some s) :
  ∃ lv, w.ownsRow B 3 1 lv s.2.length (s.2.map (Value.int .i64)) /\ w.cell? ⟨SB, j * 2, none⟩ = some (.int .i64 (s.1 : Nat)) /\ w.cell? ⟨SB, j * 2 + 1, none⟩ = some lv := by
 have hjl := (List.getElem?_eq_some_iff.1 hj).1
 obtain ⟨p, hp⟩ : ∃ p, lvs[j]? = some p := ⟨_, List.getElem?_eq_getElem (by omega)⟩
 have hz : (T.sites.zip lvs)[j]? = some (s, p) := by rw [List.getElem?_zip_eq_some]; exact ⟨hj, hp⟩
 have hm := List.mem_of_getElem? hz;have hR : w.ownsRow B 112 2 sv T.sites.length (zaC T.sites lvs) := hI.each (.row sv 112 2 T.sites.length (zaC T.sites lvs)) (by unfold zbE; simp);subst hsv;obtain ⟨_, g, e, _, _, hc⟩ := zd7 hR (by omega);injection e with e;injection e with e;subst e
 have h1 := fun k hk => zcL (f := fun p : (Nat × List Int) × Value => [Value.int .i64 (p.1.1 : Nat), p.2]) (c := 2) (fun _ => rfl) (T.sites.zip lvs) j (s, p) hz k hk
 have c0 := hc (j * 2 + 0) _ (by unfold zaC; rw [h1 0 (by omega)]; rfl);have c1 := hc (j * 2 + 1) _ (by unfold zaC; rw [h1 1 (by omega)]; rfl);rw [zbU] at c0 c1;refine ⟨p, hI.each (.row p 3 1 s.2.length (s.2.map (Value.int .i64))) ?_, c0, c1⟩;unfold zbE zaM;refine List.mem_append_right _ (List.mem_append_left _ (List.mem_map.2 ⟨(s, p), hm, rfl⟩))
theorem zgn (o s : Int) (w : World) (h0 : 0 <= o) (h1 : o < s) (h8 : o % 8 = 0) :
  Calls Tryd.prog 47 #[.int .i64 o, .int .i64 s] w fun e w' => e = .returned (.bool true) /\ w = w' := by
 have hm : o.tmod 8 = 0 := by rw [Int.tmod_eq_emod_of_nonneg h0]; exact h8
 clear h8;go_enter Tryd.func47, Tryd.ntmps47;go_wp2_with fail;go_ret;exact ⟨rfl, rfl⟩
theorem ownB {w w' : World} {base size n : Nat} {e : TypeId} {v : Value} {xs : List Value} (h : w.ownsRow base e size v n xs) (hb : Below w.heap.size w w') : w'.ownsRow base e size v n xs := zaX h (zah hb none) nofun
structure ze9 (w : World) (B FB fc N : Nat) (T : zco) (st : Nat -> Nat) (sv : Value) (lvs : List Value) (ps : List (Value × Value)) : Prop where
 its : zaA w B (zbE T (.slice (some ⟨FB, 0, none⟩) N fc) sv lvs ps)
 l1 : lvs.length = T.sites.length
 l2 : ps.length = T.rows.length
 ok : znu T N st
 cap : N <= fc /\ fc <= maxLen
section
variable {w w' : World} {B FB fc N : Nat} {T : zco} {st : Nat -> Nat} {sv : Value} {lvs : List Value} {ps : List (Value × Value)}
theorem ze9.below (h : ze9 w B FB fc N T st sv lvs ps) (hb : Below w.heap.size w w') : ze9 w' B FB fc N T st sv lvs ps := ⟨h.its.below hb, h.l1, h.l2, h.ok, h.cap⟩
theorem ze9.row (h : ze9 w B FB fc N T st sv lvs ps) {j : Nat} {r : ziq} (hj : T.rows[j]? = some r) :
  ∃ pv sv', w.ownsRow B 87 1 pv r.params.length (zcf r.params) /\ w.ownsRow B 50 2 sv' r.saves.length (za9 r.saves) /\ ∀ (k : Nat) v, (zdN r pv sv')[k]? = some v -> w.cell? ⟨FB, j * 6 + k, none⟩ = some v :=
 zmO h.its h.l2 (by rw [h.ok.rows]) hj
theorem ze9.lt (h : ze9 w B FB fc N T st sv lvs ps) : FB < w.heap.size := ((h.its.each (.row (.slice (some ⟨FB, 0, none⟩) N fc) 48 6 T.rows.length (zaQ T.rows ps)) (by unfold zbE; simp)).lt FB rfl).2
theorem zj9 (h : ze9 w B FB fc N T st sv lvs ps) {i at_ : Nat} {r : ziq} (hr : T.rows[i]? = some r) (h1 : st i < at_) (h2 : at_ <= st (i + 1)) :
  Calls Tryd.prog 48 #[.agg #[.slice (some ⟨FB, 0, none⟩) N fc, sv], .int .i64 (at_ : Nat)] w fun e w' => e = .returned (.int .i64 (i : Nat)) /\ Below w.heap.size w w' := by
 have hiN : i < N := by rw [<- h.ok.rows]; exact (List.getElem?_eq_some_iff.1 hr).1
 have hN16 := h.ok.n16
 obtain ⟨SA, sn, sc, rfl⟩ : ∃ SA sn sc, sv = .slice SA sn sc := by
  obtain ⟨A, c, e, _⟩ := zak (show w.ownsRow B 112 2 sv T.sites.length (zaC T.sites lvs) from h.its.each (.row sv 112 2 T.sites.length (zaC T.sites lvs)) (by unfold zbE; simp));exact ⟨A, _, c, e⟩
 have hP := Blk.new w 31 #[.slice (some ⟨FB, 0, none⟩) N fc, .slice SA sn sc];have hb := (Below.refl w.heap.size w).alloc (Nat.le_refl _) (.cells #[.slice (some ⟨FB, 0, none⟩) N fc, .slice SA sn sc] 31);obtain ⟨V, hV⟩ := nm (w.alloc (.cells #[.slice (some ⟨FB, 0, none⟩) N fc, .slice SA sn sc] 31));obtain ⟨G, hG⟩ := nm (w.heap.size);have hV' := h;have hM := h.below hb;rw [<- hV] at hP hb hM;rw [<- hG] at hP;have kp0 := bc hP 0;clear hV';obtain ⟨H, Hr, HP, Hb, HV, HG, HM⟩ := hd7 h hr hP hb hV hG hM;clear hM hG hV hb hP hr h;go_enter Tryd.func48, Tryd.ntmps48;go_upto_region 1 with fail;rw [<- HG.out, <- HV.out];go_wp2_with fail
 go_loopg [9] N (fun gk iv wr => ∃ j : Nat, j + gk = N /\ j <= i /\ iv = .int .i64 j /\ wr = V)
 case atStart => exact ⟨0, by omega, by omega, rfl, rfl⟩
 case round =>
  obtain ⟨j, hj, hji, rfl, rfl⟩ := hrel
  have hjN : j < N := by omega
  obtain ⟨q, hq⟩ : ∃ q, T.rows[j]? = some q := ⟨_, List.getElem?_eq_getElem (by rw [H.out.ok.rows]; exact hjN)⟩
  obtain ⟨pv, sv', _, _, hrow⟩ := HM.out.row hq;obtain ⟨e1, e2, _⟩ := H.out.ok.row j q hq;have r0 := hrow 0 _ rfl;have r1 := hrow 1 _ rfl;rw [Nat.add_zero] at r0;have hle := H.out.ok.le j i hji (by omega);obtain ⟨s0, hs0⟩ := mn (q.start);obtain ⟨s1, hs1⟩ := mn (q.stop);rw [hs0] at r0;rw [hs1] at r1
  have hlt : (s0 : Int) < at_ := by omega
  by_cases hjie : j = i
  ·subst hjie
   have hle2 : (at_ : Int) <= s1 := by omega
   obtain ⟨Hq, Hrow, He1, He2, Hs0, Hs1, Hle⟩ := hd7 hq hrow e1 e2 hs0 hs1 hle;clear hle hs1 hs0 e2 e1 hrow hq;go_wp2_with fail;go_ret;exact ⟨rfl, Hb.out⟩
  ·have hle3 := H.out.ok.le (j + 1) i (by omega) (by omega)
   have hgt : ¬ (at_ : Int) <= s1 := by omega
   obtain ⟨Hq, Hrow, He1, He2, Hs0, Hs1, Hle, Hle3⟩ := hd8 hq hrow e1 e2 hs0 hs1 hle hle3;clear hle3 hle hs1 hs0 e2 e1 hrow hq;go_wp2_with fail
   go_roundg (gk - 1)
   case measure => omega
   case rel => exact ⟨j + 1, by omega, by omega, by go_num, rfl⟩
theorem zk4 (h : ze9 w B FB fc N T st sv lvs ps) {a : Nat} (ha : a ∈ T.sites.map (·.1)) :
  Calls Tryd.prog 30 #[.agg #[.slice (some ⟨FB, 0, none⟩) N fc, sv], .int .i64 (a : Nat)] w fun e w' => (∃ j : Nat, e = .returned (.tuple #[.int .i64 j, .bool true])) /\ Below w.heap.size w w' := by
 obtain ⟨n, hn⟩ := mn (T.sites.length);have hn16 := h.ok.ns;rw [hn] at hn16;obtain ⟨i, hi⟩ : ∃ i, (T.sites.map (·.1))[i]? = some a := List.getElem?_of_mem ha;rw [List.getElem?_map, Option.map_eq_some_iff] at hi;obtain ⟨s, hs, hsa⟩ := hi
 have hin : i < n := by rw [<- hn]; exact (List.getElem?_eq_some_iff.1 hs).1
 have hrow : w.ownsRow B 112 2 sv T.sites.length (zaC T.sites lvs) := h.its.each (.row sv 112 2 T.sites.length (zaC T.sites lvs)) (by unfold zbE; simp);rw [hn] at hrow;obtain ⟨SB, sc, rfl, _, hSl, _⟩ := zbn hrow (by omega);obtain ⟨fv, hfv⟩ := nm (Value.slice (some ⟨FB, 0, none⟩) N fc);have hP := Blk.new w 31 #[.slice (some ⟨FB, 0, none⟩) N fc, .slice (some ⟨SB, 0, none⟩) n sc];have hb := (Below.refl w.heap.size w).alloc (Nat.le_refl _) (.cells #[.slice (some ⟨FB, 0, none⟩) N fc, .slice (some ⟨SB, 0, none⟩) n sc] 31);obtain ⟨V, hV⟩ := nm (w.alloc (.cells #[.slice (some ⟨FB, 0, none⟩) N fc, .slice (some ⟨SB, 0, none⟩) n sc] 31));obtain ⟨G, hG⟩ := nm (w.heap.size);rw [<- hV] at hP hb;rw [<- hG] at hP;have kp1 := bc hP 1;clear hrow;obtain ⟨H, Hs, HP, Hb, HV, HG, Hn, Ha⟩ := hd8 h hs hP hb hV hG hn ha;obtain ⟨Hfv, Hsa⟩ := hd2 hfv hsa;clear hsa hfv ha hn hG hV hb hP hs h;go_enter Tryd.func30, Tryd.ntmps30;go_upto_region 1 with fail;rw [<- HG.out, <- HV.out];go_wp2_with fail;clear kp1
 go_loopg [11] n (fun gk iv wr => ∃ j : Nat, j + gk = n /\ j <= i /\ iv = .int .i64 j /\ Hid (Below w.heap.size w wr))
 case atStart => exact ⟨0, by omega, by omega, rfl, Hb⟩
 case round =>
  obtain ⟨j, hj, hji, rfl, hbj⟩ := hrel
  have hjn : j < n := by omega
  have hjI : (j : Int) < n := by omega
  have hM := H.out.below hbj.out
  obtain ⟨q, hq⟩ : ∃ q, T.sites[j]? = some q := ⟨_, List.getElem?_eq_getElem (by rw [Hn.out]; exact hjn)⟩
  obtain ⟨lv, hlo, c0, c1⟩ := zhP hM.its hM.l1 (by rw [Hn.out]) hq;obtain ⟨LA, lc, rfl, _⟩ := zak hlo;obtain ⟨ll, hll⟩ := mn (q.2.length);obtain ⟨q1, hq1⟩ := mn (q.1);rw [hll] at c1;rw [hq1] at c0;have hbn := hbj.out.alloc hbj.out.size (.cells #[.int .i64 (q1 : Nat), .slice LA ll lc] 112)
  by_cases hjie : j = i
  ·subst hjie
   have hqe : q1 = a := by
    have := Hs.out;rw [hq] at this;injection this with this;rw [<- hq1, <- Hsa.out, this]
   subst hqe;obtain ⟨Hq, HM, Hlo, Hll, Hq1, Hbn, Hbj⟩ := hd7 hq hM hlo hll hq1 hbn hbj;clear hbj hbn hq1 hll hlo hM hq;go_wp2_with fail;go_ret2;exact ⟨⟨j, rfl⟩, Hbn.out⟩
  ·have hlt := hM.ok.sup j i q s hq Hs.out (by omega)
   have hne : ((q1 : Int) == (a : Int)) = false := by rw [beq_eq_false_iff_ne]; have := Hsa.out; omega
   obtain ⟨Hq, HM, Hlo, Hll, Hq1, Hbn, Hbj, Hlt⟩ := hd8 hq hM hlo hll hq1 hbn hbj hlt;clear hlt hbj hbn hq1 hll hlo hM hq;go_wp2_with fail
   go_roundg (gk - 1)
   case measure => omega
   case rel => exact ⟨j + 1, by omega, by omega, by go_num, Hbn⟩
end
end Go.Proofs.YtnfjjliiajaijaaDoor

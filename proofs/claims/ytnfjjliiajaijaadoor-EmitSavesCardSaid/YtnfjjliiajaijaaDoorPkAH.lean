/- Sets of numbers as plain sets: Copy, New. Conditions: the set's blocks are known. Bytes as values. No condition. Walks of chip's fields and good: which instructions there are. Conditions: numbers fit their kinds. Walk of chip's Encode: instructions as bytes. Conditions: the list lies in memory, its numbers fit their kinds. Moves of words as plain data: what they are in memory, which are right, and how they are laid one after the other. No condition. Where in a frame all things are, as plain data. No condition. -/
import Derived.Test.YtnfjjliiajaijaaDoorPkAA
import Derived.Test.YtnfjjliiajaijaaDoorPkAC
import Derived.Test.YtnfjjliiajaijaaDoorPkAE
import Derived.Test.YtnfjjliiajaijaaDoorPkAG
import Derived.Test.YtnfjjliiajaijaaDoorRows
import Derived.WalkKit
import Derived.WalkSpells
import Derived.WalkLawsBesides
import Derived.Lib.Hide
import Derived.BigQuiet
import Derived.Deep.QuietTactic
import Derived.Deep.DeepCutAuto
import Derived.Lib.BytesEntry
import Derived.Laws.Externs
import Derived.Laws.IdiomStrings
import Derived.Test.YtnfjjliiajaijaaDoorPkAD
set_option linter.unusedVariables false
set_option linter.unusedSimpArgs false
set_option maxRecDepth 100000
set_option maxHeartbeats 10000000
namespace Go.Proofs.YtnfjjliiajaijaaDoor
open Go.RowKit

theorem clone_words (A : Option Addr) (n c : Nat) (xs : List Value) (w : World) (B : Nat) (hr : Reads w B 1 A n xs) (hone : ∀ u ∈ xs, u.oneCell' = true) (hnc : n ≤ c) (hc : c ≤ maxLen) (hB : B ≤ w.heap.size) (hs : n * 8 ≤ 140737488351232) :
  Calls Tryd.prog 85 #[.slice A n c] w fun e w' => Below w.heap.size w w' ∧ ∃ V x, e = .returned (.slice V n x) ∧ w'.ownsRow w.heap.size 53 1 (.slice V n x) n xs := by
 obtain ⟨i0, hi0, hz0, hz1, hz2⟩ := info_parts infoSet
 unfold maxLen at hc
 rcases A with _ | ad
 ·have hn : n = 0 := by
   rcases Nat.eq_zero_or_pos n with h0 | h0
   ·exact h0
   ·obtain ⟨ad, h, _⟩ := hr.2 h0; cases h
  subst hn
  have hx : xs = [] := List.eq_nil_of_length_eq_zero (by simpa using hr.1)
  subst hx
  clear hr hone
  have hq := fun W : World => (Lib.run_eql_slice_nil (P := Tryd.prog) W 143 _ none 0 c 0 0 Tryd.underlying143)
  go_enter Tryd.func85, Tryd.ntmps85
  go_wp2_with fail
  go_ret
  exact ⟨Below.refl _ _, _, _, rfl, World.ownsRow_nil _ _ _ _⟩
 ·have hE := own_lit0 w 53 1
  have hSrc := hr.alloc hB (.cells #[] 53)
  obtain ⟨Hr, HE, HSrc, Hone⟩ := hd4 hr hE hSrc hone
  clear hone hSrc hE hr
  have hq := fun W : World => (Lib.run_eql_slice_nil (P := Tryd.prog) W 143 _ (some ad) n c 0 0 Tryd.underlying143)
  go_enter Tryd.func85, Tryd.ntmps85
  go_wp2_with (first
   | (at_builtin
      refine wpList_append_any _ rfl (.tmp 5) (.tmp 6) _ rfl w.heap.size 53 i0 _ 1 8 Tryd.underlying143 hi0 hz0 hz1 hz2 rfl (by omega) (.slice (some ⟨w.heap.size, 0, none⟩) 0 0) 0 [] rfl HE.out B (some ad) n c xs rfl HSrc.out ?c1 ?c2 ?c3 ?c4 ?_
      case c1 => exact Hone.out
      case c2 => unfold maxLen; omega
      case c3 => omega
      case c4 => simp
      intro v5 w5 hown5 hg5 hat5))
  have hO5 := own_app (ys := xs) hown5 rfl
  obtain ⟨V, x, rfl, _⟩ := own_any hO5
  have hb5 : Below w.heap.size w w5 := ((Below.refl _ _).alloc (Nat.le_refl _) _).grown hg5 (by simp) (fun k e => by injection e with e; simp only at e; omega)
  obtain ⟨Hown5, HO5, Hg5, Hat5, Hb5⟩ := hd5 hown5 hO5 hg5 hat5 hb5
  clear hb5 hat5 hg5 hO5 hown5
  go_ret
  exact ⟨Hb5.out, V, x, rfl, HO5.out⟩
theorem wordsS_cells {w : World} {g h n : Nat} {S : Nat → Bool} (hs : SetF w g h n S) : Reads w w.heap.size 1 (some ⟨h, 0, none⟩) ((n + 63) / 64) ((wordsS n S).map (Value.int .u64)) := by
 refine ⟨by simp [wordsS_len], fun _ => ⟨_, rfl, hs.hlt, fun k u hu => ?_⟩⟩
 have hk : k < (n + 63) / 64 := by
  have := (List.getElem?_eq_some_iff.1 hu).1
  simpa [wordsS_len] using this
 rw [List.getElem?_map, wordsS_get hk] at hu
 injection hu with hu
 subst hu
 rw [addr_zero]
 exact hs.word hk
theorem copyF_any {g h n : Nat} {S : Nat → Bool} {w : World} (hs : SetF w g h n S) (hn : 0 < n) :
  Calls Tryd.prog 63 #[.pointer (some ⟨g, 0, none⟩)] w fun e w' => ∃ g' h', e = .returned (.pointer (some ⟨g', 0, none⟩)) ∧ w.heap.size ≤ g' ∧ w.heap.size ≤ h' ∧ SetF w' g' h' n S ∧ Below w.heap.size w w' := by
 obtain ⟨hc0, c, hcc, hcm, hc1⟩ := hs.cells
 have hle := hs.le
 have hR := wordsS_cells hs
 obtain ⟨L, hL⟩ : ∃ L, (n + 63) / 64 = L := ⟨_, rfl⟩
 rw [hL] at hR hc1 hcc
 have hL0 : 0 < L := by omega
 have hcl := clone_words (some ⟨h, 0, none⟩) L c _ w.drew w.heap.size hR.drew (nums_one _ _) hcc hcm (Nat.le_refl _) (by omega)
 obtain ⟨Hs, HL, HR, Hcl⟩ := hd4 hs hL hR hcl
 clear hcl hR hL hs
 go_enter Tryd.func63, Tryd.ntmps63
 go_upto_region 3 with fail
 refine wp_region_late (S := fun W => W.cell? ⟨g, 0, none⟩ = some (.int .i64 (n : Nat)) ∧ W.cell? ⟨g, 1, none⟩ = some (.slice (some ⟨h, 0, none⟩) L c)) #[false, false, false, false, false, false, false, false, false, false, false, false] (by kernel_rfl) ⟨hc0, hc1⟩ (fun hHeld => ?_)
 refine wpAnyL_tk 0 ?_
 refine wpAnyL_tk 1 ?_
 refine wpAnyL_tk 2 ?_
 refine wpAnyL_tk 3 ?_
 refine wpAnyL_tk 4 ?_
 refine wpAnyL_tk 5 ?_
 refine wpAnyL_tk 6 ?_
 refine wpAnyL_tk 7 ?_
 refine wpAnyL_ready (rs := [8]) (by kernel_rfl) (by simp) ?_
 refine AllReadyL.cons rfl (fun K hK => ?_) AllReadyL.nil
 go_simp
 refine Hcl.out.mono ?_
 rintro e w2 ⟨hb2, V, x, rfl, hown⟩
 have hb2 := Below.of_drew hb2
 obtain ⟨hV, vc, hVe, hVb, hVl, hLx, hxm⟩ := own_form hown hL0
 injection hVe with hVe _ hxe
 subst hVe hxe
 have hs2 := Hs.out.below hb2 Hs.out.glt Hs.out.hlt
 obtain ⟨hc20, c2, _, _, hc21⟩ := hs2.cells
 have hsz2 := hb2.size
 have hS2 : (w2.cell? ⟨g, 0, none⟩ = some (.int .i64 (n : Nat)) ∧ w2.cell? ⟨g, 1, none⟩ = some (.slice (some ⟨h, 0, none⟩) L c)) := ⟨hc20, (hb2.cell (p := ⟨g, 1, none⟩) Hs.out.glt).trans hc1⟩
 refine hK.out _ _ hS2 (fun hHeld2 => ?_)
 clear hK K hHeld
 try simp only [Act.put, List.getElem_toArray, List.getElem_cons_zero, List.getElem_cons_succ, List.setIfInBounds_toArray, List.set_cons_zero, List.set_cons_succ]
 refine wpAnyL_tk 9 ?_
 refine wpAnyL_ready (rs := [10]) (by kernel_rfl) (by simp) ?_
 refine AllReadyL.cons rfl (fun K hK => ?_) AllReadyL.nil
 go_simp
 have hgl2 : g < w2.heap.size := Nat.lt_of_lt_of_le Hs.out.glt hsz2
 refine hK.out _ _ ⟨(World.cell?_alloc_lt w2 _ ⟨g, 0, none⟩ hgl2).trans hS2.1, (World.cell?_alloc_lt w2 _ ⟨g, 1, none⟩ hgl2).trans hS2.2⟩ (fun hHeld3 => ?_)
 clear hK K hHeld2
 try simp only [Act.put, List.getElem_toArray, List.getElem_cons_zero, List.getElem_cons_succ, List.setIfInBounds_toArray, List.set_cons_zero, List.set_cons_succ]
 refine wpAnyL_tk 11 ?_
 refine wpAnyL_done (by kernel_rfl) ?_ _
 have hfin : SetF (w2.alloc (.cells #[.int .i64 (n : Nat), .slice (some ⟨hV, 0, none⟩) L x] 145)) w2.heap.size hV n S := by
  refine ⟨⟨x, by rw [HL.out]; exact hLx, hxm, by rw [HL.out]; exact Blk.new _ _ _⟩, ?_, Hs.out.le⟩
  obtain ⟨cur, hcur⟩ := own_blk hown rfl
  refine ⟨cur, hcur.alloc _, fun k hk => ?_⟩
  obtain ⟨_, g', e, _, _, hrow⟩ := own_row hown hL0
  injection e with e
  injection e with e
  subst e
  have h1 := hrow k _ (by rw [List.getElem?_map, wordsS_get hk]; rfl)
  rw [addr_zero, hcur.cell k] at h1
  exact h1
 have hb3 : Below w.heap.size w (w2.alloc (.cells #[.int .i64 (n : Nat), .slice (some ⟨hV, 0, none⟩) L x] 145)) := hb2.alloc hsz2 _
 have hVb' : w.heap.size ≤ hV := hVb
 obtain ⟨Hb2, Hown, Hs2, HS2, Hfin, Hb3⟩ := hd6 hb2 hown hs2 hS2 hfin hb3
 clear hb3 hfin hS2 hs2 hown hb2
 go_wp2_with fail
 go_ret
 exact ⟨_, rfl, hsz2, hV, hVb', Hfin.out, Hb3.out⟩
theorem wordS_none (k : Nat) : wordS (fun _ => false) k = 0 := by
 refine Nat.eq_of_testBit_eq fun i => ?_
 rw [wordS_bit]; simp
theorem newF_any (n : Nat) (w : World) (hn : n ≤ 1048576) :
  Calls Tryd.prog 61 #[.int .i64 (n : Nat)] w fun e w' => ∃ g' h', e = .returned (.pointer (some ⟨g', 0, none⟩)) ∧ w.heap.size ≤ g' ∧ w.heap.size ≤ h' ∧ SetF w' g' h' n (fun _ => false) ∧ Below w.heap.size w w' := by
 refine (new_any (n : Int) (n : Int) w (by omega)).mono ?_
 rintro e w' ⟨rfl, hs, hb⟩
 refine ⟨_, _, rfl, by omega, Nat.le_refl _, ?_, hb⟩
 have hz : ((((n : Int) + 63) / 64).toNat) = (n + 63) / 64 := by omega
 have ht := hs.top
 have hw := hs.words
 rw [hz] at ht hw
 have hl : (zeros ((n + 63) / 64)).length = (n + 63) / 64 := by simp [zeros]
 refine ⟨⟨(n + 63) / 64, Nat.le_refl _, by unfold maxLen; omega, by rw [hl] at ht; exact ht⟩, ⟨_, hw, fun k hk => ?_⟩, hn⟩
 rw [wordS_none]
 simp [u64s, zeros, hk]
end Go.Proofs.YtnfjjliiajaijaaDoor
namespace Go.Proofs.YtnfjjliiajaijaaDoor
open Go.RowKit

theorem infoU8 : (Tryd.prog.info? 5).map (fun i => (i.zero, i.size, i.bytes)) = some (some (.int .u8 0), 1, 1) := by kernel_rfl
def byteVals (l : List Int) : List Value := l.map (Value.int .u8)
theorem byteVals_one (l : List Int) : ∀ u ∈ byteVals l, u.oneCell' = true := by
 intro u hu
 simp only [byteVals, List.mem_map] at hu
 obtain ⟨x, _, rfl⟩ := hu
 rfl
end Go.Proofs.YtnfjjliiajaijaaDoor
namespace Go.Proofs.YtnfjjliiajaijaaDoor
open Go.RowKit

/-- an instruction of the machine -/
structure MInstD where
 op : Int
 d : Int
 a : Int
 b : Int
 imm : Int
def mcells (i : MInstD) : List Value := [.int .u8 i.op, .int .i64 i.d, .int .i64 i.a, .int .i64 i.b, .int .i32 i.imm]
structure MInstD.Wf (i : MInstD) : Prop where
 op : 0 ≤ i.op ∧ i.op ≤ 255
 d : -9223372036854775808 ≤ i.d ∧ i.d ≤ 9223372036854775807
 a : -9223372036854775808 ≤ i.a ∧ i.a ≤ 9223372036854775807
 b : -9223372036854775808 ≤ i.b ∧ i.b ≤ 9223372036854775807
 imm : -2147483648 ≤ i.imm ∧ i.imm ≤ 2147483647
/-- the letters of the fields that an operation uses -/
def lettersOf (op : Int) : Option (List Int) :=
 if op = 1 ∨ op = 2 then some [68, 73] else if op = 3 then some [68, 65] else if op = 4 ∨ op = 6 then some [68, 65, 73] else if op = 5 then some [65, 66, 73] else if op = 8 then some [65, 73]
 else if op = 7 ∨ op = 9 ∨ op = 11 ∨ op = 12 then some [73] else if op = 10 then some [] else if op = 13 then some [68, 65, 66, 73] else if 39 ≤ op ∧ op ≤ 52 then some [68, 65, 66] else none
theorem fields_some (op : Int) (cs : List Int) (w : World) (h : lettersOf op = some cs) :
  Calls Tryd.prog 79 #[.int .u8 op] w fun e w' => e = .returned (.tuple #[.string (strOfNums cs), .bool true]) ∧ w = w' := by
 by_cases h1 : op = 1 ∨ op = 2 ∨ op = 3 ∨ op = 4 ∨ op = 5 ∨ op = 6 ∨ op = 7 ∨ op = 8 ∨ op = 9 ∨ op = 10 ∨ op = 11 ∨ op = 12 ∨ op = 13
 ·rcases h1 with rfl | rfl | rfl | rfl | rfl | rfl | rfl | rfl | rfl | rfl | rfl | rfl | rfl
  all_goals
   simp only [lettersOf] at h
   simp at h
   subst h
   go_enter Tryd.func79, Tryd.ntmps79
   go_wp2_with fail
   go_ret2
   exact ⟨by rfl, rfl⟩
 ·have h2 : 39 ≤ op ∧ op ≤ 52 ∧ cs = [68, 65, 66] := by
   unfold lettersOf at h
   rw [if_neg (by omega), if_neg (by omega), if_neg (by omega), if_neg (by omega), if_neg (by omega), if_neg (by omega), if_neg (by omega), if_neg (by omega)] at h
   by_cases h3 : 39 ≤ op ∧ op ≤ 52
   ·rw [if_pos h3] at h
    injection h with h
    exact ⟨h3.1, h3.2, h.symm⟩
   ·rw [if_neg h3] at h; cases h
  obtain ⟨g1, g2, rfl⟩ := h2
  have d1 : (op == 1) = false ∧ (op == 2) = false ∧ (op == 3) = false ∧ (op == 4) = false ∧ (op == 5) = false ∧ (op == 6) = false ∧ (op == 7) = false ∧ (op == 8) = false ∧ (op == 9) = false ∧ (op == 10) = false ∧ (op == 11) = false ∧ (op == 12) = false ∧ (op == 13) = false := by
   simp only [beq_eq_false_iff_ne, ne_eq]; omega
  have g3 : (32 : Int) ≤ op := by omega
  have g4 : (7 : Int) ≤ op - 32 := by omega
  have g5 : op - 32 ≤ 20 := by omega
  clear h h1
  go_enter Tryd.func79, Tryd.ntmps79
  go_wp2_with fail
  go_ret2
  exact ⟨by rfl, rfl⟩
theorem fields_none (op : Int) (w : World) (ho : 0 ≤ op ∧ op ≤ 255) (h : lettersOf op = none) :
  Calls Tryd.prog 79 #[.int .u8 op] w fun e w' => (∃ s, e = .returned (.tuple #[.string s, .bool false])) ∧ w = w' := by
 have h2 : ¬ (1 ≤ op ∧ op ≤ 13) ∧ ¬ (39 ≤ op ∧ op ≤ 52) := by
  refine ⟨fun h1 => ?_, fun h1 => ?_⟩
  ·have : op = 1 ∨ op = 2 ∨ op = 3 ∨ op = 4 ∨ op = 5 ∨ op = 6 ∨ op = 7 ∨ op = 8 ∨ op = 9 ∨ op = 10 ∨ op = 11 ∨ op = 12 ∨ op = 13 := by omega
   rcases this with rfl | rfl | rfl | rfl | rfl | rfl | rfl | rfl | rfl | rfl | rfl | rfl | rfl <;> simp [lettersOf] at h
  ·unfold lettersOf at h
   rw [if_neg (by omega), if_neg (by omega), if_neg (by omega), if_neg (by omega), if_neg (by omega), if_neg (by omega), if_neg (by omega), if_neg (by omega), if_pos h1] at h
   cases h
 obtain ⟨g1, g2⟩ := h2
 have d1 : (op == 1) = false ∧ (op == 2) = false ∧ (op == 3) = false ∧ (op == 4) = false ∧ (op == 5) = false ∧ (op == 6) = false ∧ (op == 7) = false ∧ (op == 8) = false ∧ (op == 9) = false ∧ (op == 10) = false ∧ (op == 11) = false ∧ (op == 12) = false ∧ (op == 13) = false := by
  simp only [beq_eq_false_iff_ne, ne_eq]; omega
 have hc : ¬ 32 ≤ op ∨ (32 ≤ op ∧ ¬ 7 ≤ op - 32) ∨ (32 ≤ op ∧ 7 ≤ op - 32 ∧ ¬ op - 32 ≤ 20) := by omega
 clear h g1 g2
 rcases hc with c1 | ⟨c1, c2⟩ | ⟨c1, c2, c3⟩
 all_goals
  go_enter Tryd.func79, Tryd.ntmps79
  go_wp2_with fail
  go_ret2
  exact ⟨⟨_, rfl⟩, rfl⟩
theorem indexByte_any (b n c : Nat) (xs : List Int) (cv : Int) (w : World) (hx : xs.length = n) (hc : ∀ i, i < n → w.cell? ⟨b, 0 + i, none⟩ = some (.int .u8 (xs.getD i 0))) :
  Calls Tryd.prog 80 #[.slice (some ⟨b, 0, none⟩) n c, .int .u8 cv] w fun e w' => e = .returned (.int .i64 (Lib.indexByte (Lib.bytesOf xs) cv.toNat.toUInt8)) ∧ w = w' := by
 go_enter Tryd.func80, Tryd.ntmps80
 go_wp2_with fail
 rw [run_callFunc_extern Tryd.func88 (by kernel_rfl) (by kernel_rfl) (by kernel_rfl) (e := Extern.BytealgIndexByte.indexByte) (by kernel_rfl), Lib.run_indexByteSlice w b 0 n c xs hx hc cv]
 simp only [Result.andThen]
 rw [Oper.upon_value]
 go_wp2_with fail
 go_ret
 exact ⟨rfl, rfl⟩
/-- a string's bytes, in a row of their own -/
theorem conv_back (W : World) (xs : List Int) (hb : ∀ x ∈ xs, 0 ≤ x ∧ x < 256) : ∃ cp W', (convert 9 27 (.string (strOfNums xs))).run Tryd.prog W = .ok (.slice (some ⟨W.heap.size, 0, none⟩) xs.length cp) W' ∧
  xs.length ≤ cp ∧ Reads W' (W.heap.size + 1) 1 (some ⟨W.heap.size, 0, none⟩) xs.length (byteVals xs) ∧ Below W.heap.size W W' ∧ W'.heap.size = W.heap.size + 1 := by
 have hs := run_bytes_of_string (P := Tryd.prog) W 9 27 5 (strOfNums xs) Tryd.underlying9 Tryd.underlying27 Tryd.underlying5
 rw [strOfNums_size] at hs
 refine ⟨_, _, hs, by have := grownCap_ge W (strOfNums xs).size 0 5; rw [strOfNums_size] at this; exact this, ⟨by simp [byteVals], fun hn => ⟨_, rfl, Nat.lt_succ_self _, fun j u hu => ?_⟩⟩, ((Below.refl W.heap.size W).drew).alloc (Nat.le_refl _) _, by simp⟩
 refine World.news_of_block (heap_alloc_new W.drew _) j u ?_
 rw [byteVals, List.getElem?_map, Option.map_eq_some_iff] at hu
 obtain ⟨x, hx, rfl⟩ := hu
 have hjl := (List.getElem?_eq_some_iff.1 hx).1
 obtain ⟨x0, x1⟩ := hb x (List.mem_of_getElem? hx)
 simp only [bytesRow, Array.toList_append, Array.toList_map, strOfNums]
 rw [List.getElem?_append_left (by simpa using hjl), List.getElem?_map, List.getElem?_map, hx]
 simp only [Option.map_some, Option.some.injEq, Value.int.injEq, true_and]
 rw [UInt8.toNat_ofNat']
 omega
theorem letters_byte {op : Int} {cs : List Int} (h : lettersOf op = some cs) : ∀ x ∈ cs, 0 ≤ x ∧ x < 256 := by
 intro x hx
 unfold lettersOf at h
 repeat' split at h
 all_goals first | (cases h; simp at hx; done) | (cases h; simp at hx; omega) | cases h
def useK (cs : List Int) (c : Int) : Bool := decide (0 ≤ Lib.indexByte (Lib.bytesOf cs) c.toNat.toUInt8)
def fieldOk (u : Bool) (reg : Bool) (v : Int) : Bool := (u || v == 0) && (!reg || (decide (0 ≤ v) && decide (v ≤ 15)))
def specOk (op imm : Int) : Bool := if op = 11 ∨ op = 12 then decide (0 ≤ imm) && decide (imm ≤ 65536) && decide (imm % 8 = 0) else if op = 13 then decide (0 ≤ imm) else true
def partsOk (i : MInstD) (cs : List Int) (k : Nat) : Prop := (0 < k → fieldOk (useK cs 68) true i.d = true) ∧ (1 < k → fieldOk (useK cs 65) true i.a = true) ∧ (2 < k → fieldOk (useK cs 66) true i.b = true) ∧ (3 < k → fieldOk (useK cs 73) false i.imm = true)
def goodP (i : MInstD) : Bool := match lettersOf i.op with
 | none => false
 | some cs => fieldOk (useK cs 68) true i.d && fieldOk (useK cs 65) true i.a && fieldOk (useK cs 66) true i.b && fieldOk (useK cs 73) false i.imm && specOk i.op i.imm
theorem good_any (i : MInstD) (hw : i.Wf) (w : World) :
  Calls Tryd.prog 42 #[.agg (mcells i).toArray] w fun e w' => e = .returned (.bool (goodP i)) ∧ Below w.heap.size w w' := by
 obtain ⟨op, d, a, b, imm⟩ := i
 obtain ⟨⟨ho0, ho1⟩, ⟨hd0, hd1⟩, ⟨ha0, ha1⟩, ⟨hb0, hb1⟩, ⟨hi0, hi1⟩⟩ := hw
 simp only at *
 have hP0 := Blk.new w 71 #[.int .u8 op, .int .i64 d, .int .i64 a, .int .i64 b, .int .i32 imm]
 have hb00 : Below w.heap.size w (w.alloc (.cells #[.int .u8 op, .int .i64 d, .int .i64 a, .int .i64 b, .int .i32 imm] 71)) := (Below.refl _ _).alloc (Nat.le_refl _) _
 show Calls Tryd.prog 42 #[.agg #[.int .u8 op, .int .i64 d, .int .i64 a, .int .i64 b, .int .i32 imm]] w _
 have kp0 := Blk.cell hP0 0
 have kp1 := Blk.cell hP0 1
 have kp2 := Blk.cell hP0 2
 have kp3 := Blk.cell hP0 3
 have kp4 := Blk.cell hP0 4
 simp only [List.getElem?_toArray, List.getElem?_cons_zero, List.getElem?_cons_succ] at kp0 kp1 kp2 kp3 kp4
 rcases hl : lettersOf op with _ | cs
 ·have hg : goodP ⟨op, d, a, b, imm⟩ = false := by unfold goodP; simp only [hl]
  obtain ⟨Hg, Hl, Hb00, HP0⟩ := hd4 hg hl hb00 hP0
  clear hP0 hb00 hl hg
  go_enter Tryd.func42, Tryd.ntmps42
  go_wp2_with fail
  refine (fields_none op _ ⟨ho0, ho1⟩ Hl.out).mono ?_
  rintro e w1 ⟨⟨s, rfl⟩, rfl⟩
  go_wp2_with fail
  go_ret
  exact ⟨by rw [Hg.out]; rfl, Hb00.out⟩
 ·have hbytes := letters_byte hl
  have hQ0 := Blk.new2 w (.cells #[.int .u8 op, .int .i64 d, .int .i64 a, .int .i64 b, .int .i32 imm] 71) 3 #[.int .i64 d, .int .i64 a, .int .i64 b, .int .i64 imm]
  have hP1 := hP0.alloc (.cells #[.int .i64 d, .int .i64 a, .int .i64 b, .int .i64 imm] 3)
  have hb01 := hb00.alloc (by simp) (.cells #[.int .i64 d, .int .i64 a, .int .i64 b, .int .i64 imm] 3)
  obtain ⟨Hl, Hb00, HP0, Hbytes, HQ0, HP1, Hb01⟩ := hd7 hl hb00 hP0 hbytes hQ0 hP1 hb01
  clear hb01 hP1 hQ0 hbytes hP0 hb00 hl
  go_enter Tryd.func42, Tryd.ntmps42
  go_wp2_with fail
  refine (fields_some op cs _ Hl.out).mono ?_
  rintro e w1 ⟨rfl, rfl⟩
  go_wp2_with fail
  go_loopw [27] (fun i wq => ∃ k : Nat, k ≤ 4 ∧ i = .int .i64 k ∧ Blk wq w.heap.size 71 #[.int .u8 op, .int .i64 d, .int .i64 a, .int .i64 b, .int .i32 imm] ∧ Blk wq (w.heap.size + 1) 3 #[.int .i64 d, .int .i64 a, .int .i64 b, .int .i64 imm] ∧ Below w.heap.size w wq ∧ Hid (partsOk ⟨op, d, a, b, imm⟩ cs k)) (fun i _ => 4 - (intOf i).toNat)
  case atStart => exact ⟨0, by omega, rfl, HP1.out, HQ0.out, Hb01.out, (show partsOk _ _ _ from ⟨by omega, by omega, by omega, by omega⟩)⟩
  case round =>
   obtain ⟨k, hk, rfl, hP, hQ, hbw, hparts⟩ := hrel
   clear kp0 kp1 kp2 kp3 kp4
   by_cases hk4 : k < 4
   ·obtain ⟨cp, w5, hcv, hcp, hRd, hb5, hs5⟩ := conv_back wr cs Hbytes.out
    have hP5 := hP.below hb5 hP.lt
    have hQ5 := hQ.below hb5 hQ.lt
    have hbw5 := hbw.trans (hb5.mono hbw.size)
    have hcell : ∀ j, j < cs.length → w5.cell? ⟨wr.heap.size, 0 + j, none⟩ = some (.int .u8 (cs.getD j 0)) := fun j hj => by
     obtain ⟨ad, e1, _, hc⟩ := hRd.2 (by omega)
     injection e1 with e1
     subst e1
     have := hc j (.int .u8 (cs.getD j 0)) (by simp [byteVals, List.getElem?_eq_getElem hj, List.getD_eq_getElem?_getD])
     rwa [addr_at] at this
    have kq0 := Blk.cell hQ 0
    have kq1 := Blk.cell hQ 1
    have kq2 := Blk.cell hQ 2
    have kq3 := Blk.cell hQ 3
    simp only [List.getElem?_toArray, List.getElem?_cons_zero, List.getElem?_cons_succ] at kq0 kq1 kq2 kq3
    obtain ⟨HP, HQ, Hbw, HP5, HQ5, Hbw5, HRd, Hb5⟩ := hd8 hP hQ hbw hP5 hQ5 hbw5 hRd hb5
    have Hcell := Lib.hid hcell
    clear hcell hb5 hRd hbw5 hQ5 hP5 hbw hQ hP
    rcases (show k = 0 ∨ k = 1 ∨ k = 2 ∨ k = 3 by omega) with rfl | rfl | rfl | rfl
    ·obtain ⟨r, hr⟩ : ∃ r, r = Lib.indexByte (Lib.bytesOf cs) (68 : Int).toNat.toUInt8 := ⟨_, rfl⟩
     have hu : useK cs 68 = decide (0 ≤ r) := by rw [useK, hr]
     have Hu := Lib.hid hu
     clear hu
     go_wp2_with fail
     refine (indexByte_any wr.heap.size cs.length cp cs 68 w5 rfl Hcell.out).mono ?_
     rintro e w6 ⟨rfl, rfl⟩
     rw [← hr]
     have Hr := Lib.hid hr
     clear hr
     have hcase : (0 ≤ r ∧ ¬ d < 0 ∧ ¬ 15 < d) ∨ (0 ≤ r ∧ d < 0) ∨ (0 ≤ r ∧ ¬ d < 0 ∧ 15 < d) ∨ (¬ 0 ≤ r ∧ (d != 0) = true) ∨ (¬ 0 ≤ r ∧ (d != 0) = false ∧ True) := by
      by_cases g1 : 0 ≤ r <;> by_cases g2 : d = 0 <;> simp [g1, g2] <;> omega
     rcases hcase with ⟨g1, g2, g3⟩ | ⟨g1, g2⟩ | ⟨g1, g2, g3⟩ | ⟨g1, g2⟩ | ⟨g1, g2, g3⟩
     ·have hok : fieldOk (useK cs 68) true d = true := by rw [Hu.out, fieldOk]; simp; omega
      have hp : partsOk ⟨op, d, a, b, imm⟩ cs (0 + 1) := ⟨fun _ => hok, fun h => by omega, fun h => by omega, fun h => by omega⟩
      obtain ⟨Hp, Hok⟩ := hd2 hp hok
      clear hok hp
      go_wp2_with fail
      exact ⟨⟨0 + 1, by omega, by go_num, HP5.out, HQ5.out, Hbw5.out, Hp.out⟩, by simp [intOf]⟩
     ·have hno : fieldOk (useK cs 68) true d = false := by rw [Hu.out, fieldOk]; simp; omega
      have hg : goodP ⟨op, d, a, b, imm⟩ = false := by unfold goodP; simp only [Hl.out, hno, Bool.false_and, Bool.and_false]
      obtain ⟨Hg, Hno⟩ := hd2 hg hno
      clear hno hg
      go_wp2_with fail
      go_ret
      exact ⟨by rw [Hg.out]; rfl, Hbw5.out⟩
     ·have hno : fieldOk (useK cs 68) true d = false := by rw [Hu.out, fieldOk]; simp; omega
      have hg : goodP ⟨op, d, a, b, imm⟩ = false := by unfold goodP; simp only [Hl.out, hno, Bool.false_and, Bool.and_false]
      obtain ⟨Hg, Hno⟩ := hd2 hg hno
      clear hno hg
      go_wp2_with fail
      go_ret
      exact ⟨by rw [Hg.out]; rfl, Hbw5.out⟩
     ·have hno : fieldOk (useK cs 68) true d = false := by
       have g2' : d ≠ 0 := by simpa using g2
       rw [Hu.out, fieldOk]; simp [g1, g2']
      have hg : goodP ⟨op, d, a, b, imm⟩ = false := by unfold goodP; simp only [Hl.out, hno, Bool.false_and, Bool.and_false]
      obtain ⟨Hg, Hno⟩ := hd2 hg hno
      clear hno hg
      go_wp2_with fail
      go_ret
      exact ⟨by rw [Hg.out]; rfl, Hbw5.out⟩
     ·have hz : d = 0 := by simpa using g2
      have hok : fieldOk (useK cs 68) true d = true := by rw [Hu.out, fieldOk]; simp [hz]
      have g4 : ¬ d < 0 := by omega
      have g5 : ¬ 15 < d := by omega
      have Hz := Lib.hid hz
      clear hz
      have hp : partsOk ⟨op, d, a, b, imm⟩ cs (0 + 1) := ⟨fun _ => hok, fun h => by omega, fun h => by omega, fun h => by omega⟩
      obtain ⟨Hp, Hok⟩ := hd2 hp hok
      clear hok hp
      go_wp2_with fail
      exact ⟨⟨0 + 1, by omega, by go_num, HP5.out, HQ5.out, Hbw5.out, Hp.out⟩, by simp [intOf]⟩
    ·obtain ⟨r, hr⟩ : ∃ r, r = Lib.indexByte (Lib.bytesOf cs) (65 : Int).toNat.toUInt8 := ⟨_, rfl⟩
     have hu : useK cs 65 = decide (0 ≤ r) := by rw [useK, hr]
     have Hu := Lib.hid hu
     clear hu
     go_wp2_with fail
     refine (indexByte_any wr.heap.size cs.length cp cs 65 w5 rfl Hcell.out).mono ?_
     rintro e w6 ⟨rfl, rfl⟩
     rw [← hr]
     have Hr := Lib.hid hr
     clear hr
     have hcase : (0 ≤ r ∧ ¬ a < 0 ∧ ¬ 15 < a) ∨ (0 ≤ r ∧ a < 0) ∨ (0 ≤ r ∧ ¬ a < 0 ∧ 15 < a) ∨ (¬ 0 ≤ r ∧ (a != 0) = true) ∨ (¬ 0 ≤ r ∧ (a != 0) = false ∧ True) := by
      by_cases g1 : 0 ≤ r <;> by_cases g2 : a = 0 <;> simp [g1, g2] <;> omega
     rcases hcase with ⟨g1, g2, g3⟩ | ⟨g1, g2⟩ | ⟨g1, g2, g3⟩ | ⟨g1, g2⟩ | ⟨g1, g2, g3⟩
     ·have hok : fieldOk (useK cs 65) true a = true := by rw [Hu.out, fieldOk]; simp; omega
      have hp : partsOk ⟨op, d, a, b, imm⟩ cs (1 + 1) := ⟨fun _ => hparts.out.1 (by omega), fun _ => hok, fun h => by omega, fun h => by omega⟩
      obtain ⟨Hp, Hok⟩ := hd2 hp hok
      clear hok hp
      go_wp2_with fail
      exact ⟨⟨1 + 1, by omega, by go_num, HP5.out, HQ5.out, Hbw5.out, Hp.out⟩, by simp [intOf]⟩
     ·have hno : fieldOk (useK cs 65) true a = false := by rw [Hu.out, fieldOk]; simp; omega
      have hg : goodP ⟨op, d, a, b, imm⟩ = false := by unfold goodP; simp only [Hl.out, hno, Bool.false_and, Bool.and_false]
      obtain ⟨Hg, Hno⟩ := hd2 hg hno
      clear hno hg
      go_wp2_with fail
      go_ret
      exact ⟨by rw [Hg.out]; rfl, Hbw5.out⟩
     ·have hno : fieldOk (useK cs 65) true a = false := by rw [Hu.out, fieldOk]; simp; omega
      have hg : goodP ⟨op, d, a, b, imm⟩ = false := by unfold goodP; simp only [Hl.out, hno, Bool.false_and, Bool.and_false]
      obtain ⟨Hg, Hno⟩ := hd2 hg hno
      clear hno hg
      go_wp2_with fail
      go_ret
      exact ⟨by rw [Hg.out]; rfl, Hbw5.out⟩
     ·have hno : fieldOk (useK cs 65) true a = false := by
       have g2' : a ≠ 0 := by simpa using g2
       rw [Hu.out, fieldOk]; simp [g1, g2']
      have hg : goodP ⟨op, d, a, b, imm⟩ = false := by unfold goodP; simp only [Hl.out, hno, Bool.false_and, Bool.and_false]
      obtain ⟨Hg, Hno⟩ := hd2 hg hno
      clear hno hg
      go_wp2_with fail
      go_ret
      exact ⟨by rw [Hg.out]; rfl, Hbw5.out⟩
     ·have hz : a = 0 := by simpa using g2
      have hok : fieldOk (useK cs 65) true a = true := by rw [Hu.out, fieldOk]; simp [hz]
      have g4 : ¬ a < 0 := by omega
      have g5 : ¬ 15 < a := by omega
      have Hz := Lib.hid hz
      clear hz
      have hp : partsOk ⟨op, d, a, b, imm⟩ cs (1 + 1) := ⟨fun _ => hparts.out.1 (by omega), fun _ => hok, fun h => by omega, fun h => by omega⟩
      obtain ⟨Hp, Hok⟩ := hd2 hp hok
      clear hok hp
      go_wp2_with fail
      exact ⟨⟨1 + 1, by omega, by go_num, HP5.out, HQ5.out, Hbw5.out, Hp.out⟩, by simp [intOf]⟩
    ·obtain ⟨r, hr⟩ : ∃ r, r = Lib.indexByte (Lib.bytesOf cs) (66 : Int).toNat.toUInt8 := ⟨_, rfl⟩
     have hu : useK cs 66 = decide (0 ≤ r) := by rw [useK, hr]
     have Hu := Lib.hid hu
     clear hu
     go_wp2_with fail
     refine (indexByte_any wr.heap.size cs.length cp cs 66 w5 rfl Hcell.out).mono ?_
     rintro e w6 ⟨rfl, rfl⟩
     rw [← hr]
     have Hr := Lib.hid hr
     clear hr
     have hcase : (0 ≤ r ∧ ¬ b < 0 ∧ ¬ 15 < b) ∨ (0 ≤ r ∧ b < 0) ∨ (0 ≤ r ∧ ¬ b < 0 ∧ 15 < b) ∨ (¬ 0 ≤ r ∧ (b != 0) = true) ∨ (¬ 0 ≤ r ∧ (b != 0) = false ∧ True) := by
      by_cases g1 : 0 ≤ r <;> by_cases g2 : b = 0 <;> simp [g1, g2] <;> omega
     rcases hcase with ⟨g1, g2, g3⟩ | ⟨g1, g2⟩ | ⟨g1, g2, g3⟩ | ⟨g1, g2⟩ | ⟨g1, g2, g3⟩
     ·have hok : fieldOk (useK cs 66) true b = true := by rw [Hu.out, fieldOk]; simp; omega
      have hp : partsOk ⟨op, d, a, b, imm⟩ cs (2 + 1) := ⟨fun _ => hparts.out.1 (by omega), fun _ => hparts.out.2.1 (by omega), fun _ => hok, fun h => by omega⟩
      obtain ⟨Hp, Hok⟩ := hd2 hp hok
      clear hok hp
      go_wp2_with fail
      exact ⟨⟨2 + 1, by omega, by go_num, HP5.out, HQ5.out, Hbw5.out, Hp.out⟩, by simp [intOf]⟩
     ·have hno : fieldOk (useK cs 66) true b = false := by rw [Hu.out, fieldOk]; simp; omega
      have hg : goodP ⟨op, d, a, b, imm⟩ = false := by unfold goodP; simp only [Hl.out, hno, Bool.false_and, Bool.and_false]
      obtain ⟨Hg, Hno⟩ := hd2 hg hno
      clear hno hg
      go_wp2_with fail
      go_ret
      exact ⟨by rw [Hg.out]; rfl, Hbw5.out⟩
     ·have hno : fieldOk (useK cs 66) true b = false := by rw [Hu.out, fieldOk]; simp; omega
      have hg : goodP ⟨op, d, a, b, imm⟩ = false := by unfold goodP; simp only [Hl.out, hno, Bool.false_and, Bool.and_false]
      obtain ⟨Hg, Hno⟩ := hd2 hg hno
      clear hno hg
      go_wp2_with fail
      go_ret
      exact ⟨by rw [Hg.out]; rfl, Hbw5.out⟩
     ·have hno : fieldOk (useK cs 66) true b = false := by
       have g2' : b ≠ 0 := by simpa using g2
       rw [Hu.out, fieldOk]; simp [g1, g2']
      have hg : goodP ⟨op, d, a, b, imm⟩ = false := by unfold goodP; simp only [Hl.out, hno, Bool.false_and, Bool.and_false]
      obtain ⟨Hg, Hno⟩ := hd2 hg hno
      clear hno hg
      go_wp2_with fail
      go_ret
      exact ⟨by rw [Hg.out]; rfl, Hbw5.out⟩
     ·have hz : b = 0 := by simpa using g2
      have hok : fieldOk (useK cs 66) true b = true := by rw [Hu.out, fieldOk]; simp [hz]
      have g4 : ¬ b < 0 := by omega
      have g5 : ¬ 15 < b := by omega
      have Hz := Lib.hid hz
      clear hz
      have hp : partsOk ⟨op, d, a, b, imm⟩ cs (2 + 1) := ⟨fun _ => hparts.out.1 (by omega), fun _ => hparts.out.2.1 (by omega), fun _ => hok, fun h => by omega⟩
      obtain ⟨Hp, Hok⟩ := hd2 hp hok
      clear hok hp
      go_wp2_with fail
      exact ⟨⟨2 + 1, by omega, by go_num, HP5.out, HQ5.out, Hbw5.out, Hp.out⟩, by simp [intOf]⟩
    ·obtain ⟨r, hr⟩ : ∃ r, r = Lib.indexByte (Lib.bytesOf cs) (73 : Int).toNat.toUInt8 := ⟨_, rfl⟩
     have hu : useK cs 73 = decide (0 ≤ r) := by rw [useK, hr]
     have Hu := Lib.hid hu
     clear hu
     go_wp2_with fail
     refine (indexByte_any wr.heap.size cs.length cp cs 73 w5 rfl Hcell.out).mono ?_
     rintro e w6 ⟨rfl, rfl⟩
     rw [← hr]
     have Hr := Lib.hid hr
     clear hr
     have hcase : (0 ≤ r ∧ True ∧ True) ∨ (0 ≤ r ∧ False) ∨ (0 ≤ r ∧ False ∧ False) ∨ (¬ 0 ≤ r ∧ (imm != 0) = true) ∨ (¬ 0 ≤ r ∧ (imm != 0) = false ∧ True) := by
      by_cases g1 : 0 ≤ r <;> by_cases g2 : imm = 0 <;> simp [g1, g2] <;> omega
     rcases hcase with ⟨g1, g2, g3⟩ | ⟨g1, g2⟩ | ⟨g1, g2, g3⟩ | ⟨g1, g2⟩ | ⟨g1, g2, g3⟩
     ·have hok : fieldOk (useK cs 73) false imm = true := by rw [Hu.out, fieldOk]; simp; omega
      have hp : partsOk ⟨op, d, a, b, imm⟩ cs (3 + 1) := ⟨fun _ => hparts.out.1 (by omega), fun _ => hparts.out.2.1 (by omega), fun _ => hparts.out.2.2.1 (by omega), fun _ => hok⟩
      obtain ⟨Hp, Hok⟩ := hd2 hp hok
      clear hok hp
      go_wp2_with fail
      exact ⟨⟨3 + 1, by omega, by go_num, HP5.out, HQ5.out, Hbw5.out, Hp.out⟩, by simp [intOf]⟩
     ·exact g2.elim
     ·exact g2.elim
     ·have hno : fieldOk (useK cs 73) false imm = false := by
       have g2' : imm ≠ 0 := by simpa using g2
       rw [Hu.out, fieldOk]; simp [g1, g2']
      have hg : goodP ⟨op, d, a, b, imm⟩ = false := by unfold goodP; simp only [Hl.out, hno, Bool.false_and, Bool.and_false]
      obtain ⟨Hg, Hno⟩ := hd2 hg hno
      clear hno hg
      go_wp2_with fail
      go_ret
      exact ⟨by rw [Hg.out]; rfl, Hbw5.out⟩
     ·have hz : imm = 0 := by simpa using g2
      have hok : fieldOk (useK cs 73) false imm = true := by rw [Hu.out, fieldOk]; simp [hz]
      have g4 : ¬ imm < 0 := by omega
      have g5 : ¬ 15 < imm := by omega
      have Hz := Lib.hid hz
      clear hz
      have hp : partsOk ⟨op, d, a, b, imm⟩ cs (3 + 1) := ⟨fun _ => hparts.out.1 (by omega), fun _ => hparts.out.2.1 (by omega), fun _ => hparts.out.2.2.1 (by omega), fun _ => hok⟩
      obtain ⟨Hp, Hok⟩ := hd2 hp hok
      clear hok hp
      go_wp2_with fail
      exact ⟨⟨3 + 1, by omega, by go_num, HP5.out, HQ5.out, Hbw5.out, Hp.out⟩, by simp [intOf]⟩
   ·obtain rfl : k = 4 := by omega
    obtain ⟨p1, p2, p3, p4⟩ := hparts.out
    have hg : goodP ⟨op, d, a, b, imm⟩ = specOk op imm := by
     unfold goodP
     simp only [Hl.out]
     rw [p1 (by omega), p2 (by omega), p3 (by omega), p4 (by omega)]
     simp
    have kp0 := Blk.cell hP 0
    have kp4 := Blk.cell hP 4
    simp only [List.getElem?_toArray, List.getElem?_cons_zero, List.getElem?_cons_succ] at kp0 kp4
    obtain ⟨Hg, HP, HQ, Hbw⟩ := hd4 hg hP hQ hbw
    clear hbw hQ hP hg
    clear hparts p1 p2 p3 p4
    obtain ⟨r8, hr8⟩ : ∃ r8, imm.tmod 8 = r8 := ⟨_, rfl⟩
    by_cases h13 : op = 11 ∨ op = 12 ∨ op = 13
    ·have h8 : 0 ≤ imm → r8 = imm % 8 := fun h => by rw [← hr8, Int.tmod_eq_emod_of_nonneg h]
     have hc : (0 ≤ imm ∧ imm ≤ 65536 ∧ (r8 == 0) = true) ∨ (0 ≤ imm ∧ imm ≤ 65536 ∧ (r8 == 0) = false) ∨ (0 ≤ imm ∧ ¬ imm ≤ 65536) ∨ (¬ 0 ≤ imm ∧ True) := by
      by_cases g1 : 0 ≤ imm <;> by_cases g2 : imm ≤ 65536 <;> by_cases g3 : r8 = 0 <;> simp [g1, g2, g3]
     have hs1 : (0 ≤ imm ∧ imm ≤ 65536 ∧ (r8 == 0) = true) → (op = 11 ∨ op = 12) → specOk op imm = true := fun ⟨g1, g2, g3⟩ g4 => by
      have := h8 g1
      have g3' : r8 = 0 := by simpa using g3
      unfold specOk
      rw [if_pos g4]
      simp [g1, g2]; omega
     have hs2 : (0 ≤ imm ∧ imm ≤ 65536 ∧ (r8 == 0) = false) → (op = 11 ∨ op = 12) → specOk op imm = false := fun ⟨g1, g2, g3⟩ g4 => by
      have := h8 g1
      have g3' : r8 ≠ 0 := by simpa using g3
      unfold specOk
      rw [if_pos g4]
      simp [g1, g2]; omega
     have hs3 : (0 ≤ imm ∧ ¬ imm ≤ 65536) → (op = 11 ∨ op = 12) → specOk op imm = false := fun ⟨g1, g2⟩ g4 => by
      unfold specOk; rw [if_pos g4]; simp [g1, g2]
     have hs4 : (¬ 0 ≤ imm) → (op = 11 ∨ op = 12 ∨ op = 13) → specOk op imm = false := fun g1 g4 => by
      unfold specOk
      by_cases g5 : op = 11 ∨ op = 12
      ·rw [if_pos g5]; simp [g1]
      ·rw [if_neg g5, if_pos (by omega)]; simp [g1]
     have hs5 : 0 ≤ imm → op = 13 → specOk op imm = true := fun g1 g4 => by
      unfold specOk; rw [if_neg (by omega), if_pos g4]; simp [g1]
     obtain ⟨Hs1, Hs2, Hs3, Hs4, Hs5, H8⟩ := hd6 hs1 hs2 hs3 hs4 hs5 h8
     clear h8 hs5 hs4 hs3 hs2 hs1
     rcases h13 with rfl | rfl | rfl
     ·rcases hc with ⟨g1, g2, g3⟩ | ⟨g1, g2, g3⟩ | ⟨g1, g2⟩ | ⟨g1, _⟩
      ·have hgg := Hs1.out ⟨g1, g2, g3⟩ (by omega)
       have Hgg := Lib.hid hgg
       clear hgg
       go_wp2_with fail
       go_ret
       exact ⟨by rw [Hg.out, Hgg.out]; rfl, Hbw.out⟩
      ·have hgg := Hs2.out ⟨g1, g2, g3⟩ (by omega)
       have Hgg := Lib.hid hgg
       clear hgg
       go_wp2_with fail
       go_ret
       exact ⟨by rw [Hg.out, Hgg.out]; rfl, Hbw.out⟩
      ·have hgg := Hs3.out ⟨g1, g2⟩ (by omega)
       have Hgg := Lib.hid hgg
       clear hgg
       go_wp2_with fail
       go_ret
       exact ⟨by rw [Hg.out, Hgg.out]; rfl, Hbw.out⟩
      ·have hgg := Hs4.out g1 (by omega)
       have Hgg := Lib.hid hgg
       clear hgg
       go_wp2_with fail
       go_ret
       exact ⟨by rw [Hg.out, Hgg.out]; rfl, Hbw.out⟩
     ·rcases hc with ⟨g1, g2, g3⟩ | ⟨g1, g2, g3⟩ | ⟨g1, g2⟩ | ⟨g1, _⟩
      ·have hgg := Hs1.out ⟨g1, g2, g3⟩ (by omega)
       have Hgg := Lib.hid hgg
       clear hgg
       go_wp2_with fail
       go_ret
       exact ⟨by rw [Hg.out, Hgg.out]; rfl, Hbw.out⟩
      ·have hgg := Hs2.out ⟨g1, g2, g3⟩ (by omega)
       have Hgg := Lib.hid hgg
       clear hgg
       go_wp2_with fail
       go_ret
       exact ⟨by rw [Hg.out, Hgg.out]; rfl, Hbw.out⟩
      ·have hgg := Hs3.out ⟨g1, g2⟩ (by omega)
       have Hgg := Lib.hid hgg
       clear hgg
       go_wp2_with fail
       go_ret
       exact ⟨by rw [Hg.out, Hgg.out]; rfl, Hbw.out⟩
      ·have hgg := Hs4.out g1 (by omega)
       have Hgg := Lib.hid hgg
       clear hgg
       go_wp2_with fail
       go_ret
       exact ⟨by rw [Hg.out, Hgg.out]; rfl, Hbw.out⟩
     ·clear hc
      by_cases g1 : 0 ≤ imm
      ·have hgg := Hs5.out g1 rfl
       have Hgg := Lib.hid hgg
       clear hgg
       go_wp2_with fail
       go_ret
       exact ⟨by rw [Hg.out, Hgg.out]; rfl, Hbw.out⟩
      ·have hgg := Hs4.out g1 (by omega)
       have Hgg := Lib.hid hgg
       clear hgg
       go_wp2_with fail
       go_ret
       exact ⟨by rw [Hg.out, Hgg.out]; rfl, Hbw.out⟩
    ·have hgg : specOk op imm = true := by unfold specOk; rw [if_neg (by omega), if_neg (by omega)]
     have e1 : (op == 11) = false ∧ (op == 12) = false ∧ (op == 13) = false := by simp only [beq_eq_false_iff_ne, ne_eq]; omega
     have Hgg := Lib.hid hgg
     clear hgg
     clear h13 hr8
     go_wp2_with fail
     go_ret
     exact ⟨by rw [Hg.out, Hgg.out]; rfl, Hbw.out⟩
end Go.Proofs.YtnfjjliiajaijaaDoor
namespace Go.Proofs.YtnfjjliiajaijaaDoor
open Go.RowKit

theorem flatMap_get {α β : Type} {f : α → List β} {c : Nat} (hc : ∀ x, (f x).length = c) : ∀ (l : List α) (k : Nat) (x : α), l[k]? = some x → ∀ j, j < c → (l.flatMap f)[k * c + j]? = (f x)[j]?
 | [], k, x, h, j, hj => by simp at h
 | y :: l, 0, x, h, j, hj => by
  simp only [List.getElem?_cons_zero, Option.some.injEq] at h
  subst h
  rw [List.flatMap_cons, Nat.zero_mul, Nat.zero_add, List.getElem?_append_left (by rw [hc]; exact hj)]
 | y :: l, k + 1, x, h, j, hj => by
  rw [List.getElem?_cons_succ] at h
  rw [List.flatMap_cons, List.getElem?_append_right (by rw [hc, Nat.add_mul]; omega), hc, show (k + 1) * c + j - c = k * c + j by rw [Nat.add_mul]; omega]
  exact flatMap_get hc l k x h j hj
theorem mcells_len (i : MInstD) : (mcells i).length = 5 := rfl
/-- the cells of an instruction in a list -/
theorem mi_cells {w : World} {B n : Nat} {ad : Addr} {l : List MInstD} (h : Reads w B 5 (some ad) n (l.flatMap mcells)) {k : Nat} {i : MInstD} (hk : l[k]? = some i) (hn : 0 < n) :
  w.cell? (ad.add (k * 5)) = some (.int .u8 i.op) ∧ w.cell? ⟨(ad.add (k * 5)).block, (ad.add (k * 5)).off + 1, none⟩ = some (.int .i64 i.d) ∧ w.cell? ⟨(ad.add (k * 5)).block, (ad.add (k * 5)).off + 2, none⟩ = some (.int .i64 i.a) ∧
   w.cell? ⟨(ad.add (k * 5)).block, (ad.add (k * 5)).off + 3, none⟩ = some (.int .i64 i.b) ∧ w.cell? ⟨(ad.add (k * 5)).block, (ad.add (k * 5)).off + 4, none⟩ = some (.int .i32 i.imm) := by
 obtain ⟨ad', e, _, hc⟩ := h.2 hn
 injection e with e
 subst e
 have hg := fun j hj => flatMap_get mcells_len l k i hk j hj
 refine ⟨hc _ _ (hg 0 (by omega)), ?_, ?_, ?_, ?_⟩
 ·rw [addr_sub ad (k * 5) 1 (by omega)]; exact hc _ _ (hg 1 (by omega))
 ·rw [addr_sub ad (k * 5) 2 (by omega)]; exact hc _ _ (hg 2 (by omega))
 ·rw [addr_sub ad (k * 5) 3 (by omega)]; exact hc _ _ (hg 3 (by omega))
 ·rw [addr_sub ad (k * 5) 4 (by omega)]; exact hc _ _ (hg 4 (by omega))
/-- an instruction's bytes -/
def mbytes (i : MInstD) : List Int := [i.op, i.d, i.a, i.b] ++ bytesLE 4 (i.imm % 4294967296)
theorem mbytes_len (i : MInstD) : (mbytes i).length = 8 := by simp [mbytes, bytesLE_length]
theorem good_regs {i : MInstD} (h : goodP i = true) : (0 ≤ i.d ∧ i.d ≤ 15) ∧ (0 ≤ i.a ∧ i.a ≤ 15) ∧ (0 ≤ i.b ∧ i.b ≤ 15) := by
 unfold goodP at h
 rcases hl : lettersOf i.op with _ | cs
 ·rw [hl] at h; simp at h
 ·rw [hl] at h
  simp only [fieldOk, Bool.and_eq_true, Bool.or_eq_true, decide_eq_true_eq, Bool.not_true, Bool.false_eq_true, false_or] at h
  obtain ⟨⟨⟨⟨h1, h2⟩, h3⟩, _⟩, _⟩ := h
  exact ⟨h1.2, h2.2, h3.2⟩
theorem encode_any (A : Option Addr) (n c : Nat) (l : List MInstD) (w : World) (B : Nat) (hr : Reads w B 5 A n (l.flatMap mcells)) (hl : l.length = n) (hn : n ≤ 10000000000) (hB : B ≤ w.heap.size) (hw : ∀ i ∈ l, i.Wf) :
  Calls Tryd.prog 21 #[.slice A n c] w fun e w' => ((l.all goodP = true ∧ ∃ sv, e = .returned (.tuple #[sv, .int .i64 0]) ∧ w'.ownsRow w.heap.size 5 1 sv (8 * n) (byteVals (l.flatMap mbytes))) ∨ (l.all goodP = false ∧ e = .returned (.tuple #[.slice none 0 0, .int .i64 200]))) ∧ Below w.heap.size w w' := by
 obtain ⟨i0, hi0, hz0, hz1, hz2⟩ := info_parts infoU8
 obtain ⟨Hr, Hl, Hw⟩ := hd3 hr hl hw
 clear hw hl hr
 go_enter Tryd.func21, Tryd.ntmps21
 go_wp2_with fail
 go_loopw [4, 10] (fun s i wq => ∃ k : Nat, k ≤ n ∧ i = .int .i64 k ∧ wq.ownsRow w.heap.size 5 1 s (8 * k) (byteVals ((l.take k).flatMap mbytes)) ∧ Below w.heap.size w wq ∧ Hid (∀ i ∈ l.take k, goodP i = true)) (fun _ i _ => n - (intOf i).toNat)
 case atStart => exact ⟨0, by omega, rfl, by simpa [byteVals] using World.ownsRow_nil _ _ _ _, Below.refl _ _, (show ∀ i ∈ l.take 0, goodP i = true from fun i hi => by simp at hi)⟩
 case round =>
  obtain ⟨k, hk, rfl, hown, hbw, hgood⟩ := hrel
  by_cases hlt : k < n
  ·obtain ⟨i, hik⟩ : ∃ i, l[k]? = some i := ⟨_, List.getElem?_eq_getElem (by have := Hl.out; omega)⟩
   have hrw := Hr.out.below (hbw.mono hB)
   obtain ⟨ad, hA, _, _⟩ := hrw.2 (by omega)
   subst hA
   obtain ⟨c0, c1, c2, c3, c4⟩ := mi_cells hrw hik (by omega)
   have hwf := Hw.out i (List.mem_of_getElem? hik)
   have htake : l.take (k + 1) = l.take k ++ [i] := by rw [List.take_add_one, hik]; rfl
   have hsz := hbw.size
   obtain ⟨op, d, a, b, imm⟩ := i
   simp only at c0 c1 c2 c3 c4
   have hbox := hbw.alloc hsz (.cells #[.int .u8 op, .int .i64 d, .int .i64 a, .int .i64 b, .int .i32 imm] 71)
   have hP := Blk.new wr 71 #[.int .u8 op, .int .i64 d, .int .i64 a, .int .i64 b, .int .i32 imm]
   have hO := hown.alloc (.cells #[.int .u8 op, .int .i64 d, .int .i64 a, .int .i64 b, .int .i32 imm] 71)
   obtain ⟨Hrw, Hik, Hwf, Htake, Hown, Hbw, Hbox, HP⟩ := hd8 hrw hik hwf htake hown hbw hbox hP
   have HO := Lib.hid hO
   clear hO hP hbox hbw hown htake hwf hik hrw
   go_wp2_with fail
   refine (good_any ⟨op, d, a, b, imm⟩ Hwf.out _).mono ?_
   rintro e w5 ⟨rfl, hb5⟩
   have hb5' := Hbox.out.trans (hb5.mono (by simp; omega))
   have hP5 := HP.out.below hb5 (by simp)
   have hO5 := own_kept' HO.out (only_of_below hb5 none) nofun
   have kp0 := Blk.cell hP5 0
   have kp1 := Blk.cell hP5 1
   have kp2 := Blk.cell hP5 2
   have kp3 := Blk.cell hP5 3
   have kp4 := Blk.cell hP5 4
   simp only [List.getElem?_toArray, List.getElem?_cons_zero, List.getElem?_cons_succ] at kp0 kp1 kp2 kp3 kp4
   have hs5 := hb5'.size
   rcases hg : goodP ⟨op, d, a, b, imm⟩ with _ | _
   ·have hno : l.all goodP = false := by
     rw [List.all_eq_false]
     exact ⟨_, List.mem_of_getElem? Hik.out, by rw [hg]; simp⟩
    obtain ⟨Hno, Hb5', HP5, HO5, Hg⟩ := hd5 hno hb5' hP5 hO5 hg
    clear hg hO5 hP5 hb5' hno
    clear hb5 c0 c1 c2 c3 c4
    go_wp2_with fail
    go_ret2
    exact ⟨.inr ⟨Hno.out, rfl⟩, Hb5'.out⟩
   ·obtain ⟨⟨d0, d1⟩, ⟨a0, a1⟩, ⟨b0, b1⟩⟩ := good_regs hg
    simp only at d0 d1 a0 a1 b0 b1
    obtain ⟨i1, i2⟩ := Hwf.out.imm
    simp only at i1 i2
    obtain ⟨Hb5', HP5, HO5, Hg⟩ := hd4 hb5' hP5 hO5 hg
    clear hg hO5 hP5 hb5'
    clear hb5 c0 c1 c2 c3 c4
    obtain ⟨v, hv⟩ : ∃ v, imm % 4294967296 = v := ⟨_, rfl⟩
    have hv0 : 0 ≤ v ∧ v < 4294967296 := by omega
    obtain ⟨v0, v1⟩ := hv0
    go_upto_region 8 with fail
    have hby : mbytes ⟨op, d, a, b, imm⟩ = [op, d, a, b, v % 256, v / 256 % 256, v / 65536 % 256, v / 16777216] := by
     have e : bytesLE 4 v = [v % 256, v / 256 % 256, v / 65536 % 256, v / 16777216] := by
      have : v / 16777216 % 256 = v / 16777216 := by omega
      simp [bytesLE, byteAt, List.range_succ, this]
     simp only [mbytes]
     rw [hv, e]; rfl
    have Hby := Lib.hid hby
    clear hby
    go_wp2_with (first
     | (at_builtin
        refine wpList_append_any _ rfl (.tmp 20) (.tmp 43) _ rfl w.heap.size 5 i0 _ 1 1 Tryd.underlying27 hi0 hz0 hz1 hz2 rfl (by omega) _ (8 * k) _ rfl (HO5.out.alloc _) (w5.heap.size + 1) (some ⟨w5.heap.size, 0, none⟩) 8 8 (byteVals [op, d, a, b, v % 256, v / 256 % 256, v / 65536 % 256, v / 16777216]) rfl ?c0 ?c1 ?c2 ?c3 ?c4 ?_
        case c0 => exact Reads.newS _ rfl _ _ _ _ _ rfl rfl
        case c1 => exact byteVals_one _
        case c2 => simp only [maxLen]; omega
        case c3 => omega
        case c4 => simp; omega
        intro v9 w9 hown9 hg9 hat9))
    have hb9 := (Hb5'.out.alloc (by omega) (.cells #[.int .u8 op, .int .u8 d, .int .u8 a, .int .u8 b, .int .u8 (v % 256), .int .u8 (v / 256 % 256), .int .u8 (v / 65536 % 256), .int .u8 (v / 16777216)] 5)).grown hg9 (by simp; omega) (fun g e => (HO5.out.lt g e).1)
    have hgd : ∀ i ∈ l.take (k + 1), goodP i = true := by
     rw [Htake.out]
     intro i hi
     rcases List.mem_append.1 hi with h | h
     ·exact hgood.out i h
     ·simp at h; rw [h]; exact Hg.out
    refine ⟨⟨k + 1, by omega, by go_num, ?_, hb9, hgd⟩, by simp [intOf]; omega⟩
    rw [Htake.out, List.flatMap_append, show ([⟨op, d, a, b, imm⟩] : List MInstD).flatMap mbytes = mbytes ⟨op, d, a, b, imm⟩ by simp, Hby.out, show 8 * (k + 1) = 8 * k + 8 by omega, byteVals, List.map_append, ← byteVals, ← byteVals]
    exact hown9
  ·obtain rfl : k = n := by omega
   have hall : l.all goodP = true := by
    rw [List.all_eq_true]
    intro i hi
    exact hgood.out i (by rw [List.take_of_length_le (by have := Hl.out; omega)]; exact hi)
   rw [List.take_of_length_le (by have := Hl.out; omega)] at hown
   obtain ⟨Hall, Hown, Hbw⟩ := hd3 hall hown hbw
   clear hbw hown hall
   go_wp2_with fail
   go_ret2
   exact ⟨.inl ⟨Hall.out, _, rfl, Hown.out⟩, Hbw.out⟩
end Go.Proofs.YtnfjjliiajaijaaDoor
namespace Go.Proofs.YtnfjjliiajaijaaDoor
open Go.RowKit

abbrev Mv := Int × Int
def mvcell (m : Mv) : List Value := [.int .i64 m.1, .int .i64 m.2]
def mvcells (ms : List Mv) : List Value := ms.flatMap mvcell
theorem mvcells_cons (m : Mv) (ms : List Mv) : mvcells (m :: ms) = .int .i64 m.1 :: .int .i64 m.2 :: mvcells ms := rfl
theorem mvcells_append (a b : List Mv) : mvcells (a ++ b) = mvcells a ++ mvcells b := by simp [mvcells]
theorem mvcells_get (ms : List Mv) (k : Nat) (m : Mv) (h : ms[k]? = some m) : (mvcells ms)[k * 2]? = some (.int .i64 m.1) ∧ (mvcells ms)[k * 2 + 1]? = some (.int .i64 m.2) := by
 induction ms generalizing k with
 | nil => simp at h
 | cons x r ih =>
  rw [mvcells_cons]
  cases k with
  | zero => simp at h; subst h; exact ⟨rfl, rfl⟩
  | succ k =>
   have h' := ih k (by simpa using h)
   rw [show (k + 1) * 2 = k * 2 + 1 + 1 by omega]
   simpa using h'
theorem mvcells_one (ms : List Mv) : ∀ u ∈ mvcells ms, u.oneCell' = true := by
 intro u hu
 obtain ⟨m, _, hm⟩ := List.mem_flatMap.1 hu
 simp [mvcell] at hm
 rcases hm with rfl | rfl <;> rfl
/-- which moves are right -/
def goodM (s : Int) (m : Mv) : Prop := 0 ≤ m.1 ∧ 0 ≤ m.2 ∧ m.1 ≠ s ∧ m.2 ≠ s
instance (s : Int) (m : Mv) : Decidable (goodM s m) := by unfold goodM; infer_instance
def okM (ms : List Mv) (s : Int) : Prop := (∀ m ∈ ms, goodM s m) ∧ (ms.map (·.1)).Nodup ∧ 0 ≤ s
instance (ms : List Mv) (s : Int) : Decidable (okM ms s) := by unfold okM; infer_instance
/-- the first whose to nobody asks for any more -/
def freeM (left : List Mv) (m : Mv) : Bool := !left.any fun n => n.2 == m.1
def lineM : Nat → List Mv → Int → List Mv
 | 0, _, _ => []
 | _, [], _ => []
 | fuel + 1, m :: r, s => match (m :: r).findIdx? (freeM (m :: r)) with
  | some i => (m :: r)[i]! :: lineM fuel ((m :: r).eraseIdx i) s
  | none => (s, m.1) :: lineM fuel ((m :: r).map fun n => if n.2 == m.1 then (n.1, s) else n) s
end Go.Proofs.YtnfjjliiajaijaaDoor
namespace Go.Proofs.YtnfjjliiajaijaaDoor
open Go.RowKit

def wordsL (o n : Nat) : List Int := (List.range n).map fun i : Nat => ((8 * (o + i) : Nat) : Int)
theorem wordsL_snoc (o n : Nat) : wordsL o (n + 1) = wordsL o n ++ [((8 * (o + n) : Nat) : Int)] := by simp [wordsL, List.range_succ]
theorem wordsL_len (o n : Nat) : (wordsL o n).length = n := by simp [wordsL]
/-- is a register written by a graph's nodes? -/
def writtenB (ns : List NodeD) (r : Nat) : Bool := ns.any fun x => decide ((r : Int) ∈ writesL x)
def regsK (ns : List NodeD) (k : Nat) : List Nat := ((List.range k).map (6 + ·)).filter (writtenB ns)
theorem regsK_snoc (ns : List NodeD) (k : Nat) : regsK ns (k + 1) = regsK ns k ++ (if writtenB ns (6 + k) then [6 + k] else []) := by
 unfold regsK
 rw [List.range_succ, List.map_append, List.filter_append]
 congr 1
 simp [List.filter_cons]
theorem regsK_len (ns : List NodeD) (k : Nat) : (regsK ns k).length ≤ k := by
 unfold regsK
 refine Nat.le_trans (List.length_filter_le _ _) ?_
 simp
def saveL : List Nat → Nat → List Mv
 | [], _ => []
 | r :: l, o => ((r : Int), ((8 * o : Nat) : Int)) :: saveL l (o + 1)
theorem saveL_snoc : ∀ (l : List Nat) (o r : Nat), saveL (l ++ [r]) o = saveL l o ++ [((r : Int), ((8 * (o + l.length) : Nat) : Int))]
 | [], o, r => rfl
 | x :: l, o, r => by
  rw [List.cons_append, saveL, saveL, saveL_snoc l (o + 1) r, List.cons_append, List.length_cons, show o + 1 + l.length = o + (l.length + 1) by omega]
theorem saveL_len : ∀ (l : List Nat) (o : Nat), (saveL l o).length = l.length
 | [], _ => rfl
 | _ :: l, o => by rw [saveL, List.length_cons, saveL_len l (o + 1), List.length_cons]
theorem once_pos (l : List Int) : ∀ p ∈ onceL l, 0 ≤ p := by
 have h : ∀ (l o : List Int), (∀ p ∈ o, 0 ≤ p) → ∀ p ∈ l.foldl addStep o, 0 ≤ p := by
  intro l
  induction l with
  | nil => intro o h; exact h
  | cons x l ih =>
   intro o h
   refine ih _ fun p hp => ?_
   unfold addStep at hp
   split at hp
   ·rename_i h2
    rcases List.mem_append.1 hp with h3 | h3
    ·exact h p h3
    ·simp at h3; rw [h3]; exact h2.1
   ·exact h p hp
 exact h l [] (by simp)
theorem writes_pos (x : NodeD) : ∀ p ∈ writesL x, 0 ≤ p := by
 unfold writesL
 split
 ·exact once_pos _
 ·split
  ·exact once_pos _
  ·simp
theorem writes_len (x : NodeD) : (writesL x).length ≤ 2 := by
 unfold writesL
 split
 ·have := once_len [x.d]; simp at this; omega
 ·split
  ·have := once_len [x.d, x.e]; simp at this; omega
  ·simp
def nSlots (g : GraphD) : Nat := g.kinds.length - 16
def nCells (g : GraphD) : Nat := g.cells.toNat
def nSaves (g : GraphD) : Nat := (regsK g.nodes 6).length
def nRes (g : GraphD) : Nat := if g.result then 1 else 0
def sizeL (g : GraphD) : Nat := 8 * (nSlots g + nCells g + nSaves g + nRes g)
def resL (g : GraphD) : Int := if g.result then ((8 * (nSlots g + nCells g + nSaves g) : Nat) : Int) else -1
/-- a layout as it is handed back -/
def LayOwn (w : World) (base : Nat) (v : Value) (g : GraphD) : Prop := ∃ sv cv vv, v = .agg #[.int .i64 (sizeL g), sv, cv, vv, .int .i64 (resL g)] ∧
 w.ownsRow base 3 1 sv (nSlots g) ((wordsL 0 (nSlots g)).map (Value.int .i64)) ∧ w.ownsRow base 3 1 cv (nCells g) ((wordsL (nSlots g) (nCells g)).map (Value.int .i64)) ∧ w.ownsRow base 50 2 vv (nSaves g) (mvcells (saveL (regsK g.nodes 6) (nSlots g + nCells g)))
def arrB (p : Nat → Bool) : Array Value := ((List.range 16).map fun r => Value.bool (p r)).toArray
theorem arrB_get (p : Nat → Bool) (r : Nat) (h : r < 16) : (arrB p)[r]? = some (.bool (p r)) := by
 unfold arrB
 rw [List.getElem?_toArray, List.getElem?_map, List.getElem?_range h]; rfl
theorem arrB_set (p : Nat → Bool) (a : Nat) (b : Bool) : (arrB p).setIfInBounds a (.bool b) = arrB fun r => if r = a then b else p r := by
 unfold arrB
 apply Array.ext_getElem?
 intro i
 rw [Array.getElem?_setIfInBounds]
 simp only [List.getElem?_toArray, List.getElem?_map, List.size_toArray, List.length_map, List.length_range]
 by_cases hi : i < 16
 ·rw [List.getElem?_range hi]
  by_cases e : a = i
  ·subst e; simp [hi]
  ·simp [e, show ¬ i = a from fun h => e h.symm]
 ·have h2 : (List.range 16)[i]? = none := List.getElem?_eq_none (by simp; omega)
  rw [h2]
  split
  ·rw [if_neg (by omega)]; rfl
  ·rfl
theorem arrB_false : arrB (fun _ => false) = #[.bool false, .bool false, .bool false, .bool false, .bool false, .bool false, .bool false, .bool false, .bool false, .bool false, .bool false, .bool false, .bool false, .bool false, .bool false, .bool false] := rfl
theorem written_snoc (ns : List NodeD) (q : Nat) (x : NodeD) (h : ns[q]? = some x) (r : Nat) : writtenB (ns.take (q + 1)) r = (writtenB (ns.take q) r || decide ((r : Int) ∈ writesL x)) := by
 unfold writtenB
 rw [List.take_add_one, h]
 simp
/-- some of a node's writes marked -/
def markB (p : Nat → Bool) (l : List Int) (r : Nat) : Bool := p r || decide ((r : Int) ∈ l)
theorem markB_nil (p : Nat → Bool) : markB p [] = p := by funext r; simp [markB]
theorem markB_snoc (p : Nat → Bool) (l : List Int) (a : Nat) : (fun r => if r = a then true else markB p l r) = markB p (l ++ [(a : Int)]) := by
 funext r
 unfold markB
 by_cases e : r = a
 ·subst e; simp
 ·simp [e, show ¬ (r : Int) = a by omega]
theorem arrB_congr {p q : Nat → Bool} (h : ∀ r, r < 16 → p r = q r) : arrB p = arrB q := by
 unfold arrB
 congr 1
 exact List.map_congr_left fun r hr => by rw [h r (List.mem_range.1 hr)]
theorem bool_apart {w : World} {g : Nat} {t : TypeId} {p : Nat → Bool} {a : Addr} {k : IntKind} {z : Int} (h : Blk w g t (arrB p)) (hc : w.cell? a = some (.int k z)) : a.block ≠ g := by
 intro e
 unfold Blk at h
 unfold World.cell? at hc
 rw [e, h] at hc
 simp only at hc
 split at hc
 ·cases hc
 ·by_cases hi : a.off < 16
  ·rw [arrB_get p a.off hi] at hc
   injection hc with hc
   cases hc
  ·rw [Array.getElem?_eq_none (by simp [arrB]; omega)] at hc
   cases hc
theorem mark_written (ns : List NodeD) (q : Nat) (x : NodeD) (h : ns[q]? = some x) : markB (writtenB (ns.take q)) (writesL x) = writtenB (ns.take (q + 1)) := by
 funext r
 rw [written_snoc ns q x h]; rfl
def five (w : World) (g : Nat) (a b c d e : Value) : World := ((((w.setCell ⟨g, 0, none⟩ a).setCell ⟨g, 1, none⟩ b).setCell ⟨g, 2, none⟩ c).setCell ⟨g, 3, none⟩ d).setCell ⟨g, 4, none⟩ e
theorem five_blk {w : World} {H : Nat} {t : TypeId} {z0 z1 z2 z3 z4 : Value} (h : Blk w H t #[z0, z1, z2, z3, z4]) (a b c d e : Value) : Blk (five w H a b c d e) H t #[a, b, c, d, e] :=
 ((((h.set_ 0 a).set_ 1 b).set_ 2 c).set_ 3 d).set_ 4 e
theorem five_own {w : World} {g base size n : Nat} {ty t : TypeId} {cs : Array Value} {v : Value} {xs : List Value} (h : w.ownsRow base ty size v n xs) (hg : Blk w g t cs) (ht : ty ≠ t) (a b c d e : Value) : (five w g a b c d e).ownsRow base ty size v n xs := by
 have hne := own_blk_ne h hg ht
 exact ownsRow_setCell_other (ownsRow_setCell_other (ownsRow_setCell_other (ownsRow_setCell_other (ownsRow_setCell_other h (a := ⟨g, 0, none⟩) hne a) (a := ⟨g, 1, none⟩) hne b) (a := ⟨g, 2, none⟩) hne c) (a := ⟨g, 3, none⟩) hne d) (a := ⟨g, 4, none⟩) hne e
theorem five_below {w w0 : World} {B g : Nat} (h : Below B w0 w) (hg : B ≤ g) (a b c d e : Value) : Below B w0 (five w g a b c d e) :=
 ((((h.setCell (p := ⟨g, 0, none⟩) hg a).setCell (p := ⟨g, 1, none⟩) hg b).setCell (p := ⟨g, 2, none⟩) hg c).setCell (p := ⟨g, 3, none⟩) hg d).setCell (p := ⟨g, 4, none⟩) hg e
theorem results_row_tmpL {fn : Func} {p u : Tmp} {ty : TypeId} {P : Program} (h : fn.results = #[.cell p ty, .tmp u]) (tmps : Array Value) (w : World) (g : Nat) (t : TypeId) (cs : Array Value) (fr : Nat × Nat) (d : Array Field)
  (hp : tmps.getD p undef = .pointer (some ⟨g, 0, none⟩)) (hg : w.heap[g]? = some (.cells cs t fr))
  (hu : P.underlying ty = some (.struct d)) (hi : (P.info? ty).map (·.size) = some cs.size) :
  (results fn tmps).run P w = .ok (.tuple #[.agg cs, tmps.getD u undef]) w := results_row_tmp h tmps w g t cs fr d hp hg hu hi
theorem Blk.set_fst {w : World} {g : Nat} {t : TypeId} {s a b c d : Value} (h : Blk w g t #[s, a, b, c, d]) (u : Value) : Blk (w.setCell ⟨g, 0, none⟩ u) g t #[u, a, b, c, d] := by
 have h2 := h.set_ 0 u
 simpa using h2
theorem Blk.set5_1 {w : World} {g : Nat} {t : TypeId} {s a b c d : Value} (h : Blk w g t #[s, a, b, c, d]) (u : Value) : Blk (w.setCell ⟨g, 1, none⟩ u) g t #[s, u, b, c, d] := by
 have h2 := h.set_ 1 u
 simpa using h2
theorem Blk.set5_2 {w : World} {g : Nat} {t : TypeId} {s a b c d : Value} (h : Blk w g t #[s, a, b, c, d]) (u : Value) : Blk (w.setCell ⟨g, 2, none⟩ u) g t #[s, a, u, c, d] := by
 have h2 := h.set_ 2 u
 simpa using h2
theorem Blk.set5_3 {w : World} {g : Nat} {t : TypeId} {s a b c d : Value} (h : Blk w g t #[s, a, b, c, d]) (u : Value) : Blk (w.setCell ⟨g, 3, none⟩ u) g t #[s, a, b, u, d] := by
 have h2 := h.set_ 3 u
 simpa using h2
theorem Blk.set5_4 {w : World} {g : Nat} {t : TypeId} {s a b c d : Value} (h : Blk w g t #[s, a, b, c, d]) (u : Value) : Blk (w.setCell ⟨g, 4, none⟩ u) g t #[s, a, b, c, u] := by
 have h2 := h.set_ 4 u
 simpa using h2
theorem Below.drew' {B : Nat} {a w : World} (h : Below B a w) : Below B a w.drew := ⟨h.os, h.tape, h.output, h.size, h.block⟩
theorem word_any (w : World) (L : Nat) (s : Int) (a b c d : Value) (hL : Blk w L 73 #[.int .i64 s, a, b, c, d]) (hs0 : 0 ≤ s) (hs1 : s < 1000000) :
  Calls Tryd.prog 37 #[.pointer (some ⟨L, 0, none⟩)] w fun e w' => e = .returned (.int .i64 s) ∧ w' = w.setCell ⟨L, 0, none⟩ (.int .i64 (s + 8)) := by
 have h2 := hL.set_fst (.int .i64 (s + 8))
 have kl0 := Blk.cell hL 0
 simp only [List.getElem?_toArray, List.getElem?_cons_zero, List.getElem?_cons_succ] at kl0
 have fl0 := Blk.frozen hL 0
 have k2 := h2.cell 0
 simp only [List.getElem?_toArray, List.getElem?_cons_zero] at k2
 obtain ⟨HL, H2⟩ := hd2 hL h2
 clear h2 hL
 go_enter Tryd.func37, Tryd.ntmps37
 go_wp2_with fail
 go_ret
 exact ⟨rfl, rfl⟩
end Go.Proofs.YtnfjjliiajaijaaDoor

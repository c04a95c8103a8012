/- The walk of the law LayoutGrows. Conditions: what the law's arguments are read as. -/
import Derived.Test.YtopifdkkmchoeaaLayGrA
import Derived.Deep.RegionWith
import Derived.Deep.RegionHeld3
set_option linter.unusedVariables false
set_option linter.unusedSimpArgs false
namespace Go.Proofs.Ytopifdkkmchoeaa
open Go.RowKit

theorem mod_wordL (a : Int) (m : Int) (h0 : 0 < m) (h1 : m < 1000000) : ∃ k : Nat, (k : Int) < m ∧ IntKind.i64.wrap ((IntKind.u64.wrap a).tmod m) = (k : Int) := by
  have h2 : 0 ≤ IntKind.u64.wrap a := by rw [IntKind.wrap_u64]; omega
  have h3 := Int.emod_nonneg (IntKind.u64.wrap a) (show m ≠ 0 by omega)
  have h4 := Int.emod_lt_of_pos (IntKind.u64.wrap a) (show 0 < m by omega)
  refine ⟨(IntKind.u64.wrap a % m).toNat, by omega, ?_⟩
  rw [Int.tmod_eq_emod_of_nonneg h2, IntKind.wrap_i64]
  omega
theorem infoNodeL : (Try.prog.info? 50).map (fun i => (i.zero, i.size, i.bytes)) = some (some (.agg #[.int .u8 0, .int .u8 0, .int .i64 0, .int .i64 0, .int .i64 0, .int .i64 0, .int .i64 0, .int .i64 0, .int .u64 0, .slice none 0 0, .int .i64 0, .int .i64 0]), 12, 104) := by kernel_rfl
theorem nc_one (x : NodeD) : ∀ u ∈ ncells x (.slice none 0 0), u.oneCell' = true := by
  intro u hu
  simp only [ncells, List.mem_cons, List.not_mem_nil, or_false] at hu
  rcases hu with rfl | rfl | rfl | rfl | rfl | rfl | rfl | rfl | rfl | rfl | rfl | rfl <;> rfl
theorem Blk.set8_6 {w : World} {g : Nat} {t : TypeId} {a b c d e f h i : Value} (hb : Blk w g t #[a, b, c, d, e, f, h, i]) (u : Value) : Blk (w.setCell ⟨g, 6, none⟩ u) g t #[a, b, c, d, e, f, u, i] := by
  have h2 := hb.set_ 6 u
  simpa using h2
theorem Blk.newAt {w : World} {g : Nat} (h : g = w.heap.size) (t : TypeId) (cs : Array Value) : Blk (w.alloc (.cells cs t)) g t cs := by
  subst h
  exact Blk.new w t cs
theorem five_cells {w : World} {g : Nat} {t : TypeId} {a b c d e : Value} (h : Blk w g t #[a, b, c, d, e]) : w.cell? ⟨g, 0, none⟩ = some a ∧ w.cell? ⟨g, 1, none⟩ = some b ∧ w.cell? ⟨g, 2, none⟩ = some c ∧ w.cell? ⟨g, 3, none⟩ = some d ∧ w.cell? ⟨g, 4, none⟩ = some e ∧ w.frozen? ⟨g, 0, none⟩ = false ∧ w.frozen? ⟨g, 1, none⟩ = false ∧ w.frozen? ⟨g, 2, none⟩ = false ∧ w.frozen? ⟨g, 3, none⟩ = false ∧ w.frozen? ⟨g, 4, none⟩ = false :=
  ⟨Blk.cell h 0, Blk.cell h 1, Blk.cell h 2, Blk.cell h 3, Blk.cell h 4, Blk.frozen h 0, Blk.frozen h 1, Blk.frozen h 2, Blk.frozen h 3, Blk.frozen h 4⟩
theorem blk_under {W w' : World} (hb : Below W.heap.size W w') {g : Nat} {t : TypeId} {cs : Array Value} (h : Blk W g t cs) : Blk w' g t cs := h.below hb h.lt
theorem blk_alloc_d {w : World} {g : Nat} {t : TypeId} {cs : Array Value} (h : Blk w.drew g t cs) (o : Obj) : Blk (w.alloc o).drew g t cs := Blk.alloc (w := w) h o
theorem blk_realloc {w : World} {g : Nat} {t : TypeId} {cs : Array Value} {o : Obj} (h : Blk (w.alloc o) g t cs) (o' : Obj) (hg : g < w.heap.size) : Blk (w.alloc o') g t cs := by
  unfold Blk at h ⊢
  simp only [World.alloc, Array.getElem?_push, Nat.ne_of_lt hg, if_false] at h ⊢
  exact h
theorem below_step {B : Nat} {w0 W w' : World} (h : Below B w0 W) (hB : B ≤ W.heap.size) (hb : Below W.heap.size W w') : Below B w0 w' := h.trans (hb.mono hB)
theorem blk_drew {w : World} {g : Nat} {t : TypeId} {cs : Array Value} (h : Blk w g t cs) : Blk w.drew g t cs := h
theorem own_drew {w : World} {base ty size n : Nat} {v : Value} {xs : List Value} (h : w.ownsRow base ty size v n xs) : w.drew.ownsRow base ty size v n xs := h
theorem s8_of {W : World} {g : Nat} {t : TypeId} {a b c d e f h i : Value} (hb : Blk W g t #[a, b, c, d, e, f, h, i]) : (W.cell? ⟨g, 0, none⟩ = some a ∧ W.cell? ⟨g, 1, none⟩ = some b ∧ W.cell? ⟨g, 2, none⟩ = some c ∧ W.cell? ⟨g, 3, none⟩ = some d ∧ W.cell? ⟨g, 4, none⟩ = some e ∧ W.cell? ⟨g, 5, none⟩ = some f ∧ W.cell? ⟨g, 6, none⟩ = some h ∧ W.cell? ⟨g, 7, none⟩ = some i) ∧ Blk W g t #[a, b, c, d, e, f, h, i] :=
  ⟨⟨Blk.cell hb 0, Blk.cell hb 1, Blk.cell hb 2, Blk.cell hb 3, Blk.cell hb 4, Blk.cell hb 5, Blk.cell hb 6, Blk.cell hb 7⟩, hb⟩
set_option maxRecDepth 100000 in
set_option maxHeartbeats 8000000 in
theorem walk_LayoutGrows (w : World) (a0 : Int) (w0 : (Lit.int .i64 a0).wf = true) (a1 : Int) (w1 : (Lit.int .i64 a1).wf = true) (a2 : Int) (w2 : (Lit.int .i64 a2).wf = true) :
    Calls Try.prog 5 #[.int .i64 a0, .int .i64 a1, .int .i64 a2] w fun e w' => e = .returned (.bool true) ∧ Below w.heap.size w w' := by
  obtain ⟨iN, hiN, nz0, nz1, nz2⟩ := info_parts infoNodeL
  obtain ⟨n, hn, hnw⟩ := mod_wordL a0 100 (by omega) (by omega)
  obtain ⟨m, hm, hmw⟩ := mod_wordL a1 65 (by omega) (by omega)
  obtain ⟨k, hk, hkw⟩ := mod_wordL a2 7 (by omega) (by omega)
  obtain ⟨br, hbr⟩ : ∃ br, (a0.tmod 2 == 0) = br := ⟨_, rfl⟩
  have hmk : ∀ W : World, (Instr.makeSlice 41 (.int .i64 (16 + (n : Int))) (.int .i64 (16 + (n : Int)))).run Try.prog W = .ok (.slice (some ⟨W.heap.size, 0, none⟩) (16 + n) (16 + n)) (W.alloc (.cells (kzero (16 + n)) 77)) := fun W => by
    have h := make_kinds (16 + n) (by omega) W
    rw [show ((16 + n : Nat) : Int) = 16 + (n : Int) by omega] at h
    exact h
  clear w0 w1 w2
  have HNW := Lib.hid hnw
  have HMW := Lib.hid hmw
  have HKW := Lib.hid hkw
  have Hbr := Lib.hid hbr
  clear hbr hkw hmw hnw
  go_enter Try.func5, Try.ntmps5
  go_upto_region 2 with fail
  rw [Hbr.out]
  go_wp2_with fail
  refine (firstL_any w).mono ?_
  rintro e w1 ⟨rfl, hb1⟩
  have hz1 := hb1.size
  have hnw := HNW.out
  have hmw := HMW.out
  have hkw := HKW.out
  obtain ⟨K, hK⟩ : ∃ K, K = w1.heap.size := ⟨_, rfl⟩
  obtain ⟨Gb, hGb⟩ : ∃ Gb, Gb = w1.heap.size + 1 := ⟨_, rfl⟩
  obtain ⟨kz, hkz⟩ : ∃ kz, kz = kzero (16 + n) := ⟨_, rfl⟩
  rw [← hkz] at hmk
  have hKb := (Blk.new w1 77 kz).alloc (.cells #[.slice none 0 0, .slice (some ⟨K, 0, none⟩) (16 + n) (16 + n), .int .i64 (m : Int), .slice none 0 0, .bool br, .int .i64 (-1), .slice none 0 0, .int .i64 0] 44)
  have hGg := Blk.new2 w1 (.cells kz 77) 44 #[.slice none 0 0, .slice (some ⟨K, 0, none⟩) (16 + n) (16 + n), .int .i64 (m : Int), .slice none 0 0, .bool br, .int .i64 (-1), .slice none 0 0, .int .i64 0]
  have hbv := (hb1.alloc hz1 (.cells kz 77)).alloc (by simp; omega) (.cells #[.slice none 0 0, .slice (some ⟨K, 0, none⟩) (16 + n) (16 + n), .int .i64 (m : Int), .slice none 0 0, .bool br, .int .i64 (-1), .slice none 0 0, .int .i64 0] 44)
  obtain ⟨V, hV⟩ : ∃ V, V = (w1.alloc (.cells kz 77)).alloc (.cells #[.slice none 0 0, .slice (some ⟨K, 0, none⟩) (16 + n) (16 + n), .int .i64 (m : Int), .slice none 0 0, .bool br, .int .i64 (-1), .slice none 0 0, .int .i64 0] 44) := ⟨_, rfl⟩
  rw [← hV] at hKb hGg hbv
  rw [← hK] at hKb
  rw [← hGb] at hGg
  have hKw : w.heap.size ≤ K := by omega
  have hGw : w.heap.size ≤ Gb := by omega
  have Hb1 := Lib.hid hb1
  have HHK := Lib.hid hK
  have HHG := Lib.hid hGb
  have Hkz := Lib.hid hkz
  have HKb := Lib.hid hKb
  have HGg := Lib.hid hGg
  have Hbv := Lib.hid hbv
  have HV := Lib.hid hV
  clear hV hbv hGg hKb hkz hGb hK hb1
  go_upto_region 6 with fail
  rw [← HHG.out, ← HHK.out, ← HV.out]
  have Hnw := Lib.hid hnw
  have Hmw := Lib.hid hmw
  have Hkw := Lib.hid hkw
  clear hkw hmw hnw
  clear hmk
  go_wp2_with fail
  go_loopw [42] (fun i wr => ∃ (j : Nat) (NA : Option Addr) (nc : Nat), j ≤ k ∧ i = .int .i64 j ∧ Blk wr Gb 44 #[.slice none 0 0, .slice (some ⟨K, 0, none⟩) (16 + n) (16 + n), .int .i64 (m : Int), .slice none 0 0, .bool br, .int .i64 (-1), .slice NA j nc, .int .i64 0] ∧ wr.ownsRow w.heap.size 50 12 (.slice NA j nc) j (ndcells (nodesK j)) ∧ Blk wr K 77 kz ∧ Below w.heap.size w wr) (fun i _ => k - (intOf i).toNat)
  case atStart => exact ⟨0, none, 0, by omega, rfl, HGg.out, World.ownsRow_nil _ _ _ _, HKb.out, Hbv.out⟩
  case round =>
    obtain ⟨j, NA, nc, hj, rfl, hGq, hO, hKq, hbq⟩ := hrel
    have hsz := hbq.size
    have hGl := hGq.lt
    by_cases hlt : j < k
    · have hltI : (j : Int) < k := by omega
      have kg6 := Blk.cell hGq 6
      simp only [List.getElem?_toArray, List.getElem?_cons_zero, List.getElem?_cons_succ] at kg6
      have hOa := hO.alloc (.cells (ncells (ndC (6 + (j : Int)) ((j : Int) + 1)) (.slice none 0 0)).toArray 50)
      have hNew : Reads (wr.alloc (.cells (ncells (ndC (6 + (j : Int)) ((j : Int) + 1)) (.slice none 0 0)).toArray 50)) (wr.heap.size + 1) 12 (some ⟨wr.heap.size, 0, none⟩) 1 (ncells (ndC (6 + (j : Int)) ((j : Int) + 1)) (.slice none 0 0)) := Reads.newS _ rfl _ _ _ _ _ rfl rfl
      have HGq := Lib.hid hGq
      have HO := Lib.hid hO
      have HKq := Lib.hid hKq
      have Hbq := Lib.hid hbq
      have HOa := Lib.hid hOa
      have HNew := Lib.hid hNew
      clear hNew hOa hbq hKq hO hGq
      go_upto_region 10 with (first
        | (at_builtin
           refine wpList_append_any _ rfl (.tmp 46) (.tmp 52) _ rfl w.heap.size 50 iN _ 12 104 Try.underlying42 hiN nz0 nz1 nz2 rfl (by omega) (.slice NA j nc) j (ndcells (nodesK j)) rfl HOa.out (wr.heap.size + 1) (some ⟨wr.heap.size, 0, none⟩) 1 1 (ncells (ndC (6 + (j : Int)) ((j : Int) + 1)) (.slice none 0 0)) rfl HNew.out ?c1 ?c2 ?c3 ?c4 ?_
           case c1 => exact nc_one _
           case c2 => unfold maxLen; omega
           case c3 => omega
           case c4 => simp; omega
           intro v7 w7 hown7 hg7 hat7
           obtain ⟨NA7, nc7, rfl, _⟩ := own_any hown7
           have Hown7 := Lib.hid hown7
           have Hg7 := Lib.hid hg7
           have hG7 := (HGq.out.alloc (.cells (ncells (ndC (6 + (j : Int)) ((j : Int) + 1)) (.slice none 0 0)).toArray 50)).grown hg7 (fun e => own_blk_ne HO.out HGq.out (by decide) e.symm)
           have f7 := Blk.frozen hG7 6
           have k7 := Blk.cell hG7 6
           simp only [List.getElem?_toArray, List.getElem?_cons_zero, List.getElem?_cons_succ] at k7
           have HG7 := Lib.hid hG7
           clear hown7 hg7 hat7 hG7))
      have hK7 := (HKq.out.alloc (.cells (ncells (ndC (6 + (j : Int)) ((j : Int) + 1)) (.slice none 0 0)).toArray 50)).grown Hg7.out (fun e => own_blk_ne HO.out HKq.out (by decide) e.symm)
      have hb7 : Below w.heap.size w w7 := (Hbq.out.alloc hsz (.cells (ncells (ndC (6 + (j : Int)) ((j : Int) + 1)) (.slice none 0 0)).toArray 50)).grown Hg7.out (by simp; omega) (fun b e => (World.ownsRow.lt HO.out b e).1)
      have hO7 : w7.ownsRow w.heap.size 50 12 (.slice NA7 (j + 1) nc7) (j + 1) (ndcells (nodesK (j + 1))) := by rw [nodesK_snoc, ndcells_snoc]; exact Hown7.out
      have hG8 := HG7.out.set8_6 (.slice NA7 (j + 1) nc7)
      have hK8 := hK7.far (p := ⟨Gb, 6, none⟩) (Blk.ne_ hK7 HG7.out (by decide)) (.slice NA7 (j + 1) nc7)
      have hO8 := ownsRow_setCell_other hO7 (a := ⟨Gb, 6, none⟩) (own_blk_ne hO7 HG7.out (by decide)) (.slice NA7 (j + 1) nc7)
      have hb8 := hb7.setCell (p := ⟨Gb, 6, none⟩) hGw (.slice NA7 (j + 1) nc7)
      clear kg6 f7 k7
      have HK7 := Lib.hid hK7
      have Hb7 := Lib.hid hb7
      have HO7 := Lib.hid hO7
      have HG8 := Lib.hid hG8
      have HK8 := Lib.hid hK8
      have HO8 := Lib.hid hO8
      have Hb8 := Lib.hid hb8
      clear hb8 hO8 hK8 hG8 hO7 hb7 hK7
      go_wp2_with fail
      exact ⟨⟨j + 1, NA7, nc7, by omega, by go_num, HG8.out, HO8.out, HK8.out, Hb8.out⟩, by simp [intOf]; omega⟩
    · obtain rfl : j = k := by omega
      have hltI : ¬ (j : Int) < j := by omega
      have hT := Blk.new wr 50 (ncells (ndR (-1)) (.slice none 0 0)).toArray
      have hal := (Below.refl wr.heap.size wr).alloc (Nat.le_refl _) (.cells (ncells (ndR (-1)) (.slice none 0 0)).toArray 50)
      have hG2 := hGq.below hal hGl
      have hK2 := hKq.below hal hKq.lt
      have hO2 := own_kept' hO (only_of_below hal none) nofun
      have hb2 := hbq.trans (hal.mono hsz)
      obtain ⟨W2, hW2⟩ : ∃ W2, W2 = wr.alloc (.cells (ncells (ndR (-1)) (.slice none 0 0)).toArray 50) := ⟨_, rfl⟩
      obtain ⟨T, hTT⟩ : ∃ T, T = wr.heap.size := ⟨_, rfl⟩
      rw [← hW2] at hT hG2 hK2 hO2 hb2
      rw [← hTT] at hT
      have hTw : w.heap.size ≤ T := by omega
      have hTnew : ∀ b, (Value.slice NA j nc).ownBlock = some b → b ≠ T := fun b e => by have := (World.ownsRow.lt hO b e).2; omega
      have hW2e : wr.alloc (.cells #[.int .u8 12, .int .u8 0, .int .i64 0, .int .i64 0, .int .i64 (-1), .int .i64 0, .int .i64 0, .int .i64 0, .int .u64 0, .slice none 0 0, .int .i64 0, .int .i64 0] 50) = W2 := hW2.symm
      have HGq := Lib.hid hGq
      have HO := Lib.hid hO
      have HKq := Lib.hid hKq
      have Hbq := Lib.hid hbq
      have HT := Lib.hid hT
      have Hal := Lib.hid hal
      have HG2 := Lib.hid hG2
      have HK2 := Lib.hid hK2
      have HO2 := Lib.hid hO2
      have Hb2 := Lib.hid hb2
      have HW2 := Lib.hid hW2
      have HWE := Lib.hid hW2e
      have HTT := Lib.hid hTT
      have HTnew := Lib.hid hTnew
      clear hTnew hTT hW2e hW2 hb2 hO2 hK2 hG2 hal hT hbq hKq hO hGq
      go_upto_region 13 with fail
      rw [HWE.out, ← HTT.out]
      have hne1 : Gb ≠ T := fun e => Blk.ne_ HG2.out HT.out (by decide) e
      have hne2 : K ≠ T := fun e => Blk.ne_ HK2.out HT.out (by decide) e
      cases br
      all_goals
        have kg6 := Blk.cell HG2.out 6
        simp only [List.getElem?_toArray, List.getElem?_cons_zero, List.getElem?_cons_succ] at kg6
        have f4 := Blk.frozen HT.out 4
        have k4 := Blk.cell HT.out 4
        simp only [ncells, ndR, List.getElem?_toArray, List.getElem?_cons_zero, List.getElem?_cons_succ] at k4
        first
        | (have hgt : (a0.tmod 2 == 0) = true := Hbr.out
           obtain ⟨w3, hw3⟩ : ∃ w3, w3 = W2.setCell ⟨T, 4, none⟩ (.int .i64 0) := ⟨_, rfl⟩
           have HT3 := Lib.hid (show Blk w3 T 50 (ncells (ndR (lastA true)) (.slice none 0 0)).toArray by rw [hw3]; exact HT.out.set_ 4 (.int .i64 0))
           have HG3 := Lib.hid (show Blk w3 Gb 44 _ by rw [hw3]; exact HG2.out.far (p := ⟨T, 4, none⟩) hne1 (.int .i64 0))
           have HK3 := Lib.hid (show Blk w3 K 77 kz by rw [hw3]; exact HK2.out.far (p := ⟨T, 4, none⟩) hne2 (.int .i64 0))
           have HO3 := Lib.hid (show w3.ownsRow w.heap.size 50 12 (.slice NA j nc) j (ndcells (nodesK j)) by rw [hw3]; exact ownsRow_setCell_other HO2.out (a := ⟨T, 4, none⟩) (fun e => HTnew.out T e rfl) (.int .i64 0))
           have Hb3 := Lib.hid (show Below w.heap.size w w3 by rw [hw3]; exact Hb2.out.setCell (p := ⟨T, 4, none⟩) hTw (.int .i64 0))
           have hw3e : W2.setCell ⟨T, 4, none⟩ (.int .i64 0) = w3 := hw3.symm
           have HW3 := Lib.hid hw3
           clear hw3
           go_upto_region 16 with fail)
        | (have hgf : (a0.tmod 2 == 0) = false := Hbr.out
           obtain ⟨w3, hw3⟩ : ∃ w3, w3 = W2 := ⟨_, rfl⟩
           subst hw3
           have HT3 := Lib.hid (show Blk w3 T 50 (ncells (ndR (lastA false)) (.slice none 0 0)).toArray from HT.out)
           have HG3 := Lib.hid HG2.out
           have HK3 := Lib.hid HK2.out
           have HO3 := Lib.hid HO2.out
           have Hb3 := Lib.hid Hb2.out
           go_upto_region 16 with fail)
        clear kg6 f4 k4
        obtain ⟨brv, hbrv⟩ : ∃ brv : Bool, (a0.tmod 2 == 0) = brv := ⟨_, rfl⟩
        obtain ⟨la, hla⟩ : ∃ la, la = lastA brv := ⟨_, rfl⟩
        have hT3 : Blk w3 T 50 #[.int .u8 12, .int .u8 0, .int .i64 0, .int .i64 0, .int .i64 la, .int .i64 0, .int .i64 0, .int .i64 0, .int .u64 0, .slice none 0 0, .int .i64 0, .int .i64 0] := by rw [hla, ← hbrv, Hbr.out]; exact HT3.out
        have kt0 := Blk.cell hT3 0
        have kt1 := Blk.cell hT3 1
        have kt2 := Blk.cell hT3 2
        have kt3 := Blk.cell hT3 3
        have kt4 := Blk.cell hT3 4
        have kt5 := Blk.cell hT3 5
        have kt6 := Blk.cell hT3 6
        have kt7 := Blk.cell hT3 7
        have kt8 := Blk.cell hT3 8
        have kt9 := Blk.cell hT3 9
        have kt10 := Blk.cell hT3 10
        have kt11 := Blk.cell hT3 11
        simp only [List.getElem?_toArray, List.getElem?_cons_zero, List.getElem?_cons_succ] at kt0 kt1 kt2 kt3 kt4 kt5 kt6 kt7 kt8 kt9 kt10 kt11
        have hG3 := HG3.out
        have kg6 := Blk.cell hG3 6
        simp only [List.getElem?_toArray, List.getElem?_cons_zero, List.getElem?_cons_succ] at kg6
        have hGl3 := hG3.lt
        have hz3 := Hb3.out.size
        have hOa := HO3.out.alloc (.cells (ncells (ndR la) (.slice none 0 0)).toArray 50)
        have hNew : Reads (w3.alloc (.cells (ncells (ndR la) (.slice none 0 0)).toArray 50)) (w3.heap.size + 1) 12 (some ⟨w3.heap.size, 0, none⟩) 1 (ncells (ndR la) (.slice none 0 0)) := Reads.newS _ rfl _ _ _ _ _ rfl rfl
        have Hbrv := Lib.hid hbrv
        have Hla := Lib.hid hla
        have HT3 := Lib.hid hT3
        have HG3 := Lib.hid hG3
        have HOa := Lib.hid hOa
        have HNew := Lib.hid hNew
        clear hNew hOa hG3 hT3 hla hbrv
        go_upto_region 17 with (first
          | (at_builtin
             refine wpList_append_any _ rfl (.tmp 67) (.tmp 69) _ rfl w.heap.size 50 iN _ 12 104 Try.underlying42 hiN nz0 nz1 nz2 rfl (by omega) (.slice NA j nc) j (ndcells (nodesK j)) rfl HOa.out (w3.heap.size + 1) (some ⟨w3.heap.size, 0, none⟩) 1 1 (ncells (ndR la) (.slice none 0 0)) rfl HNew.out ?c1 ?c2 ?c3 ?c4 ?_
             case c1 => exact nc_one _
             case c2 => unfold maxLen; omega
             case c3 => omega
             case c4 => simp; omega
             intro v7 w7 hown7 hg7 hat7
             obtain ⟨NA7, nc7, rfl, _⟩ := own_any hown7
             have Hown7 := Lib.hid hown7
             have Hg7 := Lib.hid hg7
             have hG7 := (HG3.out.alloc (.cells (ncells (ndR la) (.slice none 0 0)).toArray 50)).grown hg7 (fun e => own_blk_ne HO3.out HG3.out (by decide) e.symm)
             have f7 := Blk.frozen hG7 6
             have k7 := Blk.cell hG7 6
             simp only [List.getElem?_toArray, List.getElem?_cons_zero, List.getElem?_cons_succ] at k7
             have HG7 := Lib.hid hG7
             clear hown7 hg7 hat7 hG7))
        have hK7 := (HK3.out.alloc (.cells (ncells (ndR la) (.slice none 0 0)).toArray 50)).grown Hg7.out (fun e => own_blk_ne HO3.out HK3.out (by decide) e.symm)
        have hb7 : Below w.heap.size w w7 := (Hb3.out.alloc hz3 (.cells (ncells (ndR la) (.slice none 0 0)).toArray 50)).grown Hg7.out (by simp; omega) (fun b e => (World.ownsRow.lt HO3.out b e).1)
        have hO7 : w7.ownsRow w.heap.size 50 12 (.slice NA7 (j + 1) nc7) (j + 1) (ndcells (nodesK j ++ [ndR la])) := by rw [ndcells_snoc]; exact Hown7.out
        have hG8 := HG7.out.set8_6 (.slice NA7 (j + 1) nc7)
        have hK8 := hK7.far (p := ⟨Gb, 6, none⟩) (Blk.ne_ hK7 HG7.out (by decide)) (.slice NA7 (j + 1) nc7)
        have hO8 := ownsRow_setCell_other hO7 (a := ⟨Gb, 6, none⟩) (own_blk_ne hO7 HG7.out (by decide)) (.slice NA7 (j + 1) nc7)
        have hb8 := hb7.setCell (p := ⟨Gb, 6, none⟩) hGw (.slice NA7 (j + 1) nc7)
        clear kg6 f7 k7 kt0 kt1 kt2 kt3 kt4 kt5 kt6 kt7 kt8 kt9 kt10 kt11
        obtain ⟨w8, hw8⟩ : ∃ w8, w8 = w7.setCell ⟨Gb, 6, none⟩ (.slice NA7 (j + 1) nc7) := ⟨_, rfl⟩
        rw [← hw8] at hG8 hK8 hO8 hb8 ⊢
        have HK7 := Lib.hid hK7
        have Hb7 := Lib.hid hb7
        have HO7 := Lib.hid hO7
        have Hw8 := Lib.hid hw8
        clear hw8 hO7 hb7 hK7
        have hmk2 : ∀ W : World, (Instr.makeSlice 41 (.int .i64 16) (.int .i64 16)).run Try.prog W = .ok (.slice (some ⟨W.heap.size, 0, none⟩) 16 16) (W.alloc (.cells (kzero 16) 77)) := make_kinds 16 (by omega)
        have hGl8 := hG8.lt
        have hzz8 := hb8.size
        have hmin6 : ((min j 6 : Nat) : Int) = (j : Int) := by omega
        have hGl8a : Gb < w8.heap.size + 1 := by omega
        have hGl8b : Gb < w8.heap.size + 1 + 1 := by omega
        have hGl8c : Gb < w8.heap.size + 1 + 1 + 1 := by omega
        have hK8z : Blk w8 K 77 (kzero (16 + n)) := by rw [← Hkz.out]; exact hK8
        have hO8z : w8.ownsRow w.heap.size 50 12 (.slice NA7 (j + 1) nc7) (j + 1) (ndcells (nodesK j ++ [ndR (lastA (a0.tmod 2 == 0))])) := by rw [Hbrv.out, ← Hla.out]; exact hO8
        rw [Hbr.out] at hO8z
        have HG8 := Lib.hid hG8
        have HK8 := Lib.hid hK8
        have HO8 := Lib.hid hO8
        have Hb8 := Lib.hid hb8
        have HK8z := Lib.hid hK8z
        have HO8z := Lib.hid hO8z
        clear hO8z hK8z hb8 hO8 hK8 hG8
        first
        | (have hqt : (a0.tmod 2 == 0) = true := Hbr.out
           go_region_held3 (fun W => (W.cell? ⟨Gb, 0, none⟩ = some (.slice none 0 0) ∧ W.cell? ⟨Gb, 1, none⟩ = some (.slice (some ⟨K, 0, none⟩) (16 + n) (16 + n)) ∧ W.cell? ⟨Gb, 2, none⟩ = some (.int .i64 (m : Int)) ∧ W.cell? ⟨Gb, 3, none⟩ = some (.slice none 0 0) ∧ W.cell? ⟨Gb, 4, none⟩ = some (.bool true) ∧ W.cell? ⟨Gb, 5, none⟩ = some (.int .i64 (-1)) ∧ W.cell? ⟨Gb, 6, none⟩ = some (.slice NA7 (j + 1) nc7) ∧ W.cell? ⟨Gb, 7, none⟩ = some (.int .i64 0)) ∧ Blk W Gb 44 #[.slice none 0 0, .slice (some ⟨K, 0, none⟩) (16 + n) (16 + n), .int .i64 (m : Int), .slice none 0 0, .bool true, .int .i64 (-1), .slice NA7 (j + 1) nc7, .int .i64 0])
             ((refine s8_of ?_; first | (with_reducible refine blk_realloc (And.right (by assumption)) _ ?_; omega) | (with_reducible refine blk_alloc_d ?_ _; exact And.right (by assumption)) | (with_reducible refine Blk.alloc ?_ _; exact And.right (by assumption)) | (with_reducible refine blk_under hb9 ?_; exact And.right (by assumption)) | (with_reducible refine Blk.far (Blk.far (Blk.far (Blk.far (Blk.far ?_ ?_ _) ?_ _) ?_ _) ?_ _) ?_ _ <;> first | exact And.right (by assumption) | (dsimp only; omega)) | exact HG8.out))
             ((go_at_call 9; refine (layK_any _ w.heap.size _ _ _ K n m j nc7 _ NA7 (by omega) (by omega) (by omega) (by repeat' first | (refine Blk.newAt (by simp) _ _) | with_reducible refine Blk.alloc ?_ _ | with_reducible refine blk_drew ?_) (by repeat' first | (refine Blk.newAt (by simp) _ _) | with_reducible refine Blk.alloc ?_ _ | with_reducible refine blk_drew ?_) (by repeat' first | (refine Blk.newAt (by simp) _ _) | with_reducible refine Blk.alloc ?_ _ | with_reducible refine blk_drew ?_) (by repeat' first | with_reducible exact HK8z.out | with_reducible refine Blk.alloc ?_ _ | with_reducible refine blk_drew ?_) (by repeat' first | with_reducible exact HO8z.out | with_reducible refine World.ownsRow.alloc ?_ _ | with_reducible refine own_drew ?_)).mono ?_; rintro e w9 ⟨SA, sc, CA, cc, VA, vc, rfl, hb9⟩; have hz9 : w8.heap.size < w9.heap.size := (by have h9 := hb9.size; simp at h9; omega); have Hb10 := Lib.hid (show Below w.heap.size w w9 from (below_step (by repeat' first | with_reducible exact Hb8.out | with_reducible refine Below.drew ?_ | with_reducible refine Below.alloc ?_ ?_ _ | omega | (simp only [World.size_alloc, World.size_drew]; omega)) (by first | omega | (simp only [World.size_alloc, World.size_drew]; omega)) hb9)); (try (refine (fun hL => ?_) (blk_under hb9 (g := w8.heap.size) (t := 36) (cs := #[.int .i64 0, .slice none 0 0, .slice none 0 0, .slice none 0 0, .int .i64 0]) ?_); rotate_left; focus ((repeat' (first | (with_reducible refine Blk.newAt ?_ _ _; simp <;> fail) | with_reducible refine Blk.alloc ?_ _ | with_reducible refine blk_drew ?_)) <;> fail))); (try (refine (fun hL => ?_) (blk_under hb9 (g := w8.heap.size + 1) (t := 36) (cs := #[.int .i64 0, .slice none 0 0, .slice none 0 0, .slice none 0 0, .int .i64 0]) ?_); rotate_left; focus ((repeat' (first | (with_reducible refine Blk.newAt ?_ _ _; simp <;> fail) | with_reducible refine Blk.alloc ?_ _ | with_reducible refine blk_drew ?_)) <;> fail))); (try (refine (fun hL => ?_) (blk_under hb9 (g := w8.heap.size + 1 + 1) (t := 36) (cs := #[.int .i64 0, .slice none 0 0, .slice none 0 0, .slice none 0 0, .int .i64 0]) ?_); rotate_left; focus ((repeat' (first | (with_reducible refine Blk.newAt ?_ _ _; simp <;> fail) | with_reducible refine Blk.alloc ?_ _ | with_reducible refine blk_drew ?_)) <;> fail))); (try (refine (fun hL => ?_) (blk_under hb9 (g := w8.heap.size + 1 + 1 + 1) (t := 36) (cs := #[.int .i64 0, .slice none 0 0, .slice none 0 0, .slice none 0 0, .int .i64 0]) ?_); rotate_left; focus ((repeat' (first | (with_reducible refine Blk.newAt ?_ _ _; simp <;> fail) | with_reducible refine Blk.alloc ?_ _ | with_reducible refine blk_drew ?_)) <;> fail))); (try (obtain ⟨lc0, lc1, lc2, lc3, lc4, lf0, lf1, lf2, lf3, lf4⟩ := five_cells hL; have HL := Lib.hid hL; clear hL)))))
        | (have hqf : (a0.tmod 2 == 0) = false := Hbr.out
           go_region_held3 (fun W => (W.cell? ⟨Gb, 0, none⟩ = some (.slice none 0 0) ∧ W.cell? ⟨Gb, 1, none⟩ = some (.slice (some ⟨K, 0, none⟩) (16 + n) (16 + n)) ∧ W.cell? ⟨Gb, 2, none⟩ = some (.int .i64 (m : Int)) ∧ W.cell? ⟨Gb, 3, none⟩ = some (.slice none 0 0) ∧ W.cell? ⟨Gb, 4, none⟩ = some (.bool false) ∧ W.cell? ⟨Gb, 5, none⟩ = some (.int .i64 (-1)) ∧ W.cell? ⟨Gb, 6, none⟩ = some (.slice NA7 (j + 1) nc7) ∧ W.cell? ⟨Gb, 7, none⟩ = some (.int .i64 0)) ∧ Blk W Gb 44 #[.slice none 0 0, .slice (some ⟨K, 0, none⟩) (16 + n) (16 + n), .int .i64 (m : Int), .slice none 0 0, .bool false, .int .i64 (-1), .slice NA7 (j + 1) nc7, .int .i64 0])
             ((refine s8_of ?_; first | (with_reducible refine blk_realloc (And.right (by assumption)) _ ?_; omega) | (with_reducible refine blk_alloc_d ?_ _; exact And.right (by assumption)) | (with_reducible refine Blk.alloc ?_ _; exact And.right (by assumption)) | (with_reducible refine blk_under hb9 ?_; exact And.right (by assumption)) | (with_reducible refine Blk.far (Blk.far (Blk.far (Blk.far (Blk.far ?_ ?_ _) ?_ _) ?_ _) ?_ _) ?_ _ <;> first | exact And.right (by assumption) | (dsimp only; omega)) | exact HG8.out))
             ((go_at_call 9; refine (layK_any _ w.heap.size _ _ _ K n m j nc7 _ NA7 (by omega) (by omega) (by omega) (by repeat' first | (refine Blk.newAt (by simp) _ _) | with_reducible refine Blk.alloc ?_ _ | with_reducible refine blk_drew ?_) (by repeat' first | (refine Blk.newAt (by simp) _ _) | with_reducible refine Blk.alloc ?_ _ | with_reducible refine blk_drew ?_) (by repeat' first | (refine Blk.newAt (by simp) _ _) | with_reducible refine Blk.alloc ?_ _ | with_reducible refine blk_drew ?_) (by repeat' first | with_reducible exact HK8z.out | with_reducible refine Blk.alloc ?_ _ | with_reducible refine blk_drew ?_) (by repeat' first | with_reducible exact HO8z.out | with_reducible refine World.ownsRow.alloc ?_ _ | with_reducible refine own_drew ?_)).mono ?_; rintro e w9 ⟨SA, sc, CA, cc, VA, vc, rfl, hb9⟩; have hz9 : w8.heap.size < w9.heap.size := (by have h9 := hb9.size; simp at h9; omega); have Hb10 := Lib.hid (show Below w.heap.size w w9 from (below_step (by repeat' first | with_reducible exact Hb8.out | with_reducible refine Below.drew ?_ | with_reducible refine Below.alloc ?_ ?_ _ | omega | (simp only [World.size_alloc, World.size_drew]; omega)) (by first | omega | (simp only [World.size_alloc, World.size_drew]; omega)) hb9)); (try (refine (fun hL => ?_) (blk_under hb9 (g := w8.heap.size) (t := 36) (cs := #[.int .i64 0, .slice none 0 0, .slice none 0 0, .slice none 0 0, .int .i64 0]) ?_); rotate_left; focus ((repeat' (first | (with_reducible refine Blk.newAt ?_ _ _; simp <;> fail) | with_reducible refine Blk.alloc ?_ _ | with_reducible refine blk_drew ?_)) <;> fail))); (try (refine (fun hL => ?_) (blk_under hb9 (g := w8.heap.size + 1) (t := 36) (cs := #[.int .i64 0, .slice none 0 0, .slice none 0 0, .slice none 0 0, .int .i64 0]) ?_); rotate_left; focus ((repeat' (first | (with_reducible refine Blk.newAt ?_ _ _; simp <;> fail) | with_reducible refine Blk.alloc ?_ _ | with_reducible refine blk_drew ?_)) <;> fail))); (try (refine (fun hL => ?_) (blk_under hb9 (g := w8.heap.size + 1 + 1) (t := 36) (cs := #[.int .i64 0, .slice none 0 0, .slice none 0 0, .slice none 0 0, .int .i64 0]) ?_); rotate_left; focus ((repeat' (first | (with_reducible refine Blk.newAt ?_ _ _; simp <;> fail) | with_reducible refine Blk.alloc ?_ _ | with_reducible refine blk_drew ?_)) <;> fail))); (try (refine (fun hL => ?_) (blk_under hb9 (g := w8.heap.size + 1 + 1 + 1) (t := 36) (cs := #[.int .i64 0, .slice none 0 0, .slice none 0 0, .slice none 0 0, .int .i64 0]) ?_); rotate_left; focus ((repeat' (first | (with_reducible refine Blk.newAt ?_ _ _; simp <;> fail) | with_reducible refine Blk.alloc ?_ _ | with_reducible refine blk_drew ?_)) <;> fail))); (try (obtain ⟨lc0, lc1, lc2, lc3, lc4, lf0, lf1, lf2, lf3, lf4⟩ := five_cells hL; have HL := Lib.hid hL; clear hL)))))
        all_goals
          go_wp2_with fail
          go_ret
          refine ⟨by first | rfl | simp [hmin6], ?_⟩
          repeat' first
            | with_reducible exact Hb10.out
            | with_reducible refine Below.alloc ?_ ?_ _
            | with_reducible refine Below.setCell ?_ ?_ _
            | omega
            | (dsimp only; omega)
end Go.Proofs.Ytopifdkkmchoeaa

/- The law CodeBounds: where the bounds lie. No condition. -/
import Derived.Test.YtcaefdfdngecdaaSame3
import Derived.Test.YtcaefdfdngecdaaFirstC
import Derived.Deep.LoopGhost
import Derived.Deep.CutBlock
import Derived.Outline
import Derived.Deep.RegionHeld3
import Derived.Deep.DeepCutAuto
import Derived.Test.YtcaefdfdngecdaaLate
set_option linter.unusedVariables false
set_option linter.unusedSimpArgs false
namespace Go.Proofs.Ytcaefdfdngecdaa
open Go.RowKit

theorem mod_at (a : Int) : ∃ k : Nat, k < 300 ∧ wrap64 ((IntKind.u64.wrap a).tmod 300) = (k : Int) := by
  have hu : 0 ≤ IntKind.u64.wrap a := by rw [IntKind.wrap_u64]; omega
  have hb := Int.emod_nonneg (IntKind.u64.wrap a) (show (300 : Int) ≠ 0 by omega)
  have hc := Int.emod_lt_of_pos (IntKind.u64.wrap a) (show (0 : Int) < 300 by omega)
  refine ⟨(IntKind.u64.wrap a % 300).toNat, by omega, ?_⟩
  rw [Int.tmod_eq_emod_of_nonneg hu, Int.toNat_of_nonneg hb, IntWalk.wrap64_in _ ⟨by omega, by omega⟩]
theorem mod4 (a : Int) : ∃ Q : Int, 0 ≤ Q ∧ Q < 4 ∧ (IntKind.u64.wrap a).tmod 4 = Q := by
  have hu : 0 ≤ IntKind.u64.wrap a := by rw [IntKind.wrap_u64]; omega
  exact ⟨IntKind.u64.wrap a % 4, Int.emod_nonneg _ (by omega), Int.emod_lt_of_pos _ (by omega), Int.tmod_eq_emod_of_nonneg hu⟩
def i24 : InstrD := ⟨24, 0, 0⟩
def fB (p : Int) (ks : List Int) (is : List InstrD) : FuncD := ⟨p, ks, false, -1, is⟩
theorem own_of_blk {w : World} {g base size n : Nat} {t : TypeId} {cs : Array Value} {xs : List Value} (h : Blk w g t cs) (hb : base ≤ g) (hx : cs.toList = xs) (hn : xs.length = n * size) (hm : n ≤ maxLen) : w.ownsRow base t size (.slice (some ⟨g, 0, none⟩) n n) n xs := by
  subst hx
  exact ⟨hn, .inr ⟨g, n, cs, rfl, hb, h, Nat.le_refl _, hm, by simpa using hn, by rw [← hn]; exact List.take_length⟩⟩
theorem Reads.of_blk {w : World} {g size n : Nat} {t : TypeId} {cs : Array Value} {xs : List Value} (h : Blk w g t cs) (hx : cs.toList = xs) (hn : xs.length = n * size) : Reads w w.heap.size size (some ⟨g, 0, none⟩) n xs := by
  subst hx
  exact ⟨hn, fun _ => ⟨_, rfl, h.lt, World.news_of_block (cs := cs) (t := t) (fr := (0, 0)) h⟩⟩
theorem code_one {w : World} {C : Nat} {t : TypeId} (h : Blk w C t #[.int .u8 24, .int .i64 0, .int .u64 0]) : CodeAt w w.heap.size (.slice (some ⟨C, 0, none⟩) 1 1) [i24] :=
  ⟨_, _, _, rfl, Nat.le_refl _, by unfold maxLen; omega, rfl, Reads.of_blk h rfl rfl⟩
theorem funcs_rep {w : World} {C base m : Nat} {pv : Value} {e t : TypeId} (h : Blk w C t #[.int .u8 24, .int .i64 0, .int .u64 0]) (ho : w.ownsRow base e 5 pv m (List.replicate m (fcells (fB 0 [] [i24]) (.slice none 0 0) (.slice (some ⟨C, 0, none⟩) 1 1))).flatten) :
    FuncsAt w w.heap.size pv (List.replicate m (fB 0 [] [i24])) := by
  obtain ⟨A, c, rfl, h1, h2, h3⟩ := own_any ho
  refine ⟨A, m, c, _, rfl, h1, h2, by simp, by simp, h3, fun i f hf => ?_⟩
  have hi : i < m := by have := (List.getElem?_eq_some_iff.1 hf).1; simpa using this
  rw [List.getElem?_replicate, if_pos hi] at hf
  injection hf with hf
  subst hf
  exact ⟨_, by rw [List.getElem?_replicate, if_pos hi], _, _, rfl, KindsAt.nil _ _, code_one h⟩
theorem funcs_one {w : World} {R : Nat} {t : TypeId} {f : FuncD} {lv cv : Value} (h : Blk w R t (fcells f lv cv).toArray) (hl : KindsAt w w.heap.size lv f.locals) (hc : CodeAt w w.heap.size cv f.code) : FuncsAt w w.heap.size (.slice (some ⟨R, 0, none⟩) 1 1) [f] := by
  refine ⟨_, 1, 1, [fcells f lv cv], rfl, Nat.le_refl _, by unfold maxLen; omega, rfl, rfl, Reads.of_blk h (by simp) rfl, fun i g hg => ?_⟩
  have hi : i = 0 := by have := (List.getElem?_eq_some_iff.1 hg).1; simp at this; omega
  subst hi
  injection hg with hg
  subst hg
  exact ⟨_, rfl, _, _, rfl, hl, hc⟩
theorem kinds_made {w : World} {g n : Nat} {t : TypeId} (h : Blk w g t (madeCells #[.int .u8 0] n)) (hn : n ≤ maxLen) : KindsAt w w.heap.size (.slice (some ⟨g, 0, none⟩) n n) (List.replicate n 0) :=
  ⟨_, _, _, rfl, Nat.le_refl _, hn, by simp, Reads.of_blk h (by rw [toList_madeCells_one, kindVals, List.map_replicate]) (by simp [kindVals])⟩
theorem okI24 : okI i24 = true := by decide
theorem okF_fB (p : Int) (n m : Nat) (h0 : 0 ≤ p) (h1 : p ≤ n) (h2 : n ≤ 255) (h3 : m ≤ 65535) : okF (fB p (List.replicate n 0) (List.replicate m i24)) = true := by
  unfold okF headOk fB
  simp only [List.length_replicate, Bool.and_eq_true, decide_eq_true_eq, List.all_eq_true]
  refine ⟨⟨by omega, fun k hk => ?_⟩, fun i hi => ?_⟩
  · rw [(List.mem_replicate.1 hk).2]; omega
  · rw [(List.mem_replicate.1 hi).2]; exact okI24
theorem wf_fB (p : Int) (n m : Nat) (h0 : 0 ≤ p) (h1 : p ≤ 1000) : (fB p (List.replicate n 0) (List.replicate m i24)).Wf := by
  refine ⟨by unfold I64 fB; simp only; omega, fun k hk => ?_, by unfold I64 fB; simp only; omega, fun i hi => ?_⟩
  · rw [(List.mem_replicate.1 hk).2]; omega
  · rw [(List.mem_replicate.1 hi).2]; exact wf_of (by omega) (by omega) (by omega) (by omega) (by omega) (by omega)
theorem okP_one {f : FuncD} (h : okF f = true) : okP [f] = true := by unfold okP; simp [h]
theorem boundP_one (f : FuncD) : boundP [f] = boundF f := by unfold boundP; simp
theorem boundF_fB (p : Int) (n m : Nat) : boundF (fB p (List.replicate n 0) (List.replicate m i24)) = decide (p ≤ 4 ∧ n ≤ 16 ∧ m ≤ 256) := by
  unfold boundF fB; simp only [List.length_replicate]
theorem rep_ok (m : Nat) (h1 : 1 ≤ m) (h2 : m ≤ 255) : okP (List.replicate m (fB 0 [] [i24])) = true := by
  unfold okP
  simp only [List.length_replicate, Bool.and_eq_true, decide_eq_true_eq, List.all_eq_true]
  exact ⟨⟨h1, h2⟩, fun f hf => by rw [(List.mem_replicate.1 hf).2]; decide⟩
theorem rep_bound (m : Nat) : boundP (List.replicate m (fB 0 [] [i24])) = decide ((m : Int) ≤ (16 : Nat)) := by
  unfold boundP
  have : (List.replicate m (fB 0 [] [i24])).all boundF = true := by
    rw [List.all_eq_true]; intro f hf; rw [(List.mem_replicate.1 hf).2]; decide
  rw [this, Bool.true_and, List.length_replicate]
  apply decide_eq_decide.2
  omega
/-- what stands behind the choice: a program that can be written, within the bounds if so many are not more than the most -/
def BRel (w : World) (T : Nat) (kv mv : Value) (wx : World) : Prop :=
  ∃ (K M : Nat) (A : Option Addr) (n c : Nat) (fs : List FuncD), kv = .int .i64 (K : Int) ∧ mv = .int .i64 (M : Int) ∧ Blk wx T 26 #[.slice A n c] ∧ FuncsAt wx wx.heap.size (.slice A n c) fs ∧ (∀ f ∈ fs, f.Wf) ∧ okP fs = true ∧ boundP fs = decide ((K : Int) ≤ M) ∧ Below w.heap.size w wx
theorem Blk.new2 (w : World) (o : Obj) (t : TypeId) (cs : Array Value) : Blk ((w.alloc o).alloc (.cells cs t)) (w.heap.size + 1) t cs := by
  have := Blk.new (w.alloc o) t cs
  rwa [World.size_alloc] at this
set_option maxRecDepth 100000 in
set_option maxHeartbeats 2000000 in
theorem walk_CodeBounds (w : World) (a0 : Int) (w0 : (Lit.int .i64 a0).wf = true) (a1 : Int) (w1 : (Lit.int .i64 a1).wf = true) :
    Calls Try.prog 7 #[.int .i64 a0, .int .i64 a1] w fun e w' => e = .returned (.bool true) ∧ Below w.heap.size w w' := by
  obtain ⟨i0, hi0, hz0, hz1, hz2⟩ := info_parts infoFunc
  obtain ⟨i1, hi1, hv0, hv1, hv2⟩ := info_parts infoInstr
  obtain ⟨ik, hik, hkz0, hkz1, hkz2⟩ := info_parts infoKind
  obtain ⟨k, hk, hqk⟩ := mod_at a1
  obtain ⟨Q, hQ0, hQ1, hqQ⟩ := mod4 a0
  clear w0 w1
  go_enter Try.func7, Try.ntmps7
  go_wp2_with fail
  refine (first_any _).mono ?_
  rintro e w1 ⟨rfl, hb1⟩
  go_upto_region 6 with fail
  go_cut [8] (fun q wx => Below w.heap.size w wx ∧ Blk wx w1.heap.size 49 #[.int .u8 24, .int .i64 0, .int .u64 0] ∧ Blk wx (w1.heap.size + 1) 45 #[.int .i64 0, .slice none 0 0, .bool false, .int .i64 (-1), .slice (some ⟨w1.heap.size, 0, none⟩) 1 1] ∧
    Blk wx (w1.heap.size + 2) 45 #[.int .i64 0, .slice none 0 0, .bool false, .int .i64 (-1), .slice (some ⟨w1.heap.size, 0, none⟩) 1 1] ∧ Blk wx (w1.heap.size + 3) 26 #[.slice (some ⟨w1.heap.size + 2, 0, none⟩) 1 1])
  case first =>
    go_wp2_with fail
    go_meet
    refine ⟨?_, ?_, ?_, ?_, ?_⟩
    · exact ((((hb1.alloc hb1.size _).alloc (by have := hb1.size; simp; omega) _).alloc (by have := hb1.size; simp; omega) _).alloc (by have := hb1.size; simp; omega) _)
    · exact (((Blk.new w1 _ _).alloc _).alloc _).alloc _
    · exact ((Blk.new2 w1 _ _ _).alloc _).alloc _
    · have := (Blk.new2 (w1.alloc (.cells #[.int .u8 24, .int .i64 0, .int .u64 0] 49)) (.cells #[.int .i64 0, .slice none 0 0, .bool false, .int .i64 (-1), .slice (some ⟨w1.heap.size, 0, none⟩) 1 1] 45) 45 #[.int .i64 0, .slice none 0 0, .bool false, .int .i64 (-1), .slice (some ⟨w1.heap.size, 0, none⟩) 1 1]).alloc (.cells #[.slice (some ⟨w1.heap.size + 1 + 1, 0, none⟩) 1 1] 26)
      rw [World.size_alloc] at this
      exact this
    · have := Blk.new (((w1.alloc (.cells #[.int .u8 24, .int .i64 0, .int .u64 0] 49)).alloc (.cells #[.int .i64 0, .slice none 0 0, .bool false, .int .i64 (-1), .slice (some ⟨w1.heap.size, 0, none⟩) 1 1] 45)).alloc (.cells #[.int .i64 0, .slice none 0 0, .bool false, .int .i64 (-1), .slice (some ⟨w1.heap.size, 0, none⟩) 1 1] 45)) 26 #[.slice (some ⟨w1.heap.size + 1 + 1, 0, none⟩) 1 1]
      simp only [World.size_alloc] at this
      exact this
  case rest =>
    have hw1 := hb1.size
    clear hb1
    obtain ⟨hbw, hC, hF, hR, hT⟩ := hcut
    rw [hqk]
    clear hqk
    obtain ⟨F, hFe⟩ : ∃ F, F = w1.heap.size + 1 := ⟨_, rfl⟩
    obtain ⟨T, hTe⟩ : ∃ T, T = w1.heap.size + 1 + 1 + 1 := ⟨_, rfl⟩
    obtain ⟨R, hRe⟩ : ∃ R, R = w1.heap.size + 2 := ⟨_, rfl⟩
    obtain ⟨C, hCe⟩ : ∃ C, C = w1.heap.size := ⟨_, rfl⟩
    have hT' : Blk wc T 26 #[.slice (some ⟨R, 0, none⟩) 1 1] := by rw [hTe, hRe]; exact hT
    have hF' : Blk wc F 45 #[.int .i64 0, .slice none 0 0, .bool false, .int .i64 (-1), .slice (some ⟨C, 0, none⟩) 1 1] := by rw [hFe, hCe]; exact hF
    have hR' : Blk wc R 45 #[.int .i64 0, .slice none 0 0, .bool false, .int .i64 (-1), .slice (some ⟨C, 0, none⟩) 1 1] := by rw [hRe, hCe]; exact hR
    have hC' : Blk wc C 49 #[.int .u8 24, .int .i64 0, .int .u64 0] := by rw [hCe]; exact hC
    rw [← hTe, ← hFe]
    have o0 : w.heap.size ≤ C := by omega
    have o1 : C < F := by omega
    have o2 : F < R := by omega
    have o3 : R < T := by omega
    clear hw1 hC hF hR hT hTe hFe hRe hCe
    have Hbw := Lib.hid hbw
    have HC := Lib.hid hC'
    have HF := Lib.hid hF'
    have HR := Lib.hid hR'
    have HT := Lib.hid hT'
    clear hT' hR' hF' hC' hbw
    go_upto_block 0 with fail
    go_cut [5, 8] (fun kv mv wx => BRel w T kv mv wx)
    case first =>
      have hQ : Q = 0 ∨ Q = 1 ∨ Q = 2 ∨ Q = 3 := by omega
      clear hqQ hQ0 hQ1
      rcases hQ with rfl | rfl | rfl | rfl
      · obtain ⟨K, hK1, hK2, hKe⟩ : ∃ K : Nat, 1 ≤ K ∧ K ≤ 40 ∧ (1 + (k : Int) % 40) = K := ⟨1 + k % 40, by omega, by omega, by omega⟩
        go_wp2_with fail
        clear hKe
        go_loopg [] (K - 1) (fun g wr => ∃ (m : Nat) (pv : Value), m + g = K ∧ 1 ≤ m ∧ pv.ownBlock ≠ some F ∧ Blk wr T 26 #[pv] ∧ wr.ownsRow w.heap.size 45 5 pv m (List.replicate m (fcells (fB 0 [] [i24]) (.slice none 0 0) (.slice (some ⟨C, 0, none⟩) 1 1))).flatten ∧ Blk wr F 45 #[.int .i64 0, .slice none 0 0, .bool false, .int .i64 (-1), .slice (some ⟨C, 0, none⟩) 1 1] ∧ Blk wr C 49 #[.int .u8 24, .int .i64 0, .int .u64 0] ∧ Below w.heap.size w wr)
        case atStart => exact ⟨1, .slice (some ⟨R, 0, none⟩) 1 1, by omega, by omega, (by simp [Value.ownBlock]; omega), HT.out, own_of_blk HR.out (by omega) rfl rfl (by unfold maxLen; omega), HF.out, HC.out, Hbw.out⟩
        case round =>
          obtain ⟨m, pv, hm, hm1, hnF, hT4, hO4, hF4, hC4, hbw4⟩ := hrel
          have hFl := hF4.lt
          have hsz4 := hbw4.size
          have hTl := hT4.lt
          have hCl := hC4.lt
          obtain ⟨g4, c4, rfl, _⟩ := own_form hO4 (by omega)
          by_cases hlt : m < K
          · have kt0 := Blk.cell hT4 0
            simp only [List.getElem?_toArray, List.getElem?_cons_zero, List.getElem?_cons_succ] at kt0
            have kf0 := Blk.cell hF4 0
            have kf1 := Blk.cell hF4 1
            have kf2 := Blk.cell hF4 2
            have kf3 := Blk.cell hF4 3
            have kf4 := Blk.cell hF4 4
            simp only [List.getElem?_toArray, List.getElem?_cons_zero, List.getElem?_cons_succ] at kf0 kf1 kf2 kf3 kf4
            have HT4 := Lib.hid hT4
            have HO4 := Lib.hid hO4
            have HF4 := Lib.hid hF4
            have HC4 := Lib.hid hC4
            have Hbw4 := Lib.hid hbw4
            clear hbw4 hC4 hF4 hO4 hT4
            have hnT : (Value.slice (some ⟨g4, 0, none⟩) m c4).ownBlock ≠ some T := own_blk_ne HO4.out HT4.out (by decide)
            have hnC : (Value.slice (some ⟨g4, 0, none⟩) m c4).ownBlock ≠ some C := own_blk_ne HO4.out HC4.out (by decide)
            have hTs : wr.heap.size ≠ T := by omega
            go_wp2_with (first
              | (at_builtin
                 refine wpList_append_any _ rfl (.tmp 63) (.tmp 65) _ rfl w.heap.size 45 i0 _ 5 72 Try.underlying24 hi0 hz0 hz1 hz2 rfl (by omega) _ m _ rfl (HO4.out.alloc _) (wr.heap.size + 1) (some ⟨wr.heap.size, 0, none⟩) 1 1 (fcells (fB 0 [] [i24]) (.slice none 0 0) (.slice (some ⟨C, 0, none⟩) 1 1)) rfl (Reads.newS _ rfl _ _ _ _ _ rfl rfl) ?c1 ?c2 ?c3 ?c4 ?_
                 case c1 => intro u hu; simp only [fcells, List.mem_cons, List.not_mem_nil, or_false] at hu; rcases hu with rfl | rfl | rfl | rfl | rfl <;> rfl
                 case c2 => simp only [maxLen]; omega
                 case c3 => omega
                 case c4 => simp; omega
                 intro v6 w6 hown6 hg6 hat6
                 obtain ⟨g6, c6, rfl, _⟩ := own_form hown6 (by omega)
                 have hT6 := (HT4.out.alloc _).grown hg6 (Ne.symm hnT)
                 have k60 := Blk.cell hT6 0
                 have f60 := Blk.frozen hT6 0
                 simp only [List.getElem?_toArray, List.getElem?_cons_zero] at k60))
            have hF6 := (HF4.out.alloc (.cells #[.int .i64 0, .slice none 0 0, .bool false, .int .i64 (-1), .slice (some ⟨C, 0, none⟩) 1 1] 45)).grown hg6 (Ne.symm hnF)
            have hC6 := (HC4.out.alloc (.cells #[.int .i64 0, .slice none 0 0, .bool false, .int .i64 (-1), .slice (some ⟨C, 0, none⟩) 1 1] 45)).grown hg6 (Ne.symm hnC)
            have hnF6 : (Value.slice (some ⟨g6, 0, none⟩) (m + 1) c6).ownBlock ≠ some F := by
              rcases hat6 with e | e
              · rw [e]; exact hnF
              · rw [e]; intro h; injection h with h; simp at h; omega
            have hb6 := (Hbw4.out.alloc hsz4 (.cells #[.int .i64 0, .slice none 0 0, .bool false, .int .i64 (-1), .slice (some ⟨C, 0, none⟩) 1 1] 45)).grown hg6 (by simp; omega) (fun k e => (HO4.out.lt k e).1)
            go_roundg (gk - 1)
            case measure => omega
            case rel =>
              refine ⟨m + 1, _, by omega, by omega, hnF6, Blk.set_ hT6 0 _, ownsRow_setCell_other ?_ (own_blk_ne hown6 hT6 (by decide)) _, hF6.far (p := ⟨T, 0, none⟩) (by simp; omega) _, hC6.far (p := ⟨T, 0, none⟩) (by simp; omega) _, hb6.setCell (p := ⟨T, 0, none⟩) (by simp; omega) _⟩
              rw [List.replicate_succ', List.flatten_append]
              simpa using hown6
          · obtain rfl : K = m := by omega
            have kt0 := Blk.cell hT4 0
            simp only [List.getElem?_toArray, List.getElem?_cons_zero, List.getElem?_cons_succ] at kt0
            have HT4 := Lib.hid hT4
            have HO4 := Lib.hid hO4
            have HF4 := Lib.hid hF4
            have HC4 := Lib.hid hC4
            have Hbw4 := Lib.hid hbw4
            clear hbw4 hC4 hF4 hO4 hT4
            go_wp2_with fail
            go_meet
            exact ⟨K, 16, _, _, _, _, rfl, rfl, HT4.out, funcs_rep HC4.out HO4.out, fun f hf => by rw [(List.mem_replicate.1 hf).2]; exact wf_fB 0 0 1 (by omega) (by omega), rep_ok K hK1 (by omega), rep_bound K, Hbw4.out⟩
      · obtain ⟨K, hK2, hKe⟩ : ∃ K : Nat, K < 10 ∧ ((k : Int) % 10) = K := ⟨k % 10, by omega, by omega⟩
        have kt0 := Blk.cell HT.out 0
        simp only [List.getElem?_toArray, List.getElem?_cons_zero, List.getElem?_cons_succ] at kt0
        have o4 : R ≠ T := by omega
        have o5 : wc.heap.size ≠ R := by have := HR.out.lt; omega
        have o6 := HT.out.lt
        have hsc := Hbw.out.size
        have hmk : ∀ W : World, (Instr.makeSlice 42 (.int .i64 10) (.int .i64 10)).run Try.prog W = .ok (.slice (some ⟨W.heap.size, 0, none⟩) 10 10) (W.alloc (.cells (madeCells #[.int .u8 0] (10 * 1)) 51)) := fun W => by
          have h := run_make_rowN (P := Try.prog) 42 51 ik _ Try.underlying42 hik hkz0 .i64 .i64 10 10 (Nat.le_refl _) (by rw [hkz2]; omega) (by omega) W
          rw [hkz1] at h
          exact h
        go_wp2_with fail
        rw [hKe]
        clear hKe
        have hR2 := HR.out.alloc (.cells (madeCells #[.int .u8 0] 10) 51)
        have hK2b := Blk.new wc 51 (madeCells #[.int .u8 0] 10)
        have q1 := Blk.cell hR2 1
        simp only [List.getElem?_toArray, List.getElem?_cons_zero, List.getElem?_cons_succ] at q1
        have f1 := Blk.frozen hR2 1
        have HR2 := Lib.hid hR2
        have HK2b := Lib.hid hK2b
        clear hK2b hR2
        refine wp_region_late (S := fun W => W.cell? ⟨T, 0, none⟩ = some (.slice (some ⟨R, 0, none⟩) 1 1)) #[false, false, false, false, false, true] (by kernel_rfl) kt0 (fun hHeld => ?_)
        refine wpAnyL_take (i := 0) (v := ?_) rfl (by kernel_rfl) (by kernel_rfl) (by kernel_rfl) (by kernel_rfl) (fun _ _ _ h => h) (Or.inl ⟨by rfl, ?_⟩) (by assumption) ?_
        rotate_left
        · intro w hSw; (try dsimp only at hSw); go_simp; try with_reducible rfl
        simp only [Act.put, List.getElem_toArray, List.getElem_cons_zero, List.getElem_cons_succ, List.setIfInBounds_toArray, List.set_cons_zero, List.set_cons_succ]
        refine wpAnyL_take (i := 1) (v := ?_) rfl (by kernel_rfl) (by kernel_rfl) (by kernel_rfl) (by kernel_rfl) (fun _ _ _ h => h) (Or.inl ⟨by rfl, ?_⟩) (by assumption) ?_
        rotate_left
        · intro w hSw; (try dsimp only at hSw); go_simp; try with_reducible rfl
        simp only [Act.put, List.getElem_toArray, List.getElem_cons_zero, List.getElem_cons_succ, List.setIfInBounds_toArray, List.set_cons_zero, List.set_cons_succ]
        refine wpAnyL_ready (rs := [2]) (by kernel_rfl) (by simp) ?_
        refine AllReadyL.cons rfl (fun K hK => ?_) AllReadyL.nil
        go_simp
        refine hK.out _ _ ((HT.out.alloc _).cell 0) (fun hHeld2 => ?_)
        clear hK K hHeld
        try simp only [Act.put, List.getElem_toArray, List.getElem_cons_zero, List.getElem_cons_succ, List.setIfInBounds_toArray, List.set_cons_zero, List.set_cons_succ]
        refine wpAnyL_take (i := 3) (v := ?_) rfl (by kernel_rfl) (by kernel_rfl) (by kernel_rfl) (by kernel_rfl) (fun _ _ _ h => h) (Or.inl ⟨by rfl, ?_⟩) (by assumption) ?_
        rotate_left
        · intro w hSw; (try dsimp only at hSw); go_simp; try with_reducible rfl
        simp only [Act.put, List.getElem_toArray, List.getElem_cons_zero, List.getElem_cons_succ, List.setIfInBounds_toArray, List.set_cons_zero, List.set_cons_succ]
        refine wpAnyL_take (i := 4) (v := ?_) rfl (by kernel_rfl) (by kernel_rfl) (by kernel_rfl) (by kernel_rfl) (fun _ _ _ h => h) (Or.inl ⟨by rfl, ?_⟩) (by assumption) ?_
        rotate_left
        · intro w hSw; (try dsimp only at hSw); go_simp; try with_reducible rfl
        simp only [Act.put, List.getElem_toArray, List.getElem_cons_zero, List.getElem_cons_succ, List.setIfInBounds_toArray, List.set_cons_zero, List.set_cons_succ]
        refine wpAnyL_ready (rs := [5]) (by kernel_rfl) (by simp) ?_
        refine AllReadyL.last rfl (by kernel_rfl) (fun K hK => ?_) AllReadyL.nil
        go_simp
        refine hK.out _ _ ?_
        clear hK K hHeld2
        refine wpAnyL_done (by kernel_rfl) ?_ _
        obtain ⟨W3, hW3⟩ : ∃ W3, W3 = ((wc.alloc (.cells (madeCells #[.int .u8 0] 10) 51)).setCell ⟨R, 1, none⟩ (.slice (some ⟨wc.heap.size, 0, none⟩) 10 10)).drew := ⟨_, rfl⟩
        rw [← hW3]
        have hT3 : Blk W3 T 26 #[.slice (some ⟨R, 0, none⟩) 1 1] := by rw [hW3]; exact ((HT.out.alloc _).far (p := ⟨R, 1, none⟩) (Ne.symm o4) _).drew
        have hR3 : Blk W3 R 45 #[.int .i64 0, .slice (some ⟨wc.heap.size, 0, none⟩) 10 10, .bool false, .int .i64 (-1), .slice (some ⟨C, 0, none⟩) 1 1] := by rw [hW3]; exact (HR2.out.set_ 1 _).drew
        have hC3 : Blk W3 C 49 #[.int .u8 24, .int .i64 0, .int .u64 0] := by rw [hW3]; exact ((HC.out.alloc _).far (p := ⟨R, 1, none⟩) (by simp; omega) _).drew
        have hK3 : Blk W3 wc.heap.size 51 (madeCells #[.int .u8 0] 10) := by rw [hW3]; exact (HK2b.out.far (p := ⟨R, 1, none⟩) o5 _).drew
        have hb3 : Below w.heap.size w W3 := by rw [hW3]; exact ((Hbw.out.alloc hsc _).setCell (p := ⟨R, 1, none⟩) (by simp; omega) _).drew
        clear hW3 q1 f1 kt0 hmk
        have kt0 := Blk.cell hT3 0
        simp only [List.getElem?_toArray, List.getElem?_cons_zero, List.getElem?_cons_succ] at kt0
        have q0 := Blk.cell hR3 0
        simp only [List.getElem?_toArray, List.getElem?_cons_zero, List.getElem?_cons_succ] at q0
        have f0 := Blk.frozen hR3 0
        have HT3 := Lib.hid hT3
        have HR3 := Lib.hid hR3
        have HC3 := Lib.hid hC3
        have HK3 := Lib.hid hK3
        have Hb3 := Lib.hid hb3
        clear hb3 hK3 hC3 hR3 hT3
        go_wp2_with fail
        go_meet
        refine ⟨K, 4, _, _, _, [fB K (List.replicate 10 0) (List.replicate 1 i24)], rfl, rfl, HT3.out.far (p := ⟨R, 0, none⟩) (Ne.symm o4) _, ?_, ?_, okP_one (okF_fB K 10 1 (by omega) (by omega) (by omega) (by omega)), ?_, Hb3.out.setCell (p := ⟨R, 0, none⟩) (by simp; omega) _⟩
        · exact funcs_one (f := fB K (List.replicate 10 0) (List.replicate 1 i24)) (HR3.out.set_ 0 _) (kinds_made (HK3.out.far (p := ⟨R, 0, none⟩) o5 _) (by unfold maxLen; omega)) (code_one (HC3.out.far (p := ⟨R, 0, none⟩) (by simp; omega) _))
        · intro f hf
          rw [List.mem_singleton.1 hf]
          exact wf_fB K 10 1 (by omega) (by omega)
        · rw [boundP_one, boundF_fB]
          apply decide_eq_decide.2
          omega
      · obtain ⟨K, hK2, hKe⟩ : ∃ K : Nat, K < 40 ∧ ((k : Int) % 40) = K := ⟨k % 40, by omega, by omega⟩
        have kt0 := Blk.cell HT.out 0
        simp only [List.getElem?_toArray, List.getElem?_cons_zero, List.getElem?_cons_succ] at kt0
        have o4 : R ≠ T := by omega
        have o5 : wc.heap.size ≠ R := by have := HR.out.lt; omega
        have o6 := HT.out.lt
        have hsc := Hbw.out.size
        have hmk : ∀ W : World, (Instr.makeSlice 42 (.int .i64 (K : Int)) (.int .i64 (K : Int))).run Try.prog W = .ok (.slice (some ⟨W.heap.size, 0, none⟩) K K) (W.alloc (.cells (madeCells #[.int .u8 0] (K * 1)) 51)) := fun W => by
          have h := run_make_rowN (P := Try.prog) 42 51 ik _ Try.underlying42 hik hkz0 .i64 .i64 K K (Nat.le_refl _) (by rw [hkz2]; omega) (by omega) W
          rw [hkz1] at h
          exact h
        go_wp2_with fail
        rw [hKe]
        clear hKe
        have hR2 := HR.out.alloc (.cells (madeCells #[.int .u8 0] K) 51)
        have hK2b := Blk.new wc 51 (madeCells #[.int .u8 0] K)
        have q1 := Blk.cell hR2 1
        simp only [List.getElem?_toArray, List.getElem?_cons_zero, List.getElem?_cons_succ] at q1
        have f1 := Blk.frozen hR2 1
        have HR2 := Lib.hid hR2
        have HK2b := Lib.hid hK2b
        clear hK2b hR2
        refine wp_region_late (S := fun W => W.cell? ⟨T, 0, none⟩ = some (.slice (some ⟨R, 0, none⟩) 1 1)) #[false, false, false, false, false, false, true] (by kernel_rfl) kt0 (fun hHeld => ?_)
        refine wpAnyL_take (i := 0) (v := ?_) rfl (by kernel_rfl) (by kernel_rfl) (by kernel_rfl) (by kernel_rfl) (fun _ _ _ h => h) (Or.inl ⟨by rfl, ?_⟩) (by assumption) ?_
        rotate_left
        · intro w hSw; (try dsimp only at hSw); go_simp; try with_reducible rfl
        simp only [Act.put, List.getElem_toArray, List.getElem_cons_zero, List.getElem_cons_succ, List.setIfInBounds_toArray, List.set_cons_zero, List.set_cons_succ]
        refine wpAnyL_take (i := 1) (v := ?_) rfl (by kernel_rfl) (by kernel_rfl) (by kernel_rfl) (by kernel_rfl) (fun _ _ _ h => h) (Or.inl ⟨by rfl, ?_⟩) (by assumption) ?_
        rotate_left
        · intro w hSw; (try dsimp only at hSw); go_simp; try with_reducible rfl
        simp only [Act.put, List.getElem_toArray, List.getElem_cons_zero, List.getElem_cons_succ, List.setIfInBounds_toArray, List.set_cons_zero, List.set_cons_succ]
        refine wpAnyL_take (i := 2) (v := ?_) rfl (by kernel_rfl) (by kernel_rfl) (by kernel_rfl) (by kernel_rfl) (fun _ _ _ h => h) (Or.inl ⟨by rfl, ?_⟩) (by assumption) ?_
        rotate_left
        · intro w hSw; (try dsimp only at hSw); go_simp; try with_reducible rfl
        simp only [Act.put, List.getElem_toArray, List.getElem_cons_zero, List.getElem_cons_succ, List.setIfInBounds_toArray, List.set_cons_zero, List.set_cons_succ]
        refine wpAnyL_ready (rs := [3]) (by kernel_rfl) (by simp) ?_
        refine AllReadyL.cons rfl (fun K hK => ?_) AllReadyL.nil
        go_simp
        refine hK.out _ _ ((HT.out.alloc _).cell 0) (fun hHeld2 => ?_)
        clear hK K hHeld
        try simp only [Act.put, List.getElem_toArray, List.getElem_cons_zero, List.getElem_cons_succ, List.setIfInBounds_toArray, List.set_cons_zero, List.set_cons_succ]
        refine wpAnyL_take (i := 4) (v := ?_) rfl (by kernel_rfl) (by kernel_rfl) (by kernel_rfl) (by kernel_rfl) (fun _ _ _ h => h) (Or.inl ⟨by rfl, ?_⟩) (by assumption) ?_
        rotate_left
        · intro w hSw; (try dsimp only at hSw); go_simp; try with_reducible rfl
        simp only [Act.put, List.getElem_toArray, List.getElem_cons_zero, List.getElem_cons_succ, List.setIfInBounds_toArray, List.set_cons_zero, List.set_cons_succ]
        refine wpAnyL_take (i := 5) (v := ?_) rfl (by kernel_rfl) (by kernel_rfl) (by kernel_rfl) (by kernel_rfl) (fun _ _ _ h => h) (Or.inl ⟨by rfl, ?_⟩) (by assumption) ?_
        rotate_left
        · intro w hSw; (try dsimp only at hSw); go_simp; try with_reducible rfl
        simp only [Act.put, List.getElem_toArray, List.getElem_cons_zero, List.getElem_cons_succ, List.setIfInBounds_toArray, List.set_cons_zero, List.set_cons_succ]
        refine wpAnyL_ready (rs := [6]) (by kernel_rfl) (by simp) ?_
        refine AllReadyL.last rfl (by kernel_rfl) (fun K hK => ?_) AllReadyL.nil
        go_simp
        refine hK.out _ _ ?_
        clear hK K hHeld2
        refine wpAnyL_done (by kernel_rfl) ?_ _
        obtain ⟨W3, hW3⟩ : ∃ W3, W3 = ((wc.alloc (.cells (madeCells #[.int .u8 0] K) 51)).setCell ⟨R, 1, none⟩ (.slice (some ⟨wc.heap.size, 0, none⟩) K K)).drew := ⟨_, rfl⟩
        rw [← hW3]
        have hT3 : Blk W3 T 26 #[.slice (some ⟨R, 0, none⟩) 1 1] := by rw [hW3]; exact ((HT.out.alloc _).far (p := ⟨R, 1, none⟩) (Ne.symm o4) _).drew
        have hR3 : Blk W3 R 45 #[.int .i64 0, .slice (some ⟨wc.heap.size, 0, none⟩) K K, .bool false, .int .i64 (-1), .slice (some ⟨C, 0, none⟩) 1 1] := by rw [hW3]; exact (HR2.out.set_ 1 _).drew
        have hC3 : Blk W3 C 49 #[.int .u8 24, .int .i64 0, .int .u64 0] := by rw [hW3]; exact ((HC.out.alloc _).far (p := ⟨R, 1, none⟩) (by simp; omega) _).drew
        have hK3 : Blk W3 wc.heap.size 51 (madeCells #[.int .u8 0] K) := by rw [hW3]; exact (HK2b.out.far (p := ⟨R, 1, none⟩) o5 _).drew
        have hb3 : Below w.heap.size w W3 := by rw [hW3]; exact ((Hbw.out.alloc hsc _).setCell (p := ⟨R, 1, none⟩) (by simp; omega) _).drew
        clear hW3 q1 f1 kt0 hmk
        have HT3 := Lib.hid hT3
        have HR3 := Lib.hid hR3
        have HC3 := Lib.hid hC3
        have HK3 := Lib.hid hK3
        have Hb3 := Lib.hid hb3
        clear hb3 hK3 hC3 hR3 hT3
        go_wp2_with fail
        go_meet
        refine ⟨K, 16, _, _, _, [fB 0 (List.replicate K 0) (List.replicate 1 i24)], rfl, rfl, HT3.out, ?_, ?_, okP_one (okF_fB 0 K 1 (by omega) (by omega) (by omega) (by omega)), ?_, Hb3.out⟩
        · exact funcs_one (f := fB 0 (List.replicate K 0) (List.replicate 1 i24)) HR3.out (kinds_made HK3.out (by unfold maxLen; omega)) (code_one HC3.out)
        · intro f hf
          rw [List.mem_singleton.1 hf]
          exact wf_fB 0 K 1 (by omega) (by omega)
        · rw [boundP_one, boundF_fB]
          apply decide_eq_decide.2
          omega
      · have kt0 := Blk.cell HT.out 0
        simp only [List.getElem?_toArray, List.getElem?_cons_zero, List.getElem?_cons_succ] at kt0
        have kr4 := Blk.cell HR.out 4
        simp only [List.getElem?_toArray, List.getElem?_cons_zero, List.getElem?_cons_succ] at kr4
        have fr4 := Blk.frozen HR.out 4
        have o4 : R ≠ T := by omega
        go_wp2_with fail
        obtain ⟨W3, hW3⟩ : ∃ W3, W3 = wc.setCell ⟨R, 4, none⟩ (.slice none 0 0) := ⟨_, rfl⟩
        rw [← hW3]
        have hT3 : Blk W3 T 26 #[.slice (some ⟨R, 0, none⟩) 1 1] := by rw [hW3]; exact HT.out.far (p := ⟨R, 4, none⟩) (Ne.symm o4) _
        have hR3 : Blk W3 R 45 #[.int .i64 0, .slice none 0 0, .bool false, .int .i64 (-1), .slice none 0 0] := by rw [hW3]; exact HR.out.set_ 4 _
        have hb3 : Below w.heap.size w W3 := by rw [hW3]; exact Hbw.out.setCell (p := ⟨R, 4, none⟩) (by simp; omega) _
        clear hW3 kt0 kr4 fr4
        have HT3 := Lib.hid hT3
        have HR3 := Lib.hid hR3
        have Hb3 := Lib.hid hb3
        clear hb3 hR3 hT3
        go_loopg [] k (fun g wr => ∃ (m : Nat) (cv : Value), m + g = k ∧ Blk wr T 26 #[.slice (some ⟨R, 0, none⟩) 1 1] ∧ Blk wr R 45 #[.int .i64 0, .slice none 0 0, .bool false, .int .i64 (-1), cv] ∧ wr.ownsRow w.heap.size 49 3 cv m ((List.replicate m i24).flatMap icells) ∧ Below w.heap.size w wr)
        case atStart => exact ⟨0, .slice none 0 0, by omega, HT3.out, HR3.out, World.ownsRow_nil _ _ _ _, Hb3.out⟩
        case round =>
          obtain ⟨m, cv, hm, hT4, hR4, hO4, hb4⟩ := hrel
          have hsz4 := hb4.size
          have hTl := hT4.lt
          have hRl := hR4.lt
          obtain ⟨CA, cc, rfl, hcc, _, _⟩ := own_any hO4
          have kt0 := Blk.cell hT4 0
          simp only [List.getElem?_toArray, List.getElem?_cons_zero, List.getElem?_cons_succ] at kt0
          have kr4 := Blk.cell hR4 4
          simp only [List.getElem?_toArray, List.getElem?_cons_zero, List.getElem?_cons_succ] at kr4
          have fr4 := Blk.frozen hR4 4
          have HT4 := Lib.hid hT4
          have HR4 := Lib.hid hR4
          have HO4 := Lib.hid hO4
          have Hb4 := Lib.hid hb4
          clear hb4 hO4 hR4 hT4
          by_cases hlt : m < k
          · have hnT : (Value.slice CA m cc).ownBlock ≠ some T := own_blk_ne HO4.out HT4.out (by decide)
            have hnR : (Value.slice CA m cc).ownBlock ≠ some R := own_blk_ne HO4.out HR4.out (by decide)
            go_upto_region 11 with fail
            refine wp_region_late (S := fun W => W.cell? ⟨T, 0, none⟩ = some (.slice (some ⟨R, 0, none⟩) 1 1) ∧ W.cell? ⟨R, 4, none⟩ = some (.slice CA m cc)) #[false, false, false, false, false, false, false, false, false, false, false, false, true] (by kernel_rfl) ⟨kt0, kr4⟩ (fun hHeld => ?_)
            refine wpAnyL_take (i := 0) (v := ?_) rfl (by kernel_rfl) (by kernel_rfl) (by kernel_rfl) (by kernel_rfl) (fun _ _ _ h => h) (Or.inl ⟨by rfl, ?_⟩) (by assumption) ?_
            rotate_left
            · intro w hSw; (try dsimp only at hSw); go_simp; try with_reducible rfl
            simp only [Act.put, List.getElem_toArray, List.getElem_cons_zero, List.getElem_cons_succ, List.setIfInBounds_toArray, List.set_cons_zero, List.set_cons_succ]
            refine wpAnyL_take (i := 1) (v := ?_) rfl (by kernel_rfl) (by kernel_rfl) (by kernel_rfl) (by kernel_rfl) (fun _ _ _ h => h) (Or.inl ⟨by rfl, ?_⟩) (by assumption) ?_
            rotate_left
            · intro w hSw; (try dsimp only at hSw); go_simp; try with_reducible rfl
            simp only [Act.put, List.getElem_toArray, List.getElem_cons_zero, List.getElem_cons_succ, List.setIfInBounds_toArray, List.set_cons_zero, List.set_cons_succ]
            refine wpAnyL_take (i := 2) (v := ?_) rfl (by kernel_rfl) (by kernel_rfl) (by kernel_rfl) (by kernel_rfl) (fun _ _ _ h => h) (Or.inl ⟨by rfl, ?_⟩) (by assumption) ?_
            rotate_left
            · intro w hSw; (try dsimp only at hSw); go_simp; try with_reducible rfl
            simp only [Act.put, List.getElem_toArray, List.getElem_cons_zero, List.getElem_cons_succ, List.setIfInBounds_toArray, List.set_cons_zero, List.set_cons_succ]
            refine wpAnyL_take (i := 3) (v := ?_) rfl (by kernel_rfl) (by kernel_rfl) (by kernel_rfl) (by kernel_rfl) (fun _ _ _ h => h) (Or.inl ⟨by rfl, ?_⟩) (by assumption) ?_
            rotate_left
            · intro w hSw; (try dsimp only at hSw); go_simp; try with_reducible rfl
            simp only [Act.put, List.getElem_toArray, List.getElem_cons_zero, List.getElem_cons_succ, List.setIfInBounds_toArray, List.set_cons_zero, List.set_cons_succ]
            refine wpAnyL_take (i := 4) (v := ?_) rfl (by kernel_rfl) (by kernel_rfl) (by kernel_rfl) (by kernel_rfl) (fun _ _ _ h => h) (Or.inl ⟨by rfl, ?_⟩) (by assumption) ?_
            rotate_left
            · intro w hSw; (try dsimp only at hSw); go_simp; try with_reducible rfl
            simp only [Act.put, List.getElem_toArray, List.getElem_cons_zero, List.getElem_cons_succ, List.setIfInBounds_toArray, List.set_cons_zero, List.set_cons_succ]
            refine wpAnyL_take (i := 5) (v := ?_) rfl (by kernel_rfl) (by kernel_rfl) (by kernel_rfl) (by kernel_rfl) (fun _ _ _ h => h) (Or.inl ⟨by rfl, ?_⟩) (by assumption) ?_
            rotate_left
            · intro w hSw; (try dsimp only at hSw); go_simp; try with_reducible rfl
            simp only [Act.put, List.getElem_toArray, List.getElem_cons_zero, List.getElem_cons_succ, List.setIfInBounds_toArray, List.set_cons_zero, List.set_cons_succ]
            refine wpAnyL_take (i := 6) (v := ?_) rfl (by kernel_rfl) (by kernel_rfl) (by kernel_rfl) (by kernel_rfl) (fun _ _ _ h => h) (Or.inl ⟨by rfl, ?_⟩) (by assumption) ?_
            rotate_left
            · intro w hSw; (try dsimp only at hSw); go_simp; try with_reducible rfl
            simp only [Act.put, List.getElem_toArray, List.getElem_cons_zero, List.getElem_cons_succ, List.setIfInBounds_toArray, List.set_cons_zero, List.set_cons_succ]
            refine wpAnyL_take (i := 7) (v := ?_) rfl (by kernel_rfl) (by kernel_rfl) (by kernel_rfl) (by kernel_rfl) (fun _ _ _ h => h) (Or.inl ⟨by rfl, ?_⟩) (by assumption) ?_
            rotate_left
            · intro w hSw; (try dsimp only at hSw); go_simp; try with_reducible rfl
            simp only [Act.put, List.getElem_toArray, List.getElem_cons_zero, List.getElem_cons_succ, List.setIfInBounds_toArray, List.set_cons_zero, List.set_cons_succ]
            refine wpAnyL_ready (rs := [8]) (by kernel_rfl) (by simp) ?_
            refine AllReadyL.cons rfl (fun K hK => ?_) AllReadyL.nil
            go_simp
            refine hK.out _ _ ⟨(HT4.out.alloc _).cell 0, (HR4.out.alloc _).cell 4⟩ (fun hHeld2 => ?_)
            clear hK K hHeld
            try simp only [Act.put, List.getElem_toArray, List.getElem_cons_zero, List.getElem_cons_succ, List.setIfInBounds_toArray, List.set_cons_zero, List.set_cons_succ]
            refine wpAnyL_ready (rs := [9]) (by kernel_rfl) (by simp) ?_
            refine AllReadyL.cons rfl (fun K hK => ?_) AllReadyL.nil
            refine step_append_any _ rfl (.tmp 46) (.tmp 48) _ rfl w.heap.size 49 i1 _ 3 24 Try.underlying43 hi1 hv0 hv1 hv2 rfl (by omega) _ m _ rfl (HO4.out.alloc _).drew (wr.heap.size + 1) (some ⟨wr.heap.size, 0, none⟩) 1 1 (icells i24) rfl (Reads.newS _ rfl _ _ _ _ _ rfl rfl).drew ?c1 ?c2 ?c3 ?c4 ?_
            case c1 => intro u hu; simp only [icells, List.mem_cons, List.not_mem_nil, or_false] at hu; rcases hu with rfl | rfl | rfl <;> rfl
            case c2 => simp only [maxLen]; omega
            case c3 => omega
            case c4 => simp; omega
            intro v6 w6 hown6 hg6 hat6
            obtain ⟨g6, c6, rfl, _⟩ := own_form hown6 (by omega)
            have hT6 := ((HT4.out.alloc _).drew).grown hg6 (Ne.symm hnT)
            have hR6 := ((HR4.out.alloc _).drew).grown hg6 (Ne.symm hnR)
            have hb6 := ((Hb4.out.alloc hsz4 _).drew).grown hg6 (by simp; omega) (fun k e => (HO4.out.lt k e).1)
            have q4 := Blk.cell hR6 4
            simp only [List.getElem?_toArray, List.getElem?_cons_zero, List.getElem?_cons_succ] at q4
            have f4 := Blk.frozen hR6 4
            refine hK.out _ _ ⟨hT6.cell 0, hR6.cell 4⟩ (fun hHeld3 => ?_)
            clear hK K hHeld2
            have HT6 := Lib.hid hT6
            have HR6 := Lib.hid hR6
            have Hb6 := Lib.hid hb6
            have Hown6 := Lib.hid hown6
            clear hown6 hb6 hR6 hT6
            try simp only [Act.put, List.getElem_toArray, List.getElem_cons_zero, List.getElem_cons_succ, List.setIfInBounds_toArray, List.set_cons_zero, List.set_cons_succ]
            refine wpAnyL_take (i := 10) (v := ?_) rfl (by kernel_rfl) (by kernel_rfl) (by kernel_rfl) (by kernel_rfl) (fun _ _ _ h => h) (Or.inl ⟨by rfl, ?_⟩) (by assumption) ?_
            rotate_left
            · intro w hSw; (try dsimp only at hSw); go_simp; try with_reducible rfl
            simp only [Act.put, List.getElem_toArray, List.getElem_cons_zero, List.getElem_cons_succ, List.setIfInBounds_toArray, List.set_cons_zero, List.set_cons_succ]
            refine wpAnyL_take (i := 11) (v := ?_) rfl (by kernel_rfl) (by kernel_rfl) (by kernel_rfl) (by kernel_rfl) (fun _ _ _ h => h) (Or.inl ⟨by rfl, ?_⟩) (by assumption) ?_
            rotate_left
            · intro w hSw; (try dsimp only at hSw); go_simp; try with_reducible rfl
            simp only [Act.put, List.getElem_toArray, List.getElem_cons_zero, List.getElem_cons_succ, List.setIfInBounds_toArray, List.set_cons_zero, List.set_cons_succ]
            refine wpAnyL_ready (rs := [12]) (by kernel_rfl) (by simp) ?_
            refine AllReadyL.last rfl (by kernel_rfl) (fun K hK => ?_) AllReadyL.nil
            go_simp
            refine hK.out _ _ ?_
            clear hK K hHeld3
            refine wpAnyL_done (by kernel_rfl) ?_ _
            go_wp2_with fail
            go_roundg (gk - 1)
            case measure => omega
            case rel =>
              refine ⟨m + 1, _, by omega, HT6.out.far (p := ⟨R, 4, none⟩) (Ne.symm o4) _, HR6.out.set_ 4 _, ownsRow_setCell_other ?_ (own_blk_ne Hown6.out HR6.out (by decide)) _, Hb6.out.setCell (p := ⟨R, 4, none⟩) (by simp; omega) _⟩
              rw [List.replicate_succ', List.flatMap_append]
              simpa using Hown6.out
          · obtain rfl : k = m := by omega
            go_wp2_with fail
            go_meet
            refine ⟨k, 256, _, _, _, [fB 0 (List.replicate 0 0) (List.replicate k i24)], rfl, rfl, HT4.out, ?_, ?_, okP_one (okF_fB 0 0 k (by omega) (by omega) (by omega) (by omega)), ?_, Hb4.out⟩
            · refine funcs_one (f := fB 0 (List.replicate 0 0) (List.replicate k i24)) HR4.out (KindsAt.nil _ _) ?_
              obtain ⟨A, c, h1, h2, h3, h4⟩ := own_any HO4.out
              exact ⟨A, _, c, h1, h2, h3, by simp [fB], h4⟩
            · intro f hf
              rw [List.mem_singleton.1 hf]
              exact wf_fB 0 0 k (by omega) (by omega)
            · rw [boundP_one, boundF_fB]
              apply decide_eq_decide.2
              omega
    case rest =>
      obtain ⟨K, M, PA, pn, pc, fs, rfl, rfl, hT, hfs, hwf, hok, hbd, hbw⟩ := hcut
      have kt0 := Blk.cell hT 0
      simp only [List.getElem?_toArray, List.getElem?_cons_zero, List.getElem?_cons_succ] at kt0
      have hput := decP_put fs hwf hok
      have hTl := hT.lt
      have hsz := hbw.size
      have HT := Lib.hid hT
      have Hfs := Lib.hid hfs
      have Hwf := Lib.hid hwf
      have Hok := Lib.hid hok
      have Hbd := Lib.hid hbd
      have Hbw := Lib.hid hbw
      have Hput := Lib.hid hput
      clear hput hbw hbd hok hwf hfs hT
      clear hqQ hQ0 hQ1 hk
      go_wp2_with fail
      refine (encode_any _ fs _ Hfs.out Hwf.out).mono ?_
      rintro e w2 ⟨hcase, hb2⟩
      obtain ⟨sv, rfl, hown⟩ : ∃ sv, e = .returned (.tuple #[sv, .int .i64 0]) ∧ w2.ownsRow wc.heap.size 5 1 sv (encP fs).length (byteVals (encP fs)) := by
        rcases hcase with ⟨_, h⟩ | ⟨h, _⟩
        · exact h
        · rw [Hok.out] at h; cases h
      obtain ⟨SA, sc, rfl, hs1, hs2, hs3⟩ := own_any hown
      have hk2 : KindsAt w2 w2.heap.size (.slice SA (encP fs).length sc) (encP fs) := ⟨_, _, _, rfl, hs1, hs2, rfl, hs3⟩
      generalize hL : (encP fs).length = L at *
      have hT2 := HT.out.below hb2 hTl
      have hbw2 := Hbw.out.trans (hb2.mono hsz)
      have hfs2 := Hfs.out.below hb2
      have hsz2 := hb2.size
      have hbyte := encP_byte fs Hwf.out Hok.out
      have HT2 := Lib.hid hT2
      have Hbw2 := Lib.hid hbw2
      have Hk2 := Lib.hid hk2
      have Hfs2 := Lib.hid hfs2
      have Hbyte := Lib.hid hbyte
      clear hbyte hfs2 hk2 hbw2 hT2
      clear hcase hown hs1 hs2 hs3 hb2 kt0 hL
      go_wp2_with fail
      refine (decode_any _ (encP fs) _ _ Hk2.out Hbyte.out (Nat.le_refl _)).mono ?_
      rintro e w3 ⟨hb3, hcase⟩
      have hT3 := HT2.out.below hb3 (by omega)
      have hbw3 := Hbw2.out.trans (hb3.mono (by omega))
      have hfs3 := (Hfs2.out.below (hb3.mono hsz2)).more (B' := w3.heap.size) (by have := hb3.size; omega)
      have hsz3 := hb3.size
      by_cases hKM : (K : Int) ≤ M
      · have d1 : decide ((K : Int) ≤ M) = true := by simpa using hKM
        have d1n : decide (K ≤ M) = true := by simpa using (by omega : K ≤ M)
        have d2n : decide (M < K) = false := by simpa using (by omega : K ≤ M)
        have d2 : decide ((M : Int) < K) = false := by simpa using hKM
        have hbt : boundP fs = true := by rw [Hbd.out, d1]
        obtain ⟨QA, qn, qc, rfl, hq⟩ : ∃ QA qn qc, e = .returned (.tuple #[.agg #[.slice QA qn qc], .int .i64 0]) ∧ FuncsAt w3 w3.heap.size (.slice QA qn qc) fs := by
          rcases hcase with ⟨h, _⟩ | ⟨gs, h, h2, _⟩ | ⟨gs, pv, h, _, h3, h4, _⟩
          · rw [Hput.out] at h; cases h
          · rw [Hput.out] at h; injection h with h; subst h; rw [hbt] at h2; cases h2
          · rw [Hput.out] at h; injection h with h; subst h
            obtain ⟨A, n, c, css, e1, _⟩ := id h4
            subst e1
            exact ⟨_, _, _, h3, h4⟩
        have hT4 := hT3.alloc (.cells #[.slice QA qn qc] 26)
        have hQ4 := Blk.new w3 26 #[.slice QA qn qc]
        have hbw4 := hbw3.alloc (by have := hbw3.size; omega) (.cells #[.slice QA qn qc] 26)
        have hfs4 := (hfs3.below ((Below.refl w3.heap.size w3).alloc (Nat.le_refl _) (.cells #[.slice QA qn qc] 26)))
        have hq4 := (hq.below ((Below.refl w3.heap.size w3).alloc (Nat.le_refl _) (.cells #[.slice QA qn qc] 26)))
        have kt0 := Blk.cell hT4 0
        simp only [List.getElem?_toArray, List.getElem?_cons_zero, List.getElem?_cons_succ] at kt0
        have HT4 := Lib.hid hT4
        have HQ4 := Lib.hid hQ4
        have Hbw4 := Lib.hid hbw4
        have Hfs4 := Lib.hid hfs4
        have Hq4 := Lib.hid hq4
        have HKM := Lib.hid hKM
        have Hbt := Lib.hid hbt
        clear hbt hKM hq4 hfs4 hbw4 hQ4 hT4
        clear hcase hb3 hT3 hbw3 hfs3 hq
        go_wp2_with fail
        refine (bounded_any _ fs _ _ Hfs4.out (by simp)).mono ?_
        rintro e w5 ⟨rfl, hb5⟩
        rw [Hbt.out]
        have hT5 := HT4.out.below hb5 (by simp; omega)
        have hQ5 := HQ4.out.below hb5 (by simp)
        have hbw5 := Hbw4.out.trans (hb5.mono (by simp; omega))
        have hfs5 := Hfs4.out.below (hb5.mono (by simp))
        have hq5 := Hq4.out.below (hb5.mono (by simp))
        have hs5 := hb5.size
        simp only [World.size_alloc] at hs5
        have ku0 := Blk.cell hT5 0
        simp only [List.getElem?_toArray, List.getElem?_cons_zero, List.getElem?_cons_succ] at ku0
        have kv0 := Blk.cell hQ5 0
        simp only [List.getElem?_toArray, List.getElem?_cons_zero, List.getElem?_cons_succ] at kv0
        have HT5 := Lib.hid hT5
        have HQ5 := Lib.hid hQ5
        have Hbw5 := Lib.hid hbw5
        have Hfs5 := Lib.hid hfs5
        have Hq5 := Lib.hid hq5
        clear hq5 hfs5 hbw5 hQ5 hT5
        clear hb5 kt0
        go_wp2_with fail
        refine (same_any _ _ fs fs _ w3.heap.size (by omega) Hfs5.out Hq5.out).mono ?_
        rintro e w6 ⟨rfl, hb6⟩
        rw [(eqP_iff fs fs).2 rfl]
        have hbw6 := Hbw5.out.trans (hb6.mono (by omega))
        have Hbw6 := Lib.hid hbw6
        clear hbw6
        clear hb6
        go_wp2_with fail
        go_ret
        exact ⟨rfl, Hbw6.out⟩
      · have d1 : decide ((K : Int) ≤ M) = false := by simpa using hKM
        have d1n : decide (K ≤ M) = false := by simpa using (by omega : M < K)
        have d2n : decide (M < K) = true := by simpa using (by omega : M < K)
        have d2 : decide ((M : Int) < K) = true := by simpa using hKM
        have hbt : boundP fs = false := by rw [Hbd.out, d1]
        obtain rfl : e = .returned (.tuple #[.agg #[.slice none 0 0], .int .i64 31]) := by
          rcases hcase with ⟨h, _⟩ | ⟨gs, h, h2, h3⟩ | ⟨gs, pv, h, h2, _⟩
          · rw [Hput.out] at h; cases h
          · exact h3
          · rw [Hput.out] at h; injection h with h; subst h; rw [hbt] at h2; cases h2
        have hT4 := hT3.alloc (.cells #[.slice none 0 0] 26)
        have hQ4 := Blk.new w3 26 #[.slice none 0 0]
        have hbw4 := hbw3.alloc (by have := hbw3.size; omega) (.cells #[.slice none 0 0] 26)
        have hfs4 := (hfs3.below ((Below.refl w3.heap.size w3).alloc (Nat.le_refl _) (.cells #[.slice none 0 0] 26)))
        have kt0 := Blk.cell hT4 0
        simp only [List.getElem?_toArray, List.getElem?_cons_zero, List.getElem?_cons_succ] at kt0
        have HT4 := Lib.hid hT4
        have HQ4 := Lib.hid hQ4
        have Hbw4 := Lib.hid hbw4
        have Hfs4 := Lib.hid hfs4
        have HKM := Lib.hid hKM
        have Hbt := Lib.hid hbt
        clear hbt hKM hfs4 hbw4 hQ4 hT4
        clear hcase hb3 hT3 hbw3 hfs3
        go_wp2_with fail
        refine (bounded_any _ fs _ _ Hfs4.out (by simp)).mono ?_
        rintro e w5 ⟨rfl, hb5⟩
        rw [Hbt.out]
        have hQ5 := HQ4.out.below hb5 (by simp)
        have hbw5 := Hbw4.out.trans (hb5.mono (by simp; omega))
        have kv0 := Blk.cell hQ5 0
        simp only [List.getElem?_toArray, List.getElem?_cons_zero, List.getElem?_cons_succ] at kv0
        have HQ5 := Lib.hid hQ5
        have Hbw5 := Lib.hid hbw5
        clear hbw5 hQ5
        clear hb5 kt0
        go_wp2_with fail
        go_ret
        exact ⟨rfl, Hbw5.out⟩
end Go.Proofs.Ytcaefdfdngecdaa

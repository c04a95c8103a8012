/- The walk of the law WordBytes. Conditions: what the law's arguments are read as. -/
import Derived.Test.YtehfkddigjmkkaaRefBytes
import Derived.BigQuiet
import Derived.Deep.RegionHeld3
import Derived.Deep.DeepCutAuto
set_option linter.unusedVariables false
set_option linter.unusedSimpArgs false
namespace Go.Proofs.Ytehfkddigjmkkaa
open Go.RowKit

theorem strOfNums_append (a b : List Int) : strOfNums a ++ strOfNums b = strOfNums (a ++ b) := by
  apply ByteArray.ext
  simp [strOfNums, ByteArray.data_append]
theorem reads_sub {w : World} {B n k m : Nat} {ad : Addr} {xs : List Int} (h : Reads w B 1 (some ad) n (xs.map (Value.int .u8))) (hk : k + m ≤ n) : Reads w B 1 (some (ad.add k)) m (((xs.drop k).take m).map (Value.int .u8)) := by
  have hl : xs.length = n := by simpa using h.1
  refine ⟨by simp; omega, fun hm => ?_⟩
  obtain ⟨ad', e, hb, hc⟩ := h.2 (by omega)
  injection e with e
  subst e
  refine ⟨_, rfl, by rw [block_of_add]; exact hb, fun j u hu => ?_⟩
  rw [add_of_add]
  have hj : j < m := by have := (List.getElem?_eq_some_iff.1 hu).1; simp at this; omega
  refine hc _ u ?_
  rw [List.getElem?_map, List.getElem?_take_of_lt hj, List.getElem?_drop] at hu
  rw [List.getElem?_map]; exact hu
theorem conv_own (w : World) {base n : Nat} {sv : Value} {xs : List Int} (h : w.ownsRow base 5 1 sv n (byteVals xs)) : (convert 32 9 sv).run Try.prog w = .ok (.string (strOfNums xs)) w := by
  obtain ⟨A, cap, rfl, _, _, hr⟩ := own_any h
  exact run_conv_reads w _ _ _ Try.underlying32 Try.underlying5 Try.underlying9 hr
set_option maxRecDepth 100000 in
set_option maxHeartbeats 1000000 in
theorem bytes_core (w : World) (A0 : Option Addr) (n0 c0 : Nat) (z0 : List Int) (r0 : Reads w w.heap.size 1 A0 n0 (byteVals z0)) (l0 : z0.length = n0) (nc0 : n0 ≤ c0) (rc0 : c0 * 1 ≤ 140737488351232) (w0 : ∀ z ∈ z0, 0 ≤ z ∧ z < 256)
    (v : Int) (hv : U64 v) (at_ : Int) :
    Calls Try.prog 5 #[.slice A0 n0 c0, .int .u64 v, .int .i64 at_] w fun e w' => e = .returned (.bool true) ∧ Below w.heap.size w w' := by
  have L0 := Lib.hid l0
  clear l0
  go_enter Try.func5, Try.ntmps5
  go_wp2_with fail
  refine (first_true _).mono ?_
  rintro e w1 ⟨rfl, hbw⟩
  have hr1 := r0.below hbw
  have hcv := fun W => run_conv_reads (P := Try.prog) W 32 9 5 Try.underlying32 Try.underlying5 Try.underlying9 (B := w.heap.size) (n := n0) (c := c0) (A := A0) (xs := z0)
  have hcv1 := hcv w1 hr1
  have HCV := Lib.hid hcv
  clear hcv
  go_wp2_with fail
  refine (put_any A0 n0 c0 (byteVals z0) v w1 w.heap.size hr1 (byteVals_one _) (by omega) hbw.size hv).mono ?_
  rintro e w2 ⟨sv, rfl, hown, hbw2⟩
  obtain ⟨A, cap, rfl, hnc, hcm, hr⟩ := own_any hown
  have HCV1 := Lib.hid hcv1
  clear hcv1
  have hr' : Reads w2 w2.heap.size 1 A (n0 + 8) ((z0 ++ bytesLE 8 v).map (Value.int .u8)) := by simpa [byteVals] using hr
  have hbd : ∀ x ∈ z0 ++ bytesLE 8 v, 0 ≤ x ∧ x < 256 := fun x hx => (List.mem_append.1 hx).elim (w0 x) (bytesLE_bd _ _ x)
  have HBD := Lib.hid hbd
  have HV : Hid (leV (((z0 ++ bytesLE 8 v).drop n0).take 8) = v) := by
    show leV _ = v
    rw [List.drop_append, List.drop_of_length_le (by have := L0.out; omega), List.nil_append, L0.out, Nat.sub_self, List.drop_zero, List.take_of_length_le (by rw [bytesLE_length]; omega), leV_bytes8 _ hv]
  clear hbd
  go_wp2_with fail
  refine (take_as A _ cap n0 _ v _ w2 _ hr' HBD.out rfl (by omega) hnc hcm HV.out).mono ?_
  rintro e w' ⟨rfl, rfl⟩
  go_upto_region 6 with fail
  have hsum : ∀ W, (Op.stringOp .add (strOfNums z0) (strOfNums (bytesLE 8 v))).run Try.prog W = .ok (.string (strOfNums (z0 ++ bytesLE 8 v))) W := fun W => by
    rw [run_string_add_sum W _ _ (by rw [strOfNums_size, strOfNums_size, bytesLE_length, L0.out]; omega), strOfNums_append]
  go_cut [49] (fun r wx => r = .bool false ∧ Below w2.heap.size w2 wx)
  case first =>
    refine wp_region_noPanic ?_
    refine wp_region_held_drew (S := fun W => (convert 32 9 (.slice A0 n0 c0)).run Try.prog W = .ok (.string (strOfNums z0)) W ∧ (convert 32 9 (.slice A (n0 + 8) cap)).run Try.prog W = .ok (.string (strOfNums (z0 ++ bytesLE 8 v))) W) (by kernel_rfl)
      ⟨HCV.out _ (hr1.below (hbw2.mono hbw.size)).drew, run_conv_reads _ _ _ _ Try.underlying32 Try.underlying5 Try.underlying9 hr'.drew⟩ (fun hHeld => ?_)
    refine wpAnyH_take (i := 0) (v := ?_) rfl (by kernel_rfl) (by kernel_rfl) (by kernel_rfl) (fun _ _ _ h => h) (Or.inl ⟨by rfl, ?_⟩) (by assumption) ?_
    rotate_left
    · intro w hSw; (try dsimp only at hSw); go_simp; try with_reducible rfl
    simp only [Act.put, List.getElem_toArray, List.getElem_cons_zero, List.getElem_cons_succ, List.setIfInBounds_toArray, List.set_cons_zero, List.set_cons_succ]
    refine wpAnyH_take (i := 1) (v := ?_) rfl (by kernel_rfl) (by kernel_rfl) (by kernel_rfl) (fun _ _ _ h => h) (Or.inl ⟨by rfl, ?_⟩) (by assumption) ?_
    rotate_left
    · intro w hSw; (try dsimp only at hSw); go_simp; try with_reducible rfl
    simp only [Act.put, List.getElem_toArray, List.getElem_cons_zero, List.getElem_cons_succ, List.setIfInBounds_toArray, List.set_cons_zero, List.set_cons_succ]
    refine wpAnyH_take (i := 2) (v := ?_) rfl (by kernel_rfl) (by kernel_rfl) (by kernel_rfl) (fun _ _ _ h => h) (Or.inl ⟨by rfl, ?_⟩) (by assumption) ?_
    rotate_left
    · intro w hSw; (try dsimp only at hSw); go_simp; try with_reducible rfl
    simp only [Act.put, List.getElem_toArray, List.getElem_cons_zero, List.getElem_cons_succ, List.setIfInBounds_toArray, List.set_cons_zero, List.set_cons_succ]
    refine wpAnyH_take (i := 3) (v := ?_) rfl (by kernel_rfl) (by kernel_rfl) (by kernel_rfl) (fun _ _ _ h => h) (Or.inl ⟨by rfl, ?_⟩) (by assumption) ?_
    rotate_left
    · intro w hSw; (try dsimp only at hSw); go_simp; try with_reducible rfl
    simp only [Act.put, List.getElem_toArray, List.getElem_cons_zero, List.getElem_cons_succ, List.setIfInBounds_toArray, List.set_cons_zero, List.set_cons_succ]
    refine wpAnyH_take (i := 4) (v := ?_) rfl (by kernel_rfl) (by kernel_rfl) (by kernel_rfl) (fun _ _ _ h => h) (Or.inl ⟨by rfl, ?_⟩) (by assumption) ?_
    rotate_left
    · intro w hSw; (try dsimp only at hSw); go_simp; try with_reducible rfl
    simp only [Act.put, List.getElem_toArray, List.getElem_cons_zero, List.getElem_cons_succ, List.setIfInBounds_toArray, List.set_cons_zero, List.set_cons_succ]
    refine wpAnyH_take (i := 5) (v := ?_) rfl (by kernel_rfl) (by kernel_rfl) (by kernel_rfl) (fun _ _ _ h => h) (Or.inl ⟨by rfl, ?_⟩) (by assumption) ?_
    rotate_left
    · intro w hSw; (try dsimp only at hSw); go_simp; try with_reducible rfl
    simp only [Act.put, List.getElem_toArray, List.getElem_cons_zero, List.getElem_cons_succ, List.setIfInBounds_toArray, List.set_cons_zero, List.set_cons_succ]
    refine wpAnyH_take (i := 6) (v := ?_) rfl (by kernel_rfl) (by kernel_rfl) (by kernel_rfl) (fun _ _ _ h => h) (Or.inl ⟨by rfl, ?_⟩) (by assumption) ?_
    rotate_left
    · intro w hSw; (try dsimp only at hSw); go_simp; try with_reducible rfl
    simp only [Act.put, List.getElem_toArray, List.getElem_cons_zero, List.getElem_cons_succ, List.setIfInBounds_toArray, List.set_cons_zero, List.set_cons_succ]
    refine wpAnyH_take (i := 7) (v := ?_) rfl (by kernel_rfl) (by kernel_rfl) (by kernel_rfl) (fun _ _ _ h => h) (Or.inl ⟨by rfl, ?_⟩) (by assumption) ?_
    rotate_left
    · intro w hSw; (try dsimp only at hSw); go_simp; try with_reducible rfl
    simp only [Act.put, List.getElem_toArray, List.getElem_cons_zero, List.getElem_cons_succ, List.setIfInBounds_toArray, List.set_cons_zero, List.set_cons_succ]
    refine wpAnyH_take (i := 8) (v := ?_) rfl (by kernel_rfl) (by kernel_rfl) (by kernel_rfl) (fun _ _ _ h => h) (Or.inl ⟨by rfl, ?_⟩) (by assumption) ?_
    rotate_left
    · intro w hSw; (try dsimp only at hSw); go_simp; try with_reducible rfl
    simp only [Act.put, List.getElem_toArray, List.getElem_cons_zero, List.getElem_cons_succ, List.setIfInBounds_toArray, List.set_cons_zero, List.set_cons_succ]
    refine wpAnyH_ready (rs := [9]) (by kernel_rfl) (by simp) ?_
    refine AllReadyH.cons rfl (fun K hK => ?_) AllReadyH.nil
    go_simp
    refine (refBytes_any v _ hv).mono ?_
    rintro e w3 ⟨sv, rfl, hown3, hbw3⟩
    refine hK.out _ _ ⟨HCV.out _ ((hr1.below (hbw2.mono hbw.size)).drew.below (hbw3.mono (Nat.le_trans hbw.size hbw2.size))), run_conv_reads _ _ _ _ Try.underlying32 Try.underlying5 Try.underlying9 (hr'.drew.below hbw3)⟩ (fun hHeld2 => ?_)
    clear hK K hHeld
    try simp only [Act.put, List.getElem_toArray, List.getElem_cons_zero, List.getElem_cons_succ, List.setIfInBounds_toArray, List.set_cons_zero, List.set_cons_succ]
    refine wpAnyH_strong (S' := fun W => ((convert 32 9 (.slice A0 n0 c0)).run Try.prog W = .ok (.string (strOfNums z0)) W ∧ (convert 32 9 (.slice A (n0 + 8) cap)).run Try.prog W = .ok (.string (strOfNums (z0 ++ bytesLE 8 v))) W) ∧ (convert 32 9 sv).run Try.prog W = .ok (.string (strOfNums (bytesLE 8 v))) W) (fun W h => h.1) _ _ _ _ ?_
    have hHeld3 := And.intro hHeld2 (conv_own w3 hown3)
    clear hHeld2
    refine wpAnyH_take (i := 10) (v := ?_) rfl (by kernel_rfl) (by kernel_rfl) (by kernel_rfl) (fun _ _ _ h => h) (Or.inl ⟨by rfl, ?_⟩) (by assumption) ?_
    rotate_left
    · intro w hSw; (try dsimp only at hSw); go_simp; try with_reducible rfl
    simp only [Act.put, List.getElem_toArray, List.getElem_cons_zero, List.getElem_cons_succ, List.setIfInBounds_toArray, List.set_cons_zero, List.set_cons_succ]
    refine wpAnyH_take (i := 11) (v := ?_) rfl (by kernel_rfl) (by kernel_rfl) (by kernel_rfl) (fun _ _ _ h => h) (Or.inl ⟨by rfl, ?_⟩) (by assumption) ?_
    rotate_left
    · intro w hSw; (try dsimp only at hSw); go_simp; try with_reducible rfl
    simp only [Act.put, List.getElem_toArray, List.getElem_cons_zero, List.getElem_cons_succ, List.setIfInBounds_toArray, List.set_cons_zero, List.set_cons_succ]
    refine wpAnyH_take (i := 12) (v := ?_) rfl (by kernel_rfl) (by kernel_rfl) (by kernel_rfl) (fun _ _ _ h => h) (Or.inl ⟨by rfl, ?_⟩) (by assumption) ?_
    rotate_left
    · intro w hSw; (try dsimp only at hSw); go_simp; try with_reducible rfl
    simp only [Act.put, List.getElem_toArray, List.getElem_cons_zero, List.getElem_cons_succ, List.setIfInBounds_toArray, List.set_cons_zero, List.set_cons_succ]
    refine wpAnyH_take (i := 13) (v := ?_) rfl (by kernel_rfl) (by kernel_rfl) (by kernel_rfl) (fun _ _ _ h => h) (Or.inl ⟨by rfl, ?_⟩) (by assumption) ?_
    rotate_left
    · intro w hSw; (try dsimp only at hSw); go_simp; try with_reducible rfl
    simp only [Act.put, List.getElem_toArray, List.getElem_cons_zero, List.getElem_cons_succ, List.setIfInBounds_toArray, List.set_cons_zero, List.set_cons_succ]
    refine wpAnyH_take (i := 14) (v := ?_) rfl (by kernel_rfl) (by kernel_rfl) (by kernel_rfl) (fun _ _ _ h => h) (Or.inl ⟨by rfl, ?_⟩) (by assumption) ?_
    rotate_left
    · intro w hSw; (try dsimp only at hSw); go_simp; try with_reducible rfl
    simp only [Act.put, List.getElem_toArray, List.getElem_cons_zero, List.getElem_cons_succ, List.setIfInBounds_toArray, List.set_cons_zero, List.set_cons_succ]
    refine wpAnyH_take (i := 15) (v := ?_) rfl (by kernel_rfl) (by kernel_rfl) (by kernel_rfl) (fun _ _ _ h => h) (Or.inl ⟨by rfl, ?_⟩) (by assumption) ?_
    rotate_left
    · intro w hSw; (try dsimp only at hSw); go_simp; try with_reducible rfl
    simp only [Act.put, List.getElem_toArray, List.getElem_cons_zero, List.getElem_cons_succ, List.setIfInBounds_toArray, List.set_cons_zero, List.set_cons_succ]
    refine wpAnyH_take (i := 16) (v := ?_) rfl (by kernel_rfl) (by kernel_rfl) (by kernel_rfl) (fun _ _ _ h => h) (Or.inl ⟨by rfl, ?_⟩) (by assumption) ?_
    rotate_left
    · intro w hSw; (try dsimp only at hSw); go_simp; try with_reducible rfl
    simp only [Act.put, List.getElem_toArray, List.getElem_cons_zero, List.getElem_cons_succ, List.setIfInBounds_toArray, List.set_cons_zero, List.set_cons_succ]
    refine wpAnyH_take (i := 17) (v := ?_) rfl (by kernel_rfl) (by kernel_rfl) (by kernel_rfl) (fun _ _ _ h => h) (Or.inl ⟨by rfl, ?_⟩) (by assumption) ?_
    rotate_left
    · intro w hSw; (try dsimp only at hSw); go_simp; try with_reducible rfl
    simp only [Act.put, List.getElem_toArray, List.getElem_cons_zero, List.getElem_cons_succ, List.setIfInBounds_toArray, List.set_cons_zero, List.set_cons_succ]
    refine wpAnyH_take (i := 18) (v := ?_) rfl (by kernel_rfl) (by kernel_rfl) (by kernel_rfl) (fun _ _ _ h => h) (Or.inl ⟨by rfl, ?_⟩) (by assumption) ?_
    rotate_left
    · intro w hSw; (try dsimp only at hSw); go_simp; try with_reducible rfl
    simp only [Act.put, List.getElem_toArray, List.getElem_cons_zero, List.getElem_cons_succ, List.setIfInBounds_toArray, List.set_cons_zero, List.set_cons_succ]
    refine wpAnyH_take (i := 19) (v := ?_) rfl (by kernel_rfl) (by kernel_rfl) (by kernel_rfl) (fun _ _ _ h => h) (Or.inl ⟨by rfl, ?_⟩) (by assumption) ?_
    rotate_left
    · intro w hSw; (try dsimp only at hSw); go_simp; try with_reducible rfl
    simp only [Act.put, List.getElem_toArray, List.getElem_cons_zero, List.getElem_cons_succ, List.setIfInBounds_toArray, List.set_cons_zero, List.set_cons_succ]
    refine wpAnyH_take (i := 20) (v := ?_) rfl (by kernel_rfl) (by kernel_rfl) (by kernel_rfl) (fun _ _ _ h => h) (Or.inl ⟨by rfl, ?_⟩) (by assumption) ?_
    rotate_left
    · intro w hSw; (try dsimp only at hSw); go_simp; try with_reducible rfl
    simp only [Act.put, List.getElem_toArray, List.getElem_cons_zero, List.getElem_cons_succ, List.setIfInBounds_toArray, List.set_cons_zero, List.set_cons_succ]
    refine wpAnyH_take (i := 21) (v := ?_) rfl (by kernel_rfl) (by kernel_rfl) (by kernel_rfl) (fun _ _ _ h => h) (Or.inl ⟨by rfl, ?_⟩) (by assumption) ?_
    rotate_left
    · intro w hSw; (try dsimp only at hSw); go_simp; try with_reducible rfl
    simp only [Act.put, List.getElem_toArray, List.getElem_cons_zero, List.getElem_cons_succ, List.setIfInBounds_toArray, List.set_cons_zero, List.set_cons_succ]
    refine wpAnyH_take (i := 22) (v := ?_) rfl (by kernel_rfl) (by kernel_rfl) (by kernel_rfl) (fun _ _ _ h => h) (Or.inl ⟨by rfl, ?_⟩) (by assumption) ?_
    rotate_left
    · intro w hSw; (try dsimp only at hSw); go_simp; try with_reducible rfl
    simp only [Act.put, List.getElem_toArray, List.getElem_cons_zero, List.getElem_cons_succ, List.setIfInBounds_toArray, List.set_cons_zero, List.set_cons_succ]
    refine wpAnyH_done (by kernel_rfl) ?_ _
    refine NoPanic.normal ?_
    go_wp2_with fail
    go_meet
    exact ⟨rfl, (Below.refl _ w2).drew.trans hbw3⟩
  case rest =>
    obtain ⟨rfl, hbw4⟩ := hcut
    have hr4 := hr'.below hbw4
    have hfin : Below w.heap.size w wc := hbw.trans ((hbw2.mono hbw.size).trans (hbw4.mono (Nat.le_trans hbw.size hbw2.size)))
    by_cases h1 : at_ < 0
    · have hd : decide (at_ < 0) = true := by simpa using h1
      go_wp2_with fail
      refine (take_out A _ cap at_ wc (by omega) (.inl h1)).mono ?_
      rintro e w' ⟨rfl, rfl⟩
      go_wp2_with fail
      go_ret
      exact ⟨rfl, hfin⟩
    · have hd : decide (at_ < 0) = false := by simpa using h1
      by_cases h2 : (n0 : Int) < at_
      · have hd2 : decide ((n0 : Int) < at_) = true := by simpa using h2
        go_wp2_with fail
        refine (take_out A _ cap at_ wc (by omega) (.inr (by omega))).mono ?_
        rintro e w' ⟨rfl, rfl⟩
        go_wp2_with fail
        go_ret
        exact ⟨rfl, hfin⟩
      · obtain ⟨k, rfl⟩ := Int.eq_ofNat_of_zero_le (show 0 ≤ at_ by omega)
        have hk : k ≤ n0 := by omega
        have hd2 : decide ((n0 : Int) < (k : Int)) = false := by simpa using h2
        obtain ⟨ad, rfl, hadb, _⟩ := hr4.2 (by omega)
        have hs := reads_sub hr4 (k := k) (m := 8) (by omega)
        have hbd8 : ∀ x ∈ ((z0 ++ bytesLE 8 v).drop k).take 8, 0 ≤ x ∧ x < 256 := fun x hx => HBD.out x (List.mem_of_mem_drop (List.mem_of_mem_take hx))
        have HB8 := Lib.hid hbd8
        clear hbd8 h1 h2
        unfold maxLen at hcm
        go_wp2_with fail
        refine (take_as (some ad) _ cap k _ _ _ wc _ hr4 HBD.out rfl (by omega) hnc (by unfold maxLen; omega) rfl).mono ?_
        rintro e w' ⟨rfl, rfl⟩
        go_wp2_with fail
        refine (refWord_n (some (ad.add k)) _ _ (by omega) _ wc _ hs HB8.out (by omega)).mono ?_
        rintro e w' ⟨rfl, rfl⟩
        go_wp2_with fail
        go_ret
        exact ⟨rfl, hfin⟩
theorem walk_WordBytes (w : World) (A0 : Option Addr) (n0 c0 : Nat) (z0 : List Int) (r0 : Reads w w.heap.size 1 A0 n0 (z0.map (Value.int .u8))) (l0 : z0.length = n0) (nc0 : n0 ≤ c0) (cm0 : c0 ≤ maxLen) (rc0 : c0 * 1 ≤ 140737488351232) (w0 : ∀ z ∈ z0, (Lit.int .u8 z).wf = true) (a1 : Int) (w1 : (Lit.int .u64 a1).wf = true) (a2 : Int) (w2 : (Lit.int .i64 a2).wf = true) :
    Calls Try.prog 5 #[.slice A0 n0 c0, .int .u64 a1, .int .i64 a2] w fun e w' => e = .returned (.bool true) ∧ Below w.heap.size w w' :=
  bytes_core w A0 n0 c0 z0 r0 l0 nc0 rc0 (fun z hz => by have := bounds_u8 (w0 z hz); omega) a1 (u64_of_wf w1) a2
end Go.Proofs.Ytehfkddigjmkkaa

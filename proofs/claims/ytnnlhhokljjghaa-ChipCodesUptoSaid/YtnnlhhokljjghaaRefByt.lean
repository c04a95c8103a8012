/- Walk of the document's Bytes: an instruction's bytes. Conditions: numbers fit their kinds. -/
import Derived.Test.YtnnlhhokljjghaaRefIs
set_option linter.unusedVariables false
set_option linter.unusedSimpArgs false
namespace Go.Proofs.Ytnnlhhokljjghaa
open Go.RowKit

theorem div_pow256 (v : Int) (k : Nat) : v / 256 ^ k / 256 = v / 256 ^ (k + 1) := by
  rw [Int.ediv_ediv_of_nonneg (Int.le_of_lt (Int.pow_pos (by omega))), ← Int.pow_succ]
/-- the bytes that the document makes -/
def rbytes (i : MInstD) : List Int := [i.op, i.d % 256, i.a % 256, i.b % 256] ++ bytesLE 4 (i.imm % 4294967296)
theorem rbytes_len (i : MInstD) : (rbytes i).length = 8 := by simp [rbytes, bytesLE_length]
theorem rbytes_good {i : MInstD} (h : goodP i = true) : rbytes i = mbytes i := by
  obtain ⟨h1, h2, h3⟩ := good_regs h
  unfold rbytes mbytes
  rw [show i.d % 256 = i.d by omega, show i.a % 256 = i.a by omega, show i.b % 256 = i.b by omega]
set_option maxRecDepth 100000 in
set_option maxHeartbeats 4000000 in
theorem refbytes_any (i : MInstD) (hw : i.Wf) (w : World) :
    Calls Try.prog 12 #[.agg (mcells i).toArray] w fun e w' => ∃ sv, e = .returned sv ∧ w'.ownsRow w.heap.size 5 1 sv 8 (byteVals (rbytes i)) ∧ Below w.heap.size w w' := by
  obtain ⟨i0, hi0, hz0, hz1, hz2⟩ := info_parts infoU8
  obtain ⟨op, d, a, b, imm⟩ := i
  obtain ⟨⟨ho0, ho1⟩, ⟨hd0, hd1⟩, ⟨ha0, ha1⟩, ⟨hb0, hb1⟩, ⟨hi0', hi1'⟩⟩ := hw
  simp only at *
  obtain ⟨V, hV⟩ : ∃ V, V = imm % 4294967296 := ⟨_, rfl⟩
  have hV0 : 0 ≤ V := by omega
  have hV1 : V < 4294967296 := by omega
  have hneg : imm < 0 → imm + 4294967296 = V := by omega
  have hpos : ¬ imm < 0 → imm = V := by omega
  have HP : Hid (∀ k : Nat, 0 ≤ V / 256 ^ k ∧ V / 256 ^ k < 4294967296) := fun k => ⟨Int.ediv_nonneg hV0 (Int.le_of_lt (Int.pow_pos (by omega))), Int.lt_of_le_of_lt (Int.ediv_le_self _ hV0) hV1⟩
  have hP0 := Blk.new w 30 #[.int .u8 op, .int .i64 d, .int .i64 a, .int .i64 b, .int .i32 imm]
  have kp0 := Blk.cell hP0 0
  have kp1 := Blk.cell hP0 1
  have kp2 := Blk.cell hP0 2
  have kp3 := Blk.cell hP0 3
  have kp4 := Blk.cell hP0 4
  simp only [List.getElem?_toArray, List.getElem?_cons_zero, List.getElem?_cons_succ] at kp0 kp1 kp2 kp3 kp4
  have hQ0 := Blk.new2 w (.cells #[.int .u8 op, .int .i64 d, .int .i64 a, .int .i64 b, .int .i32 imm] 30) 5 #[.int .u8 op, .int .u8 (d % 256), .int .u8 (a % 256), .int .u8 (b % 256)]
  obtain ⟨L4, hL4⟩ : ∃ L4, L4 = [op, d % 256, a % 256, b % 256] := ⟨_, rfl⟩
  have hrb : rbytes ⟨op, d, a, b, imm⟩ = L4 ++ bytesLE 4 V := by simp only [rbytes, hV, hL4]
  have hb00 : Below w.heap.size w ((w.alloc (.cells #[.int .u8 op, .int .i64 d, .int .i64 a, .int .i64 b, .int .i32 imm] 30)).alloc (.cells #[.int .u8 op, .int .u8 (d % 256), .int .u8 (a % 256), .int .u8 (b % 256)] 5)) := ((Below.refl _ _).alloc (Nat.le_refl _) _).alloc (by simp) _
  have hown0 : ((w.alloc (.cells #[.int .u8 op, .int .i64 d, .int .i64 a, .int .i64 b, .int .i32 imm] 30)).alloc (.cells #[.int .u8 op, .int .u8 (d % 256), .int .u8 (a % 256), .int .u8 (b % 256)] 5)).ownsRow w.heap.size 5 1 (.slice (some ⟨w.heap.size + 1, 0, none⟩) 4 4) (4 + 0) (byteVals (L4 ++ bytesLE 0 V)) := by rw [hL4]; exact own_of_blk hQ0 (by omega) rfl rfl (by unfold maxLen; omega)
  rw [hrb]
  show Calls Try.prog 12 #[.agg #[.int .u8 op, .int .i64 d, .int .i64 a, .int .i64 b, .int .i32 imm]] w _
  have kp4' : ((w.alloc (.cells #[.int .u8 op, .int .i64 d, .int .i64 a, .int .i64 b, .int .i32 imm] 30)).alloc (.cells #[.int .u8 op, .int .u8 (d % 256), .int .u8 (a % 256), .int .u8 (b % 256)] 5)).cell? ⟨w.heap.size, 4, none⟩ = some (.int .i32 imm) := by
    have := (hP0.alloc (.cells #[.int .u8 op, .int .u8 (d % 256), .int .u8 (a % 256), .int .u8 (b % 256)] 5)).cell 4
    exact this
  have HL4 := Lib.hid hL4
  have Hrb := Lib.hid hrb
  have HP0 := Lib.hid hP0
  have HQ0 := Lib.hid hQ0
  have Hb00 := Lib.hid hb00
  have Hown0 := Lib.hid hown0
  have HV := Lib.hid hV
  have Hneg := Lib.hid hneg
  have Hpos := Lib.hid hpos
  clear hpos hneg hV hown0 hb00 hQ0 hP0 hrb hL4
  go_enter Try.func12, Try.ntmps12
  go_upto_if 22 with (fail)
  obtain ⟨W, hW⟩ : ∃ W, W = ((w.alloc (.cells #[.int .u8 op, .int .i64 d, .int .i64 a, .int .i64 b, .int .i32 imm] 30)).alloc (.cells #[.int .u8 op, .int .u8 (d % 256), .int .u8 (a % 256), .int .u8 (b % 256)] 5)) := ⟨_, rfl⟩
  have hown1 := Hown0.out
  have hbw1 := Hb00.out
  rw [← hW] at hown1 hbw1 kp4' ⊢
  have HW := Lib.hid hW
  have Hown1 := Lib.hid hown1
  have Hbw1 := Lib.hid hbw1
  clear hbw1 hown1 hW
  go_cut [4] from 21 to 24 (fun v wx => v = .int .i64 V ∧ wx = W)
  case first =>
    by_cases hi : imm < 0
    · have hh := Hneg.out hi
      go_wp2_with fail
      go_meet
      exact ⟨rfl, rfl⟩
    · have hh := Hpos.out hi
      subst hh
      go_wp2_with fail
      go_meet
      exact ⟨rfl, rfl⟩
  case rest =>
    obtain ⟨hv1, hw1⟩ := hcut
    subst hv1 hw1
    go_wp2_with fail
    go_loopw [3, 4, 5] (fun s x i wr => ∃ k : Nat, k ≤ 4 ∧ i = .int .i64 k ∧ x = .int .i64 (V / 256 ^ k) ∧ wr.ownsRow w.heap.size 5 1 s (4 + k) (byteVals (L4 ++ bytesLE k V)) ∧ Below w.heap.size w wr) (fun _ _ i _ => 4 - (intOf i).toNat)
    case atStart => exact ⟨0, by omega, rfl, by simp, Hown1.out, Hbw1.out⟩
    case round =>
      obtain ⟨k, hk, rfl, rfl, hown, hbw⟩ := hrel
      by_cases hlt : k < 4
      · have hsz := hbw.size
        obtain ⟨hp, hp1⟩ := HP.out k
        obtain ⟨y, hy⟩ : ∃ y, V / 256 ^ k = y := ⟨_, rfl⟩
        have ht : y / 256 = V / 256 ^ (k + 1) := by rw [← hy, div_pow256]
        have hyt : y.tdiv 256 = y / 256 := Int.tdiv_eq_ediv_of_nonneg (by rw [← hy]; exact hp)
        have hym : y.tmod 256 = y % 256 := Int.tmod_eq_emod_of_nonneg (by rw [← hy]; exact hp)
        have e : byteVals (L4 ++ bytesLE (k + 1) V) = byteVals (L4 ++ bytesLE k V) ++ [.int .u8 (y % 256)] := by
          rw [bytesLE_snoc]; simp [byteVals, byteAt, hy]
        rw [hy] at hp hp1 ⊢
        have Ht := Lib.hid ht
        have He := Lib.hid e
        have Hy := Lib.hid hy
        clear hy e ht
        go_wp2_with (first
          | (at_builtin
             refine wpList_append_any _ rfl (.tmp 29) (.tmp 33) _ rfl w.heap.size 5 i0 _ 1 1 Try.underlying23 hi0 hz0 hz1 hz2 rfl (by omega) _ (4 + k) (byteVals (L4 ++ bytesLE k V)) rfl
               (hown.alloc _) _ (some ⟨wr.heap.size, 0, none⟩) 1 1 [.int .u8 _] rfl (Reads.new1 _ _ _) ?c1 ?c2 ?c3 ?c4 ?_
             case c1 => intro u hu; simp only [List.mem_singleton] at hu; subst hu; rfl
             case c2 => simp only [maxLen]; omega
             case c3 => omega
             case c4 => simp; omega
             intro v2 w2 hown2 hg2 hat2))
        refine ⟨⟨k + 1, by omega, by go_num, ?_, ?_, (hbw.alloc hsz _).grown hg2 (by simp; omega) (fun g hg => (hown.lt g hg).1)⟩, by simp [intOf]; omega⟩
        · rw [← Ht.out]
        · rw [He.out]
          exact hown2
      · obtain rfl : k = 4 := by omega
        have Hown := Lib.hid hown
        have Hbw := Lib.hid hbw
        clear hbw hown
        go_wp2_with fail
        go_ret
        exact ⟨_, rfl, Hown.out, Hbw.out⟩
end Go.Proofs.Ytnnlhhokljjghaa

/- What the operations of a word make, in plain numbers: the function doV (the word) and doE (the error). No condition. -/
import Derived.RowKit
import Derived.Laws.BitsAllLaws
import Derived.Laws.Bits64
set_option linter.unusedVariables false
set_option linter.unusedSimpArgs false
namespace Go.Proofs.Ytncpehhfjkncoaa
open Go.RowKit

/-- a word of 64 bits -/
def U64 (a : Int) : Prop := 0 ≤ a ∧ a < 18446744073709551616

/-- what an operation makes -/
def doV (op a b : Int) : Int :=
  if op = 7 then IntKind.u64.wrap (a + b)
  else if op = 8 then IntKind.u64.wrap (a - b)
  else if op = 9 then IntKind.u64.wrap (a * b)
  else if op = 10 then if b = 0 then 0 else IntKind.u64.wrap (wrap64 ((wrap64 a).tdiv (wrap64 b)))
  else if op = 11 then if b = 0 then 0 else IntKind.u64.wrap ((wrap64 a).tmod (wrap64 b))
  else if op = 12 then ((a.toNat &&& b.toNat : Nat) : Int)
  else if op = 13 then ((a.toNat ||| b.toNat : Nat) : Int)
  else if op = 14 then ((a.toNat ^^^ b.toNat : Nat) : Int)
  else if op = 15 then IntKind.u64.wrap (a * 2 ^ min b.toNat 64)
  else if op = 16 then a / 2 ^ min b.toNat 64
  else if op = 17 then IntKind.u64.wrap (wrap64 a / 2 ^ min b.toNat 63)
  else if op = 18 then if a = b then 1 else 0
  else if op = 19 then if wrap64 a < wrap64 b then 1 else 0
  else if op = 20 then if a < b then 1 else 0
  else 0
/-- the error -/
def doE (op b : Int) : Int :=
  if 7 ≤ op ∧ op ≤ 20 then if (op = 10 ∨ op = 11) ∧ b = 0 then 10 else 0 else 2
/-- bytes as a number, the lowest first -/
def leV : List Int → Int
  | [] => 0
  | x :: r => x + 256 * leV r
theorem leV_bd (l : List Int) (h : ∀ x ∈ l, 0 ≤ x ∧ x < 256) : 0 ≤ leV l ∧ leV l < 256 ^ l.length := by
  induction l with
  | nil => simp [leV]
  | cons x r ih =>
    obtain ⟨h1, h2⟩ := ih fun y hy => h y (List.mem_cons_of_mem _ hy)
    obtain ⟨h3, h4⟩ := h x List.mem_cons_self
    simp only [leV, List.length_cons, Int.pow_succ]
    exact ⟨by omega, by omega⟩
theorem leV_snoc (l : List Int) (x : Int) : leV (l ++ [x]) = leV l + x * 256 ^ l.length := by
  induction l with
  | nil => simp [leV]
  | cons y r ih =>
    simp only [List.cons_append, leV, ih, List.length_cons, Int.pow_succ, Int.mul_add]
    rw [Int.mul_comm (256 ^ r.length) 256, Int.mul_left_comm x 256]
    omega
theorem pow256 (k : Nat) : (256 : Int) ^ k = 2 ^ (8 * k) := by
  rw [show (256 : Int) = 2 ^ 8 from rfl, ← Int.pow_mul]
theorem natPow256 (k : Nat) : (256 : Nat) ^ k = 2 ^ (8 * k) := by
  rw [show (256 : Nat) = 2 ^ 8 from rfl, ← Nat.pow_mul]
theorem pow256_cases (k : Nat) (hk : k < 8) : (256 : Int) ^ k = 1 ∨ (256 : Int) ^ k = 256 ∨ (256 : Int) ^ k = 65536 ∨ (256 : Int) ^ k = 16777216 ∨ (256 : Int) ^ k = 4294967296 ∨ (256 : Int) ^ k = 1099511627776 ∨ (256 : Int) ^ k = 281474976710656 ∨ (256 : Int) ^ k = 72057594037927936 := by
  match k, hk with
  | 0, _ | 1, _ | 2, _ | 3, _ | 4, _ | 5, _ | 6, _ | 7, _ => simp
/-- one byte more -/
theorem or_step (v x : Int) (k : Nat) (hk : k < 8) (h0 : 0 ≤ v) (h1 : v < 256 ^ k) (hx0 : 0 ≤ x) (hx1 : x < 256) :
    bits .or .u64 v (IntKind.u64.wrap (x * 2 ^ (8 * k))) = v + x * 256 ^ k := by
  rw [← pow256]
  have hw : IntKind.u64.wrap (x * 256 ^ k) = x * 256 ^ k := by
    rw [IntKind.wrap_u64]
    rcases pow256_cases k hk with e | e | e | e | e | e | e | e <;> rw [e] <;> omega
  have hb : 0 ≤ x * 256 ^ k ∧ x * 256 ^ k < 18446744073709551616 ∧ v < 18446744073709551616 := by
    rcases pow256_cases k hk with e | e | e | e | e | e | e | e <;> rw [e] at h1 ⊢ <;> omega
  rw [hw, u64_or v _ h0 hb.2.2 hb.1 hb.2.1]
  obtain ⟨n, rfl⟩ := Int.eq_ofNat_of_zero_le h0
  obtain ⟨m, rfl⟩ := Int.eq_ofNat_of_zero_le hx0
  have hc : ((m : Int) * 256 ^ k).toNat = m * 256 ^ k := by
    rw [show ((m : Int) * 256 ^ k) = ((m * 256 ^ k : Nat) : Int) by simp, Int.toNat_natCast]
  rw [hc, Int.toNat_natCast, Nat.or_comm, nat_join (8 * k) (m * 256 ^ k) n (by rw [natPow256]; exact Nat.mul_mod_left _ _) (by
    have : ((n : Nat) : Int) < ((256 ^ k : Nat) : Int) := by simpa using h1
    rw [← natPow256]; omega)]
  simp [Int.add_comm]
/-- the byte at a place of a number; its first k bytes -/
def byteAt (v : Int) (i : Nat) : Int := v / 256 ^ i % 256
def bytesLE (k : Nat) (v : Int) : List Int := (List.range k).map (byteAt v)
theorem bytesLE_length (k : Nat) (v : Int) : (bytesLE k v).length = k := by simp [bytesLE]
theorem bytesLE_snoc (k : Nat) (v : Int) : bytesLE (k + 1) v = bytesLE k v ++ [byteAt v k] := by
  simp [bytesLE, List.range_succ]
theorem bytesLE_bd (k : Nat) (v : Int) : ∀ x ∈ bytesLE k v, 0 ≤ x ∧ x < 256 := by
  intro x hx
  simp only [bytesLE, List.mem_map] at hx
  obtain ⟨i, _, rfl⟩ := hx
  unfold byteAt; omega
theorem leV_bytes (k : Nat) (v : Int) (h0 : 0 ≤ v) : leV (bytesLE k v) = v % 256 ^ k := by
  induction k with
  | zero => simp [bytesLE, leV]
  | succ k ih =>
    rw [bytesLE_snoc, leV_snoc, ih, bytesLE_length]
    unfold byteAt
    obtain ⟨n, rfl⟩ := Int.eq_ofNat_of_zero_le h0
    have h := Nat.mod_mul (a := 256 ^ k) (b := 256) (x := n)
    rw [← Nat.pow_succ, Nat.mul_comm (256 ^ k)] at h
    have h' := congrArg (fun x : Nat => (x : Int)) h
    simpa using h'.symm
theorem leV_bytes8 (v : Int) (h : U64 v) : leV (bytesLE 8 v) = v := by
  unfold U64 at h
  rw [leV_bytes 8 v h.1]
  exact Int.emod_eq_of_lt h.1 (by have := h.2; simpa using this)
theorem byte_wrap (v : Int) (k : Nat) : IntKind.u8.wrap (v / 2 ^ (8 * k)) = byteAt v k := by
  rw [← pow256, IntKind.wrap_u8', byteAt]
end Go.Proofs.Ytncpehhfjkncoaa

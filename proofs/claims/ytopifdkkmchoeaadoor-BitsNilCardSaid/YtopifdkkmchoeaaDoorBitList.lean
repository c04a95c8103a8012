/- Walks of the sets of numbers: Len of one set, TrailingZeros64, List. Conditions: the set's blocks are known, each word has one bit at most, the table of package math/bits is laid. -/
import Derived.Test.YtopifdkkmchoeaaDoorBitOps
set_option linter.unusedVariables false
set_option linter.unusedSimpArgs false
namespace Go.Proofs.YtopifdkkmchoeaaDoor
open Go.RowKit

set_option maxHeartbeats 400000 in
theorem len_first (g h : Nat) (w : World) (hc1 : w.cell? ⟨g, 1, none⟩ = some (.slice (some ⟨h, 0, none⟩) 2 2)) (h0 : w.cell? ⟨h, 0, none⟩ = some (.int .u64 0)) (h1 : w.cell? ⟨h, 1, none⟩ = some (.int .u64 32)) :
    Calls Tryd.prog 9 #[.pointer (some ⟨g, 0, none⟩)] w fun e w' => e = .returned (.int .i64 1) ∧ w = w' := by
  go_enter Tryd.func9, Tryd.ntmps9
  go_wp2_with fail
  go_loop [3, 13] (fun s i => s = .int .i64 0 ∧ i = .int .i64 0 ∨ s = .int .i64 0 ∧ i = .int .i64 1 ∨ s = .int .i64 1 ∧ i = .int .i64 2) (fun _ i => 2 - (intOf i).toNat)
  case atStart => exact .inl ⟨rfl, rfl⟩
  case round =>
    rcases hrel with ⟨rfl, rfl⟩ | ⟨rfl, rfl⟩ | ⟨rfl, rfl⟩
    · go_wp2_with fail
      refine (ones_0 _).mono ?_
      rintro e w' ⟨rfl, rfl⟩
      go_wp2_with fail
      first | exact ⟨.inr (.inl ⟨rfl, rfl⟩), by simp [intOf]⟩ | (go_round; case rel => exact .inr (.inl ⟨rfl, rfl⟩); case measure => simp [intOf])
    · go_wp2_with fail
      refine (ones_32 _).mono ?_
      rintro e w' ⟨rfl, rfl⟩
      go_wp2_with fail
      first | exact ⟨.inr (.inr ⟨rfl, rfl⟩), by simp [intOf]⟩ | (go_round; case rel => exact .inr (.inr ⟨rfl, rfl⟩); case measure => simp [intOf])
    · go_wp2_with fail
      go_ret
      exact ⟨rfl, rfl⟩
/-- the table of package math/bits reads as small numbers -/
def Tab (w : World) : Prop := 0 < w.heap.size ∧ ∀ k : Nat, k < 64 → ∃ t : Int, 0 ≤ t ∧ t ≤ 255 ∧ w.cell? ⟨0, k, none⟩ = some (.int .u8 t)
theorem Tab.below {w w' : World} (h : Tab w) (hb : Below w.heap.size w w') : Tab w' :=
  ⟨Nat.lt_of_lt_of_le h.1 hb.size, fun k hk => by obtain ⟨t, h1, h2, h3⟩ := h.2 k hk; exact ⟨t, h1, h2, (hb.cell (p := ⟨0, k, none⟩) h.1).trans h3⟩⟩
def tzAt (x : Int) : Int := IntKind.u64.wrap (bits .and .u64 x (IntKind.u64.wrap (-x)) * 285870213051353865) / 288230376151711744
theorem tzAt_bd (x : Int) : 0 ≤ tzAt x ∧ tzAt x < 64 := by
  unfold tzAt
  rw [IntKind.wrap_u64]; omega
set_option maxHeartbeats 400000 in
theorem tz_any (x : Int) (w : World) (hx : U64 x) (h0 : ¬ x = 0) (ht : Tab w) :
    Calls Tryd.prog 17 #[.int .u64 x] w fun e w' => ∃ r : Int, 0 ≤ r ∧ r ≤ 255 ∧ e = .returned (.int .i64 r) ∧ w = w' := by
  have hz : (x == 0) = false := by simpa using h0
  obtain ⟨t, ht0, ht1, hc⟩ := ht.2 (tzAt x).toNat (by have := tzAt_bd x; omega)
  obtain ⟨hb0, hb1⟩ := tzAt_bd x
  clear ht
  unfold tzAt at hc hb0 hb1
  unfold U64 at hx
  obtain ⟨hx0, hx1⟩ := hx
  go_enter Tryd.func17, Tryd.ntmps17
  go_wp2_with fail
  go_ret
  exact ⟨t, ht0, ht1, rfl, rfl⟩

theorem infoInt : (Tryd.prog.info? 3).map (fun i => (i.zero, i.size, i.bytes)) = some (some (.int .i64 0), 1, 8) := by kernel_rfl
def i64s (zs : List Int) : List Value := zs.map (Value.int .i64)
theorem i64s_one (l : List Int) : ∀ u ∈ i64s l, u.oneCell' = true := by
  intro u hu
  simp only [i64s, List.mem_map] at hu
  obtain ⟨x, _, rfl⟩ := hu
  rfl
theorem i64s_snoc (zs : List Int) (y : Int) : i64s zs ++ [.int .i64 y] = i64s (zs ++ [y]) := by simp [i64s]
def Pow (x : Int) : Prop := ∃ k : Nat, k < 64 ∧ x = 2 ^ k
theorem pow_clear (x : Int) (h : Pow x) : bits .and .u64 x (IntKind.u64.wrap (x - 1)) = 0 ∧ bits .and .u64 x (x - 1) = 0 ∧ 1 ≤ x := by
  obtain ⟨k, hk, rfl⟩ := h
  have hp : 0 < 2 ^ k := Nat.pow_pos (n := k) (by omega : 0 < 2)
  have hle : 2 ^ k ≤ 2 ^ 63 := Nat.pow_le_pow_right (by omega) (by omega)
  have e : (2 : Int) ^ k - 1 = ((2 ^ k - 1 : Nat) : Int) := by rw [Int.natCast_sub hp]; simp
  have e2 : (2 : Int) ^ k = ((2 ^ k : Nat) : Int) := by simp
  have e3 : IntKind.u64.wrap ((2 : Int) ^ k - 1) = (2 : Int) ^ k - 1 := by rw [IntKind.wrap_u64, e]; omega
  have e4 : bits .and .u64 ((2 : Int) ^ k) ((2 : Int) ^ k - 1) = 0 := by
    rw [e, e2, u64_and_nat _ _ (by omega) (by omega), Nat.and_two_pow_sub_one_eq_mod, Nat.mod_self]; rfl
  exact ⟨by rw [e3]; exact e4, e4, by rw [e2]; omega⟩
set_option maxHeartbeats 1000000 in
theorem list_any (g h : Nat) (n : Int) (ws : List Int) (w : World) (hs : SetAt w g h n ws) (hp : ∀ x ∈ ws, x = 0 ∨ Pow x) (ht : Tab w) :
    Calls Tryd.prog 10 #[.pointer (some ⟨g, 0, none⟩)] w fun e w' => ∃ sv m zs, e = .returned sv ∧ m ≤ 65536 ∧ w'.ownsRow w.heap.size 3 1 sv m (i64s zs) ∧ Below w.heap.size w w' ∧ ((∀ x ∈ ws, x = 0) → sv = .slice none 0 0 ∧ m = 0) := by
  obtain ⟨i0, hi0, hz0, hz1, hz2⟩ := info_parts infoInt
  have hL : ws.length ≤ 16384 := by have := hs.len; have := hs.hi; omega
  have hc1 : w.cell? ⟨g, 1, none⟩ = some (.slice (some ⟨h, 0, none⟩) ws.length ws.length) := hs.top.cell 1
  have hg := hs.top.lt
  have hh := hs.words.lt
  have hcell : ∀ k (x : Int), ws[k]? = some x → w.cell? ⟨h, k, none⟩ = some (.int .u64 x) := fun k x hx => by
    rw [hs.words.cell k]; simp [u64s, hx]
  have hwf := hs.wf
  have HC := Lib.hid hcell
  have HW := Lib.hid hwf
  have HP := Lib.hid hp
  have HT := Lib.hid ht
  clear hcell hwf hp ht hs
  obtain ⟨L, hLL⟩ : ∃ L, ws.length = L := ⟨_, rfl⟩
  rw [hLL] at hc1 hL
  have HL := Lib.hid hLL
  clear hLL
  go_enter Tryd.func10, Tryd.ntmps10
  go_wp2_with fail
  go_loopw [3, 13] (fun s i wr => ∃ k m : Nat, ∃ zs, k ≤ L ∧ m ≤ k ∧ i = .int .i64 k ∧ wr.ownsRow w.heap.size 3 1 s m (i64s zs) ∧ Below w.heap.size w wr ∧ Hid ((∀ x ∈ ws, x = 0) → s = .slice none 0 0 ∧ m = 0)) (fun _ i _ => L - (intOf i).toNat)
  case atStart => exact ⟨0, 0, [], by omega, by omega, rfl, ⟨rfl, .inl ⟨rfl, rfl⟩⟩, Below.refl _ _, fun _ => ⟨rfl, rfl⟩⟩
  case round =>
    obtain ⟨k, m, zs, hk, hm, rfl, hown, hbw, hzero⟩ := hrel
    by_cases hlt : k < L
    · obtain ⟨x, hx⟩ : ∃ x, ws[k]? = some x := ⟨_, List.getElem?_eq_getElem (by have := HL.out; omega)⟩
      have hxm := List.mem_of_getElem? hx
      have hxc : wr.cell? ⟨h, k, none⟩ = some (.int .u64 x) := (hbw.cell (p := ⟨h, k, none⟩) hh).trans (HC.out k x hx)
      have HX := Lib.hid hxm
      clear hx hxm
      obtain ⟨wo, rfl⟩ : ∃ wo : World, wo = wr := ⟨_, rfl⟩
      go_wp2_with fail
      clear hxc
      go_loopw [3, 5] (fun s v wq => ∃ m2 : Nat, ∃ zs, wq.ownsRow w.heap.size 3 1 s m2 (i64s zs) ∧ Below w.heap.size w wq ∧ Hid ((∀ x ∈ ws, x = 0) → s = .slice none 0 0 ∧ m2 = 0) ∧ (v = .int .u64 x ∧ m2 ≤ k ∨ v = .int .u64 0 ∧ m2 ≤ k + 1)) (fun _ v _ => (intOf v).toNat)
      case atStart => exact ⟨m, zs, hown, hbw, hzero, .inl ⟨rfl, hm⟩⟩
      case round =>
        clear hown hbw hzero
        obtain ⟨m2, zs2, hown, hbw, hzero, hst⟩ := hrel
        have hx0 : x = 0 ∨ Pow x := HP.out x HX.out
        by_cases hxz : x = 0
        · have hu : u5 = .int .u64 0 ∧ m2 ≤ k + 1 := by
            rcases hst with ⟨h1, h2⟩ | ⟨h1, h2⟩
            · exact ⟨by rw [h1, hxz], by omega⟩
            · exact ⟨h1, h2⟩
          clear hst hx0
          obtain ⟨rfl, hm2⟩ := hu
          go_wp2_with fail
          exact ⟨⟨k + 1, m2, zs2, by omega, hm2, by go_num, hown, hbw, hzero⟩, by simp [intOf]; omega⟩
        · have hpow : Pow x := hx0.resolve_left hxz
          clear hx0
          rcases hst with ⟨rfl, hm2⟩ | ⟨rfl, hm2⟩
          · have hxu := HW.out x HX.out
            obtain ⟨hp1, hp2, hp3⟩ := pow_clear x hpow
            have HXZ := Lib.hid hxz
            have HP1 := Lib.hid hp1
            have HP2 := Lib.hid hp2
            have hxz' : (x == 0) = false := by simpa using hxz
            have hne : (!(x == 0)) = true := by simp [hxz']
            clear hxz hp1 hp2 hpow
            have hxx := hxu
            unfold U64 at hxx
            obtain ⟨hxa, hxb⟩ := hxx
            have htab : Tab wr := by
              have := HT.out
              exact this.below hbw
            have HTB := Lib.hid htab
            clear htab
            go_wp2_with fail
            refine (tz_any x wr hxu HXZ.out HTB.out).mono ?_
            rintro e w' ⟨r, hr0, hr1, rfl, rfl⟩
            have hsz := hbw.size
            go_wp2_with (first
              | (at_builtin
                 refine wpList_append_any _ rfl (.tmp 24) (.tmp 30) _ rfl w.heap.size 3 i0 _ 1 8 Tryd.underlying27 hi0 hz0 hz1 hz2 rfl (by omega) _ m2 (i64s zs2) rfl
                   (hown.alloc _) _ (some ⟨wr.heap.size, 0, none⟩) 1 1 [.int .i64 _] rfl (Reads.new1 _ _ _) ?c1 ?c2 ?c3 ?c4 ?_
                 case c1 => intro u hu; simp only [List.mem_singleton] at hu; subst hu; rfl
                 case c2 => simp only [maxLen]; omega
                 case c3 => omega
                 case c4 => simp; omega
                 intro v2 w2 hown2 hg2 hat2))
            rw [HP2.out]
            rw [i64s_snoc] at hown2
            refine ⟨⟨m2 + 1, _, hown2, (hbw.alloc hsz _).grown hg2 (by simp; omega) (fun g hg => (hown.lt g hg).1), ?_, .inr ⟨rfl, by omega⟩⟩, by simp [intOf]; omega⟩
            exact fun hall => absurd (hall x HX.out) HXZ.out
          · go_wp2_with fail
            exact ⟨⟨k + 1, m2, zs2, by omega, hm2, by go_num, hown, hbw, hzero⟩, by simp [intOf]; omega⟩
    · obtain rfl : L = k := by omega
      go_wp2_with fail
      go_ret
      exact ⟨_, m, zs, rfl, by omega, hown, hbw, hzero⟩
end Go.Proofs.YtopifdkkmchoeaaDoor

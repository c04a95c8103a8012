/- One step of both machines: the same answer, the same machine. Conditions: machines and code lie in memory. -/
import Derived.Test.YtnnlhhokljjghaaStepA
import Derived.Test.YtnnlhhokljjghaaStepC
import Derived.Test.YtnnlhhokljjghaaStepE
import Derived.Test.YtnnlhhokljjghaaStepG
import Derived.Test.YtnnlhhokljjghaaStepI
import Derived.Test.YtnnlhhokljjghaaStepO
import Derived.Test.YtnnlhhokljjghaaRStepA
import Derived.Test.YtnnlhhokljjghaaRStepC
import Derived.Test.YtnnlhhokljjghaaRStepE
import Derived.Test.YtnnlhhokljjghaaRStepG
import Derived.Test.YtnnlhhokljjghaaRStepI
import Derived.Test.YtnnlhhokljjghaaRefC4
set_option linter.unusedVariables false
set_option linter.unusedSimpArgs false
namespace Go.Proofs.Ytnnlhhokljjghaa
open Go.RowKit

/-- both machines' Step, as one piece of data -/
def BothStep (l : List MInstD) (base : Int) (regs : List Int) (pc : Int) (ws : List Int) (kd d a b im : Int) (regs' : List Int) (pc' : Int) (ws' : List Int) : Prop :=
  (∀ {w : World} {lo p B c : Nat} {A : Option Addr} {sv : Value}, ChipAt w lo p (.slice A l.length c) sv regs pc base ws → CodeM w B A c l → B ≤ lo →
    Calls Try.prog 16 #[.pointer (some ⟨p, 0, none⟩)] w fun e w' => StepTo w lo p (.slice A l.length c) sv base kd d a b im regs' pc' ws' e w') ∧
  (∀ {w : World} {lo q rg wg B c : Nat} {A : Option Addr}, RefAt w lo q rg wg (.slice A l.length c) regs pc base ws → CodeM w B A c l → B ≤ lo →
    Calls Try.prog 38 #[.pointer (some ⟨q, 0, none⟩)] w fun e w' => RStepTo w lo q rg wg (.slice A l.length c) base kd d a b im regs' pc' ws' e w')
theorem where_dec (base : Int) (n : Nat) (a : Int) : (∃ k : Nat, k < n ∧ a = base + 8 * k) ∨ (∀ k : Nat, k < n → a ≠ base + 8 * k) := by
  by_cases h : ∃ k : Nat, k < n ∧ a = base + 8 * k
  · exact .inl h
  · exact .inr fun k hk e => h ⟨k, hk, e⟩
theorem good_ops {i : MInstD} (h : goodP i = true) : i.op = 1 ∨ i.op = 2 ∨ i.op = 3 ∨ i.op = 4 ∨ i.op = 5 ∨ i.op = 6 ∨ i.op = 7 ∨ i.op = 8 ∨ i.op = 9 ∨ i.op = 10 ∨ i.op = 11 ∨ i.op = 12 ∨ i.op = 13 ∨ (39 ≤ i.op ∧ i.op ≤ 52) := by
  unfold goodP at h
  rcases hl : lettersOf i.op with _ | cs
  · rw [hl] at h; cases h
  · unfold lettersOf at hl
    repeat' split at hl
    all_goals first | (cases hl; done) | omega
theorem enter_zero {i : MInstD} (h : goodP i = true) (ho : i.op = 11) : i.d = 0 ∧ i.a = 0 ∧ i.b = 0 := by
  obtain ⟨op, d, a, b, imm⟩ := i
  simp only at ho
  subst ho
  unfold goodP at h
  rw [show lettersOf 11 = some [73] from rfl] at h
  simp only [Bool.and_eq_true] at h
  obtain ⟨⟨⟨⟨h1, h2⟩, h3⟩, _⟩, _⟩ := h
  rw [show useK [73] 68 = false from rfl] at h1
  rw [show useK [73] 65 = false from rfl] at h2
  rw [show useK [73] 66 = false from rfl] at h3
  simp [fieldOk] at h1 h2 h3
  exact ⟨h1.1, h2.1, h3.1⟩
theorem both_step (l : List MInstD) (base : Int) (regs : List Int) (pc : Int) (ws : List Int) (hg : ∀ i ∈ l, goodP i = true) : ∃ kd d a b im regs' pc' ws', BothStep l base regs pc ws kd d a b im regs' pc' ws' := by
  by_cases hpc : pc < 0 ∨ (l.length : Int) ≤ pc
  · exact ⟨_, _, _, _, _, _, _, _, fun h _ _ => step_out h hpc, fun h _ _ => rstep_out h hpc⟩
  · obtain ⟨k, hk⟩ := Int.eq_ofNat_of_zero_le (show 0 ≤ pc by omega)
    obtain ⟨i, hi⟩ : ∃ i, l[k]? = some i := ⟨_, List.getElem?_eq_getElem (by omega)⟩
    have hgi := hg i (List.mem_of_getElem? hi)
    rcases good_ops hgi with ho | ho | ho | ho | ho | ho | ho | ho | ho | ho | ho | ho | ho | ho
    · exact ⟨_, _, _, _, _, _, _, _, fun h hc hB => step_li h hc hB hk hi ho, fun h hc hB => rstep_li h hc hB hk hi ho⟩
    · exact ⟨_, _, _, _, _, _, _, _, fun h hc hB => step_hi h hc hB hk hi ho, fun h hc hB => rstep_hi h hc hB hk hi ho⟩
    · exact ⟨_, _, _, _, _, _, _, _, fun h hc hB => step_mv h hc hB hk hi ho, fun h hc hB => rstep_mv h hc hB hk hi ho⟩
    · rcases where_dec base ws.length ((regs.getD i.a.toNat 0 + i.imm) % 18446744073709551616) with ⟨kk, hkk, hm⟩ | hm
      · exact ⟨_, _, _, _, _, _, _, _, fun h hc hB => step_ld_ok h hc hB hk hi kk _ (List.getElem?_eq_getElem hkk) hm ho, fun h hc hB => rstep_ld_ok h hc hB hk hi kk _ (List.getElem?_eq_getElem hkk) hm ho⟩
      · exact ⟨_, _, _, _, _, _, _, _, fun h hc hB => step_ld_bad h hc hB hk hi hm ho, fun h hc hB => rstep_ld_bad h hc hB hk hi hm ho⟩
    · rcases where_dec base ws.length ((regs.getD i.a.toNat 0 + i.imm) % 18446744073709551616) with ⟨kk, hkk, hm⟩ | hm
      · exact ⟨_, _, _, _, _, _, _, _, fun h hc hB => step_st_ok h hc hB hk hi kk hkk hm ho, fun h hc hB => rstep_st_ok h hc hB hk hi kk hkk hm ho⟩
      · exact ⟨_, _, _, _, _, _, _, _, fun h hc hB => step_st_bad h hc hB hk hi hm ho, fun h hc hB => rstep_st_bad h hc hB hk hi hm ho⟩
    · exact ⟨_, _, _, _, _, _, _, _, fun h hc hB => step_addi h hc hB hk hi ho, fun h hc hB => rstep_addi h hc hB hk hi ho⟩
    · exact ⟨_, _, _, _, _, _, _, _, fun h hc hB => step_jmp h hc hB hk hi ho, fun h hc hB => rstep_jmp h hc hB hk hi ho⟩
    · by_cases hz : regs.getD i.a.toNat 0 = 0
      · exact ⟨_, _, _, _, _, _, _, _, fun h hc hB => step_bz0 h hc hB hk hi hz ho, fun h hc hB => rstep_bz0 h hc hB hk hi hz ho⟩
      · exact ⟨_, _, _, _, _, _, _, _, fun h hc hB => step_bz1 h hc hB hk hi hz ho, fun h hc hB => rstep_bz1 h hc hB hk hi hz ho⟩
    · rcases where_dec base ws.length ((regs.getD 14 0 - 8) % 18446744073709551616) with ⟨kk, hkk, hm⟩ | hm
      · exact ⟨_, _, _, _, _, _, _, _, fun h hc hB => step_call_ok h hc hB hk hi kk hkk hm ho, fun h hc hB => rstep_call_ok h hc hB hk hi kk hkk hm ho⟩
      · exact ⟨_, _, _, _, _, _, _, _, fun h hc hB => step_call_bad h hc hB hk hi hm ho, fun h hc hB => rstep_call_bad h hc hB hk hi hm ho⟩
    · rcases where_dec base ws.length (regs.getD 14 0) with ⟨kk, hkk, hm⟩ | hm
      · by_cases hv : ws[kk] < 2147483648
        · exact ⟨_, _, _, _, _, _, _, _, fun h hc hB => step_ret_ok h hc hB hk hi kk _ (List.getElem?_eq_getElem hkk) hv hm ho, fun h hc hB => rstep_ret_ok h hc hB hk hi kk _ (List.getElem?_eq_getElem hkk) hv hm ho⟩
        · exact ⟨_, _, _, _, _, _, _, _, fun h hc hB => step_ret_far h hc hB hk hi kk _ (List.getElem?_eq_getElem hkk) (by omega) hm ho, fun h hc hB => rstep_ret_far h hc hB hk hi kk _ (List.getElem?_eq_getElem hkk) (by omega) hm ho⟩
      · exact ⟨_, _, _, _, _, _, _, _, fun h hc hB => step_ret_bad h hc hB hk hi hm ho, fun h hc hB => rstep_ret_bad h hc hB hk hi hm ho⟩
    · obtain ⟨z1, z2, z3⟩ := enter_zero hgi ho
      refine ⟨2, 0, 0, 0, i.imm, regs, k, ws, fun h hc hB => ?_, fun h hc hB => rstep_enter h hc hB hk hi ho⟩
      have := step_enter h hc hB hk hi ho
      rw [z1, z2, z3] at this
      exact this
    · exact ⟨_, _, _, _, _, _, _, _, fun h hc hB => step_leave h hc hB hk hi ho, fun h hc hB => rstep_leave h hc hB hk hi ho⟩
    · exact ⟨_, _, _, _, _, _, _, _, fun h hc hB => step_sys h hc hB hk hi ho, fun h hc hB => rstep_sys h hc hB hk hi ho⟩
    · by_cases hm : doE (i.op - 32) (regs.getD i.b.toNat 0) = 0
      · exact ⟨_, _, _, _, _, _, _, _, fun h hc hB => step_alu_ok h hc hB hk hi ho hm, fun h hc hB => rstep_alu_ok h hc hB hk hi ho hm⟩
      · exact ⟨_, _, _, _, _, _, _, _, fun h hc hB => step_alu_bad h hc hB hk hi ho hm, fun h hc hB => rstep_alu_bad h hc hB hk hi ho hm⟩
/-- both machines' Enter -/
def BothEnter (l : List MInstD) (base : Int) (regs : List Int) (pc : Int) (ws : List Int) (r : Bool) (regs' : List Int) (pc' : Int) : Prop :=
  (∀ {w : World} {lo p B c : Nat} {A : Option Addr} {sv : Value}, ChipAt w lo p (.slice A l.length c) sv regs pc base ws → CodeM w B A c l → B ≤ lo →
    Calls Try.prog 20 #[.pointer (some ⟨p, 0, none⟩)] w fun e w' => e = .returned (.bool r) ∧ ChipAt w' lo p (.slice A l.length c) sv regs' pc' base ws ∧ Keeps (fun j => j = p) w w') ∧
  (∀ {w : World} {lo q rg wg B c : Nat} {A : Option Addr}, RefAt w lo q rg wg (.slice A l.length c) regs pc base ws → CodeM w B A c l → B ≤ lo →
    Calls Try.prog 40 #[.pointer (some ⟨q, 0, none⟩)] w fun e w' => e = .returned (.bool r) ∧ RefAt w' lo q rg wg (.slice A l.length c) regs' pc' base ws ∧ Keeps (RefS q rg wg) w w')
theorem chip_stay {P : Program} {f : FuncId} {args : Array Value} {w : World} {lo p : Nat} {cv sv : Value} {regs : List Int} {pc base : Int} {ws : List Int} (h : ChipAt w lo p cv sv regs pc base ws) {r : Bool} {S : Nat → Prop} (hc : Calls P f args w fun e w' => e = .returned (.bool r) ∧ ∃ d, w' = w.drewN d) :
    Calls P f args w fun e w' => e = .returned (.bool r) ∧ ChipAt w' lo p cv sv regs pc base ws ∧ Keeps S w w' :=
  hc.mono fun e w' ⟨h1, d, h2⟩ => ⟨h1, h2 ▸ h.drewN d, h2 ▸ Keeps.of_below (below_drewN (Below.refl w.heap.size w) d) (Nat.le_refl _)⟩
theorem ref_stay {P : Program} {f : FuncId} {args : Array Value} {w : World} {lo q rg wg : Nat} {cv : Value} {regs : List Int} {pc base : Int} {ws : List Int} (h : RefAt w lo q rg wg cv regs pc base ws) {r : Bool} {S : Nat → Prop} (hc : Calls P f args w fun e w' => e = .returned (.bool r) ∧ ∃ d, w' = w.drewN d) :
    Calls P f args w fun e w' => e = .returned (.bool r) ∧ RefAt w' lo q rg wg cv regs pc base ws ∧ Keeps S w w' :=
  hc.mono fun e w' ⟨h1, d, h2⟩ => ⟨h1, h2 ▸ h.drewN d, h2 ▸ Keeps.of_below (below_drewN (Below.refl w.heap.size w) d) (Nat.le_refl _)⟩
theorem both_enter (l : List MInstD) (base : Int) (regs : List Int) (pc : Int) (ws : List Int) : ∃ r regs' pc', BothEnter l base regs pc ws r regs' pc' := by
  by_cases hneg : pc < 0
  · exact ⟨_, _, _, fun h _ _ => chip_stay h (enter_neg (B := 0) h hneg), fun h _ _ => ref_stay h (renter_neg (B := 0) h hneg)⟩
  by_cases hend : (l.length : Int) ≤ pc
  · exact ⟨_, _, _, fun h _ _ => chip_stay h (enter_end (B := 0) h hneg hend), fun h _ _ => ref_stay h (renter_end (B := 0) h hneg hend)⟩
  obtain ⟨k, hk⟩ := Int.eq_ofNat_of_zero_le (show 0 ≤ pc by omega)
  obtain ⟨i, hi⟩ : ∃ i, l[k]? = some i := ⟨_, List.getElem?_eq_getElem (by omega)⟩
  by_cases ho : i.op = 11
  · by_cases hlow : regs.getD 14 0 < base + i.imm
    · exact ⟨_, _, _, fun h hc _ => chip_stay h (enter_low h hc hk hi ho hlow), fun h hc _ => ref_stay h (renter_low h hc hk hi ho hlow)⟩
    · by_cases hhi : base + 8 * (ws.length : Int) < regs.getD 14 0
      · exact ⟨_, _, _, fun h hc _ => chip_stay h (enter_high h hc hk hi ho hlow hhi), fun h hc _ => ref_stay h (renter_high h hc hk hi ho hlow hhi)⟩
      · exact ⟨_, _, _, fun h hc _ => enter_in h hc hk hi ho hlow hhi, fun h hc _ => renter_in h hc hk hi ho hlow hhi⟩
  · exact ⟨_, _, _, fun h hc _ => chip_stay h (enter_other h hc hk hi ho), fun h hc _ => ref_stay h (renter_other h hc hk hi ho)⟩
/-- both machines' Push -/
def BothPush (base : Int) (regs : List Int) (pc : Int) (ws : List Int) (v : Int) (r : Bool) (regs' ws' : List Int) : Prop :=
  (∀ {w : World} {lo p : Nat} {cv sv : Value}, ChipAt w lo p cv sv regs pc base ws →
    Calls Try.prog 29 #[.pointer (some ⟨p, 0, none⟩), .int .u64 v] w fun e w' => e = .returned (.bool r) ∧ ChipAt w' lo p cv sv regs' pc base ws' ∧ Keeps (fun i => i = p ∨ sv.ownBlock = some i) w w') ∧
  (∀ {w : World} {lo q rg wg : Nat} {cv : Value}, RefAt w lo q rg wg cv regs pc base ws →
    Calls Try.prog 41 #[.pointer (some ⟨q, 0, none⟩), .int .u64 v] w fun e w' => e = .returned (.bool r) ∧ RefAt w' lo q rg wg cv regs' pc base ws' ∧ Keeps (RefS q rg wg) w w')
theorem both_push (base : Int) (regs : List Int) (pc : Int) (ws : List Int) (v : Int) (hv : U64 v) : ∃ r regs' ws', BothPush base regs pc ws v r regs' ws' := by
  rcases where_dec base ws.length ((regs.getD 14 0 - 8) % 18446744073709551616) with ⟨kk, hkk, hm⟩ | hm
  · exact ⟨_, _, _, fun h => push_in h kk v hkk hv hm, fun h => rpush_in h kk v hkk hv hm⟩
  · exact ⟨_, _, _, fun h => chip_stay h (push_out h v hm), fun h => ref_stay h (rpush_out h v hm)⟩
/-- both machines, each in a state of its own -/
structure Duo (w : World) (loC loR p : Nat) (A : Option Addr) (c : Nat) (sv : Value) (q rg wg : Nat) (A2 : Option Addr) (c2 : Nat) (l : List MInstD) (regs : List Int) (pc base : Int) (ws : List Int) (regs2 : List Int) (pc2 base2 : Int) (ws2 : List Int) : Prop where
  chip : ChipAt w loC p (.slice A l.length c) sv regs pc base ws
  code : CodeM w loC A c l
  ref : RefAt w loR q rg wg (.slice A2 l.length c2) regs2 pc2 base2 ws2
  rcode : CodeM w loR A2 c2 l
  row : w.ownsRow loC 30 5 (.slice A2 l.length c2) l.length (l.flatMap mcells)
  pl : p < loR
theorem own_own_ne {w : World} {b1 b2 s1 s2 n1 n2 : Nat} {e1 e2 : TypeId} {v1 v2 : Value} {x1 x2 : List Value} (h1 : w.ownsRow b1 e1 s1 v1 n1 x1) (h2 : w.ownsRow b2 e2 s2 v2 n2 x2) (hne : e1 ≠ e2) {k : Nat} (hk : v2.ownBlock = some k) : v1.ownBlock ≠ some k := by
  rcases h2.2 with ⟨rfl, _⟩ | ⟨g, cap, cur, rfl, _, hg, _⟩
  · cases hk
  · have e : g = k := by simpa [Value.ownBlock] using hk
    subst e
    exact own_blk_ne h1 (show Blk w g e2 cur from hg) hne
section
variable {w w' : World} {loC loR p : Nat} {A : Option Addr} {c : Nat} {sv : Value} {q rg wg : Nat} {A2 : Option Addr} {c2 : Nat} {l : List MInstD} {regs : List Int} {pc base : Int} {ws regs2 : List Int} {pc2 base2 : Int} {ws2 : List Int}
theorem Duo.lo (h : Duo w loC loR p A c sv q rg wg A2 c2 l regs pc base ws regs2 pc2 base2 ws2) : loC ≤ loR ∧ loR ≤ w.heap.size := by
  have h1 := h.chip.low
  have h2 := h.pl
  have h3 := h.ref.low
  have h4 := h.ref.blk.lt
  omega
/-- the chip is called -/
theorem Duo.chipTo {sv' : Value} {regs' : List Int} {pc' base' : Int} {ws' : List Int} (h : Duo w loC loR p A c sv q rg wg A2 c2 l regs pc base ws regs2 pc2 base2 ws2) (hC : ChipAt w' loC p (.slice A l.length c) sv' regs' pc' base' ws') (hk : Keeps (fun i => i = p ∨ sv.ownBlock = some i) w w') :
    Duo w' loC loR p A c sv' q rg wg A2 c2 l regs' pc' base' ws' regs2 pc2 base2 ws2 ∧ Below loC w w' := by
  have hb := h.chip.keepP hk
  have hlo := h.lo
  have hl := h.ref.low
  have hpl := h.pl
  have n1 : sv.ownBlock ≠ some q := own_blk_ne h.chip.row h.ref.blk (by decide)
  have n2 : sv.ownBlock ≠ some rg := own_blk_ne h.chip.row h.ref.rblk (by decide)
  have n3 : sv.ownBlock ≠ some wg := own_blk_ne h.chip.row h.ref.wblk (by decide)
  have hro : ∀ k, (Value.slice A2 l.length c2).ownBlock = some k → ¬ (k = p ∨ sv.ownBlock = some k) := fun k hk2 => by
    rintro (e | e)
    · subst e; exact own_blk_ne h.row h.chip.blk (by decide) hk2
    · exact own_own_ne h.chip.row h.row (by decide) hk2 e
  refine ⟨⟨hC, h.code.below hb (by omega), h.ref.keep hk ?_ ?_ ?_, ⟨h.rcode.cap, h.rcode.fit, ⟨h.rcode.rd.1, fun hn => ?_⟩, h.rcode.wf, h.rcode.good⟩, hk.own h.row hro, hpl⟩, hb⟩
  · rintro (e | e)
    · omega
    · exact n1 e
  · rintro (e | e)
    · omega
    · exact n2 e
  · rintro (e | e)
    · omega
    · exact n3 e
  · obtain ⟨ad, hA, hlt, hcell⟩ := h.rcode.rd.2 hn
    subst hA
    refine ⟨ad, rfl, hlt, fun j u hu => ?_⟩
    have hob : (Value.slice (some ad) l.length c2).ownBlock = some ad.block := rfl
    rw [hk.cell (by rw [block_of_add]; omega) (by rw [block_of_add]; exact hro _ hob)]
    exact hcell j u hu
/-- the document's machine is called -/
theorem Duo.refTo {wg' : Nat} {regs' : List Int} {pc' base' : Int} {ws' : List Int} (h : Duo w loC loR p A c sv q rg wg A2 c2 l regs pc base ws regs2 pc2 base2 ws2) (hR : RefAt w' loR q rg wg' (.slice A2 l.length c2) regs' pc' base' ws') (hk : Keeps (RefS q rg wg) w w') :
    Duo w' loC loR p A c sv q rg wg' A2 c2 l regs pc base ws regs' pc' base' ws' ∧ Below loC w w' := by
  have hlo := h.lo
  have hl := h.ref.low
  have hpl := h.pl
  have hS : ∀ i, RefS q rg wg i → loR ≤ i := fun i hi => by rcases hi with e | e | e <;> omega
  have n1 : sv.ownBlock ≠ some q := own_blk_ne h.chip.row h.ref.blk (by decide)
  have n2 : sv.ownBlock ≠ some rg := own_blk_ne h.chip.row h.ref.rblk (by decide)
  have n3 : sv.ownBlock ≠ some wg := own_blk_ne h.chip.row h.ref.wblk (by decide)
  have m1 := own_blk_ne h.row h.ref.blk (by decide)
  have m2 := own_blk_ne h.row h.ref.rblk (by decide)
  have m3 := own_blk_ne h.row h.ref.wblk (by decide)
  refine ⟨⟨h.chip.keep hk (fun e => by have := hS _ e; omega) (fun k h1 h2 => ?_), h.code.keep hk (by omega) (fun i hi => by have := hS i hi; omega), hR, h.rcode.keep hk (by omega) hS, hk.own h.row (fun k h1 h2 => ?_), hpl⟩, hk.toBelow (by omega) (fun i hi => by have := hS i hi; omega)⟩
  · rcases h2 with e | e | e <;> subst e
    · exact n1 h1
    · exact n2 h1
    · exact n3 h1
  · rcases h2 with e | e | e <;> subst e
    · exact m1 h1
    · exact m2 h1
    · exact m3 h1
theorem Duo.below (h : Duo w loC loR p A c sv q rg wg A2 c2 l regs pc base ws regs2 pc2 base2 ws2) (hb : Below w.heap.size w w') : Duo w' loC loR p A c sv q rg wg A2 c2 l regs pc base ws regs2 pc2 base2 ws2 :=
  (h.chipTo (h.chip.below hb) (Keeps.of_below hb (Nat.le_refl _))).1
theorem Duo.drewN (h : Duo w loC loR p A c sv q rg wg A2 c2 l regs pc base ws regs2 pc2 base2 ws2) (k : Nat) : Duo (w.drewN k) loC loR p A c sv q rg wg A2 c2 l regs pc base ws regs2 pc2 base2 ws2 := h.below (below_drewN (Below.refl _ w) k)
end
end Go.Proofs.Ytnnlhhokljjghaa

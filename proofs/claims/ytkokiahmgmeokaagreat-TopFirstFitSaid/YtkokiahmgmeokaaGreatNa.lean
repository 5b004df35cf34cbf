/- TopMirrorTight: contact: segments, ticks (printed by gen/g22.py) -/
import Derived.BigQuiet
import Derived.BigRegion
import Derived.Deep.DeepCutAuto
import Derived.Deep.CutBlock
import Derived.RangeFuncBox
import Derived.Test.YtkokiahmgmeokaaGreatYb
set_option linter.unusedVariables false
set_option linter.unusedSimpArgs false
namespace Go.Proofs.YtkokiahmgmeokaaGreat
open Go Go.RowKit Iv
attribute [local go_sem] Oper.semAt_some
attribute [local go_sem] B_getElem B_size B_app B_extract B_get B_toList
/-- the segments of a size -/
def segs (s : Nat) : List Int := if h : s = 0 then [] else ((min s 16 : Nat) : Int) :: segs (s - 16)
termination_by s
decreasing_by omega
theorem segs_zero : segs 0 = [] := by unfold segs; rfl
theorem segs_pos {s : Nat} (h : 0 < s) : segs s = ((min s 16 : Nat) : Int) :: segs (s - 16) := by
  conv => lhs; unfold segs
  rw [dif_neg (by omega)]
/-- how long a segment takes -/
def tickS (c : Con) (n : Int) : Int := (n + 8 + c.ra - 1) / c.ra
def passS (c : Con) (s : Nat) : Int := ((segs s).map (tickS c)).sum
def durS (c : Con) (s : Nat) : Int := passS c s + c.lo * (2 * c.rg + 1 + tickS c 16)
theorem tickS_bnd {c : Con} {n : Int} (h : 1 ≤ c.ra) (h2 : c.ra ≤ 1000) (n0 : 1 ≤ n) (n1 : n ≤ 16) : 1 ≤ tickS c n ∧ tickS c n ≤ 24 := by
  unfold tickS
  refine ⟨(Int.le_ediv_iff_mul_le (by omega)).2 (by omega), Int.le_of_lt_add_one ((Int.ediv_lt_iff_lt_mul (by omega)).2 ?_)⟩
  have : (24 + 1) * c.ra = c.ra * 25 := by rw [Int.mul_comm]; rfl
  omega
theorem segs_bnd : ∀ (s : Nat), ∀ n ∈ segs s, 1 ≤ n ∧ n ≤ 16 := fun s => by
  induction s using Nat.strongRecOn with
  | ind s ih =>
    intro n hn
    rcases Nat.eq_zero_or_pos s with z | z
    · subst z; rw [segs_zero] at hn; cases hn
    · rw [segs_pos z] at hn
      rcases List.mem_cons.1 hn with rfl | hn
      · omega
      · exact ih (s - 16) (by omega) n hn
theorem segs_len : ∀ (s : Nat), (segs s).length ≤ s := fun s => by
  induction s using Nat.strongRecOn with
  | ind s ih =>
    rcases Nat.eq_zero_or_pos s with z | z
    · subst z; rw [segs_zero]; exact Nat.le_refl _
    · rw [segs_pos z, List.length_cons]
      have := ih (s - 16) (by omega)
      omega
theorem sum_bnd {c : Con} (h : 1 ≤ c.ra) (h2 : c.ra ≤ 1000) : ∀ (l : List Int), (∀ n ∈ l, 1 ≤ n ∧ n ≤ 16) → (l.length : Int) ≤ (l.map (tickS c)).sum ∧ (l.map (tickS c)).sum ≤ 24 * l.length
  | [], _ => by simp
  | n :: l, hl => by
    have h3 := hl n (by simp)
    have h4 := tickS_bnd h h2 h3.1 h3.2
    have h5 := sum_bnd h h2 l (fun x hx => hl x (by simp [hx]))
    simp only [List.map_cons, List.sum_cons, List.length_cons]
    omega
theorem tick_any (c : Con) (n : Int) (w : World) (h : 1 ≤ c.ra) (h2 : c.ra ≤ 1000) (n0 : 0 ≤ n) (n1 : n ≤ 16) :
    Calls Tryz.prog 97 #[.agg #[.int .i64 c.fr, .int .i64 c.tt, .int .i64 c.st, .int .i64 c.en, .int .i64 c.ra, .int .i64 c.rg, .int .i64 c.lo], .int .i64 n] w fun e w' => e = .returned (.int .i64 (tickS c n)) ∧ Below w.heap.size w w' := by
  obtain ⟨r, hr⟩ : ∃ r, c.ra = r := ⟨_, rfl⟩
  have hq : tickS c n = (n + 8 + r - 1) / r := by unfold tickS; rw [hr]
  rw [hr] at h h2 ⊢
  obtain ⟨q, hq2⟩ : ∃ q, (n + 8 + r - 1) / r = q := ⟨_, rfl⟩
  have q0 : 0 ≤ q := by rw [← hq2]; exact Int.ediv_nonneg (by omega) (by omega)
  have q1 : q < 2000 := by rw [← hq2]; exact (Int.ediv_lt_iff_lt_mul (by omega)).2 (by have : 2000 * r = r * 2000 := Int.mul_comm _ _; omega)
  have hd : (n + 8 + r - 1).tdiv r = q := by rw [Int.tdiv_eq_ediv_of_nonneg (by omega)]; exact hq2
  rw [hq, hq2]
  have r0 : ¬ r = 0 := by omega
  clear hq hr
  go_enter Tryz.func97, Tryz.ntmps97
  go_wp2
  go_ret
  exact ⟨rfl, belowA⟩
end Go.Proofs.YtkokiahmgmeokaaGreat

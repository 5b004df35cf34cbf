/- Joined by port.py: XSj -/
import Derived.Test.YtmknchdciblfjaaGreatSi
import Derived.Test.YtmknchdciblfjaaGreatJa
import Derived.Test.YtmknchdciblfjaaGreatJb
import Derived.Test.YtmknchdciblfjaaGreatJh
import Derived.Test.YtmknchdciblfjaaGreatJo
import Derived.Test.YtmknchdciblfjaaGreatJp
import Derived.Test.YtmknchdciblfjaaGreatKaz
import Derived.Test.YtmknchdciblfjaaGreatJw
import Derived.Test.YtmknchdciblfjaaGreatSb
import Derived.Test.YtmknchdciblfjaaGreatSez
import Derived.Test.YtmknchdciblfjaaGreatSz
set_option linter.unusedVariables false
set_option linter.unusedSimpArgs false
/-! XSj -/
namespace Go.Proofs.YtmknchdciblfjaaGreat
open Go Go.RowKit Iv
attribute [local go_sem] Oper.semAt_some
attribute [local go_sem] B_getElem B_size B_app B_extract B_get B_toList
theorem comb_any (f : Bool → Bool → Bool) (hf : f false false = false) (g : FuncId) (hg : FunB f g) (a b : List Sp) (u v : Value) (w : World) (ha : RSps w w.heap.size u a) (hb : RSps w w.heap.size v b) :
    Calls Tryz.prog 152 #[u, v, .func (.func g) #[] #[]] w (SpsPostF (combS f a b) w) := by
  by_cases h : chkSp a ≠ 0 ∨ chkSp b ≠ 0
  · exact comb_bad f g a b u v w ha hb h
  · have h1 : chkSp a = 0 := Decidable.not_not.1 fun e => h (.inl e)
    have h2 : chkSp b = 0 := Decidable.not_not.1 fun e => h (.inr e)
    exact comb_good f hf g hg a b u v w ha hb h1 h2
theorem fun_or : FunB (fun p q => p || q) 153 := by
  refine ⟨enters_of Tryz.func153 (by kernel_rfl) rfl, fun p q W => ?_⟩
  cases p <;> cases q
  all_goals
    go_enter Tryz.func153, Tryz.ntmps153
    go_wp2
    go_ret
    exact ⟨rfl, belowA⟩
set_option maxRecDepth 100000 in
theorem sor_any (a b : List Sp) (u v : Value) (w : World) (ha : RSps w w.heap.size u a) (hb : RSps w w.heap.size v b) :
    Calls Tryz.prog 88 #[u, v] w (SpsPostF (combS (fun p q => p || q) a b) w) := by
  have HA := Lib.hid ha
  have HB := Lib.hid hb
  obtain ⟨a1, c1, rfl⟩ : ∃ a1 c1, u = .slice a1 a.length c1 := by obtain ⟨a1, c1, h, _⟩ := ha; exact ⟨a1, c1, h⟩
  obtain ⟨a2, c2, rfl⟩ : ∃ a2 c2, v = .slice a2 b.length c2 := by obtain ⟨a1, c1, h, _⟩ := hb; exact ⟨a1, c1, h⟩
  clear ha hb
  obtain ⟨S, hS⟩ : ∃ q, combS (fun p q => p || q) a b = q := ⟨_, rfl⟩
  have HS := Lib.hid hS
  rw [hS]
  clear hS
  go_enter Tryz.func88, Tryz.ntmps88
  go_wp2_with fail
  refine (comb_any (fun p q => p || q) rfl _ fun_or a b _ _ _ HA.out HB.out).mono ?_
  rw [HS.out]
  rintro e w1 ⟨r, rfl, hr, hf1, hb1⟩
  have HF1 := Lib.hid hf1
  obtain ⟨ra, rc, rfl⟩ : ∃ a1 c1, r = .slice a1 S.1.length c1 := by obtain ⟨a1, c1, h, _⟩ := hr; exact ⟨a1, c1, h⟩
  have HR := Lib.hid hr
  clear hr hf1
  go_wp2
  go_ret2
  exact ⟨_, rfl, HR.out, HF1.out, hb1⟩
theorem fun_and : FunB (fun p q => p && q) 202 := by
  refine ⟨enters_of Tryz.func202 (by kernel_rfl) rfl, fun p q W => ?_⟩
  cases p <;> cases q
  all_goals
    go_enter Tryz.func202, Tryz.ntmps202
    go_wp2
    go_ret
    exact ⟨rfl, belowA⟩
set_option maxRecDepth 100000 in
theorem and_any (a b : List Sp) (u v : Value) (w : World) (ha : RSps w w.heap.size u a) (hb : RSps w w.heap.size v b) :
    Calls Tryz.prog 151 #[u, v] w (SpsPostF (combS (fun p q => p && q) a b) w) := by
  have HA := Lib.hid ha
  have HB := Lib.hid hb
  obtain ⟨a1, c1, rfl⟩ : ∃ a1 c1, u = .slice a1 a.length c1 := by obtain ⟨a1, c1, h, _⟩ := ha; exact ⟨a1, c1, h⟩
  obtain ⟨a2, c2, rfl⟩ : ∃ a2 c2, v = .slice a2 b.length c2 := by obtain ⟨a1, c1, h, _⟩ := hb; exact ⟨a1, c1, h⟩
  clear ha hb
  obtain ⟨S, hS⟩ : ∃ q, combS (fun p q => p && q) a b = q := ⟨_, rfl⟩
  have HS := Lib.hid hS
  rw [hS]
  clear hS
  go_enter Tryz.func151, Tryz.ntmps151
  go_wp2_with fail
  refine (comb_any (fun p q => p && q) rfl _ fun_and a b _ _ _ HA.out HB.out).mono ?_
  rw [HS.out]
  rintro e w1 ⟨r, rfl, hr, hf1, hb1⟩
  have HF1 := Lib.hid hf1
  obtain ⟨ra, rc, rfl⟩ : ∃ a1 c1, r = .slice a1 S.1.length c1 := by obtain ⟨a1, c1, h, _⟩ := hr; exact ⟨a1, c1, h⟩
  have HR := Lib.hid hr
  clear hr hf1
  go_wp2
  go_ret2
  exact ⟨_, rfl, HR.out, HF1.out, hb1⟩
end Go.Proofs.YtmknchdciblfjaaGreat

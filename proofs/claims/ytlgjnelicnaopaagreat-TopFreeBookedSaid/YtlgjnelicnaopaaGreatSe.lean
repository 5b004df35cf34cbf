/- Joined by port.py: XSe -/
import Derived.BigQuiet
import Derived.BigRegion
import Derived.Deep.DeepCutAuto
import Derived.Deep.CutBlock
import Derived.Laws.AppendOwn
import Derived.Test.YtlgjnelicnaopaaGreatSd
set_option linter.unusedVariables false
set_option linter.unusedSimpArgs false
/-! XSe -/
namespace Go.Proofs.YtlgjnelicnaopaaGreat
open Go Go.RowKit Iv
attribute [local go_sem] Oper.semAt_some
attribute [local go_sem] B_getElem B_size B_app B_extract B_get B_toList
/-- a result, if it is not too long -/
def limS (l : List Sp) : List Sp × Int := if 1000 < l.length then ([], 4) else (l, 0)
def SpsPost (r : List Sp × Int) (w : World) (e : Ending) (w' : World) : Prop := ∃ u, e = .returned (.tuple #[u, .int .i64 r.2]) ∧ RSps w' w'.heap.size u r.1 ∧ Below w.heap.size w w'
def SpsPostF (r : List Sp × Int) (w : World) (e : Ending) (w' : World) : Prop := ∃ u, e = .returned (.tuple #[u, .int .i64 r.2]) ∧ RSps w' w'.heap.size u r.1 ∧ RFrom w.heap.size u ∧ Below w.heap.size w w'
theorem RSps.empty {w : World} {g c : Nat} (h : g < w.heap.size) (hc : c ≤ maxLen) : RSps w w.heap.size (.slice (some ⟨g, 0, none⟩) 0 c) [] := ⟨_, c, rfl, Nat.zero_le _, hc, (fun h => by cases h), fun h => by cases h⟩
theorem RSps.empty0 {w : World} {a : Option Addr} {c : Nat} (h : a = none → c = 0) (hc : c ≤ maxLen) : RSps w w.heap.size (.slice a 0 c) [] := ⟨_, c, rfl, Nat.zero_le _, hc, h, fun h => by cases h⟩
def rUnionS (a b : List Sp) : List Sp × Int := if chkSp a ≠ 0 ∨ chkSp b ≠ 0 then ([], 1) else limS (b.foldl ins2 a)
theorem ins2_len : ∀ (l : List Sp) (x : Sp), 0 < (ins2 l x).length ∧ (ins2 l x).length ≤ l.length + 1
  | [], x => by simp [ins2]
  | y :: r, x => by
    have ih := ins2_len r x
    have hm : ∀ (m : List Sp) (z : Sp), 0 < (mrg m z).length ∧ (mrg m z).length ≤ m.length + 1 := by
      intro m
      induction m with
      | nil => intro z; simp [mrg]
      | cons u s ih => intro z; unfold mrg; split; (have := ih (if u.1 < z.1 then u.1 else z.1, if z.2 < u.2 then u.2 else z.2); simp; omega); simp
    have := hm (y :: r) x
    unfold ins2
    split
    · simp; omega
    · exact this
end Go.Proofs.YtlgjnelicnaopaaGreat

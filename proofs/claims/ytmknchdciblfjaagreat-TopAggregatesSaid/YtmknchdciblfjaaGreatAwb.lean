/- top35Awake: what the calls give, evaluated: plans, histories, the arrival. -/
import Derived.Test.YtmknchdciblfjaaGreatAwa
set_option linter.unusedVariables false
set_option linter.unusedSimpArgs false
namespace Go.Proofs.YtmknchdciblfjaaGreat.Ev
open Go Go.RowKit
noncomputable def E35 : Rec := evO Tryz.prog crcO 2000
def iv (n : Int) : RV := .val (.int .i64 n)
def nilv : RV := .val (.slice none 0 0)
def s00 : S := ⟨.nil, 0⟩
def rvIs (v : RV) : RV × S → Bool := fun p => same v p.1
def cellsIs (s : S) (i : Nat) (cs : List RV) : Bool := match s.H.get i with | some (.cells ds) => sames cs ds | _ => false
theorem cells_is {s : S} {i : Nat} {cs : List RV} (h : cellsIs s i cs = true) : s.H.get i = some (.cells cs) := by
  unfold cellsIs at h
  split at h
  · rename_i ds hd
    rw [hd, sames_eq cs ds h]
  · cases h
/-- a run ends with v in a state of which k holds -/
def ends (r : Option (RV × S)) (v : RV) (k : S → Bool) : Bool := match r with | some (u, s) => bif same v u then k s else false | none => false
theorem ends_spec {r : Option (RV × S)} {v : RV} {k : S → Bool} (h : ends r v k = true) : ∃ s, r = some (v, s) ∧ k s = true := by
  unfold ends at h
  split at h
  · rename_i u s
    cases hs : same v u with
    | false => rw [hs] at h; cases h
    | true =>
      rw [hs] at h
      obtain rfl := same_eq v u hs
      exact ⟨s, rfl, h⟩
  · cases h
def planC : List Value := [.int .i64 0, .int .i64 1, .int .i64 5, .int .i64 45, .int .i64 24, .int .i64 2, .int .i64 0, .int .i64 1, .int .i64 2, .int .i64 10, .int .i64 50, .int .i64 24, .int .i64 2, .int .i64 0]
def planV : RV := .agg [.slice 1 0 3 (.known 3), .slice 4 0 2 (.known 2)]
def tabV : RV := .agg [.slice 1 0 3 (.known 3), .slice 4 0 2 (.known 2), nilv, nilv]
def reqV : Value := .agg #[.int .i64 0, .int .i64 2, .int .i64 16, .int .i64 0, .int .i64 100, .int .i64 0, .bool false]
def conV : Value := .agg #[.int .i64 0, .int .i64 1, .int .i64 5, .int .i64 45, .int .i64 24, .int .i64 2, .int .i64 0]
def hisV : Value := .agg #[.int .i64 3, .slice none 0 0]
def hisW : RV := .agg [iv 3, .slice 24 0 1 (.opened 11)]
def conL : RV → Bool
  | .tup [.slice _ _ n _, .val (.int .i64 e)] => Nat.beq n 1 && e == 0
  | _ => false
theorem new_ev : ends (E35.call 13 [iv 3] s00) (.tup [.agg [iv 3, nilv], iv 0]) (fun _ => true) = true := by kernel_rfl
theorem plan_ev : ends (E35.call 15 [] s00) planV (fun s => cellsIs s 4 (planC.map .val)) = true := by kernel_rfl
theorem put_ev : ends (E35.call 14 [.val hisV, iv 0, .val conV] s00) (.tup [hisW, iv 0]) (fun s => match E35.call 16 [hisW] s with | some (u, _) => conL u | none => false) = true := by kernel_rfl
theorem arrival_ev : ends (E35.call 15 [] s00) planV (fun s => ends (E35.call 17 [tabV, .val reqV] s) (.tup [iv 13, iv 0]) (fun _ => true)) = true := by kernel_rfl
end Go.Proofs.YtmknchdciblfjaaGreat.Ev

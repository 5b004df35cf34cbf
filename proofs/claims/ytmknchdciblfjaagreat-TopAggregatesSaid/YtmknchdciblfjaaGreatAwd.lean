/- top35Awake: security.Protect, evaluated. -/
import Derived.Test.YtmknchdciblfjaaGreatAwb
set_option linter.unusedVariables false
set_option linter.unusedSimpArgs false
namespace Go.Proofs.YtmknchdciblfjaaGreat.Ev
open Go Go.RowKit
def keyV : Value := .string ⟨#[48, 49, 50, 51, 52, 53, 54, 55, 56, 57, 97, 98, 99, 100, 101, 102]⟩
def kegV : Value := .string ⟨#[48, 49, 50, 51, 52, 53, 54, 55, 56, 57, 97, 98, 99, 100, 101, 103]⟩
def bunV : Value := .agg #[.int .i64 1, .int .i64 0, .int .i64 0, .int .i64 0, .int .i64 0, .int .i64 1, .int .i64 2, .int .i64 9, .int .i64 0, .int .i64 0, .slice none 0 0, .string ⟨#[104, 105]⟩]
def autC : List Value := [.int .i64 4, .int .i64 0, .string ⟨#[1, 48, 132, 136, 99, 24, 28, 0, 155]⟩]
def bunW (i : Nat) : RV := .agg [iv 1, iv 0, iv 0, iv 0, iv 0, iv 1, iv 2, iv 9, iv 0, iv 0, .slice i 0 1 (.opened 3), .val (.string ⟨#[104, 105]⟩)]
theorem protect_ev : ends (E35.call 19 [.val bunV, iv 1, .val keyV] s00) (.tup [bunW 2980, iv 0]) (fun s => cellsIs s 2980 (autC.map .val)) = true := by kernel_rfl
end Go.Proofs.YtmknchdciblfjaaGreat.Ev

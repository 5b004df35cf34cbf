/- Layer 20 (report): unequal records. -/
import Derived.Test.YtcmkpnjbnjbegaaDoorVh
set_option linter.unusedVariables false
set_option linter.unusedSimpArgs false
namespace Go.Proofs.YtcmkpnjbnjbegaaDoor
open Go Go.RowKit
attribute [local go_sem] B_getElem B_size B_app B_extract B_get B_toList
set_option maxHeartbeats 2000000 in
theorem neRepI (k s c q o t n m r k' s' c' q' o' t' n' m' r' : Int) (w : World) : Sem.run Tryd.prog (Go.binOp .neq 25 (.agg #[.int .i64 k, .int .i64 s, .int .i64 c, .int .i64 q, .int .i64 o, .int .i64 t, .int .i64 n, .int .i64 m, .int .i64 r]) (.agg #[.int .i64 k', .int .i64 s', .int .i64 c', .int .i64 q', .int .i64 o', .int .i64 t', .int .i64 n', .int .i64 m', .int .i64 r'])) w = .ok (.bool (!eqR ⟨k, s, c, q, o, t, n, m, r⟩ ⟨k', s', c', q', o', t', n', m', r'⟩)) w := by
  go_simp
  unfold eqR repL
  by_cases h1 : k = k'
  case neg => simp [h1]
  by_cases h2 : s = s'
  case neg => simp [h1, h2]
  by_cases h3 : c = c'
  case neg => simp [h1, h2, h3]
  by_cases h4 : q = q'
  case neg => simp [h1, h2, h3, h4]
  by_cases h5 : o = o'
  case neg => simp [h1, h2, h3, h4, h5]
  by_cases h6 : t = t'
  case neg => simp [h1, h2, h3, h4, h5, h6]
  by_cases h7 : n = n'
  case neg => simp [h1, h2, h3, h4, h5, h6, h7]
  by_cases h8 : m = m'
  case neg => simp [h1, h2, h3, h4, h5, h6, h7, h8]
  by_cases h9 : r = r'
  case neg => simp [h1, h2, h3, h4, h5, h6, h7, h8, h9]
  simp [h1, h2, h3, h4, h5, h6, h7, h8, h9]

end Go.Proofs.YtcmkpnjbnjbegaaDoor

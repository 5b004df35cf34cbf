/- Layer 1 (varint), the program: Int. -/
import Derived.Maps.AppendAt
import Derived.Test.YtdnbegcebloodaaCb
set_option linter.unusedVariables false
namespace Go.Proofs.Ytdnbegcebloodaa
open Go.RowKit Go.Shelf
attribute [local go_sem] Oper.semAt_some

theorem groups_stops (F : Fence) (n : Nat) (h8 : F.fn 80) (hro : F.round = none) (hn : 1 ≤ n) (Bn n₀ z m K : Nat) (hm : m ≤ 2305843009213693952) (hK : K ≤ 8) (h1 : m / 128 ^ K < 128) (h2 : K = 0 ∨ 128 ≤ m / 128 ^ (K - 1)) (w : World) (hb : Bn < n₀) (hbz : Bn ≠ z) (hbw : Bn < w.heap.size)
    (hc : w.cell? ⟨Bn, 0, none⟩ = some (.int .i64 (m : Int))) :
    SeqStopsK F n Try.prog 80 #[.pointer (some ⟨Bn, 0, none⟩)] (fun x : Nat × Bool => #[Value.int .u8 (x.1 : Int), .bool x.2]) (KpX n₀ z) (fun ys => ys = gr (K + 1) m) (fun _ => True) (K + 1) w := fun l J Jx W hW _ _ hY h0 =>
  groups1_in F n h8 hro hn l Bn n₀ z m K hm hK h1 h2 hb hbz J Jx hY W ((hW.cell (p := ⟨Bn, 0, none⟩) (by simp; omega)).trans hc) h0

theorem top (m : Nat) (hm : m ≤ 2305843009213693952) : ∃ K, K ≤ 8 ∧ m / 128 ^ K < 128 ∧ (K = 0 ∨ 128 ≤ m / 128 ^ (K - 1)) := by
  by_cases h0 : m < 128
  · exact ⟨0, by omega, by simpa using h0, .inl rfl⟩
  have H : ∀ k, 128 ≤ m / 128 ^ k → k ≤ 8 → ∃ K, K ≤ 8 ∧ m / 128 ^ K < 128 ∧ (K = 0 ∨ 128 ≤ m / 128 ^ (K - 1)) := by
    intro k
    generalize hd : 9 - k = d
    induction d generalizing k with
    | zero => intro h hk; omega
    | succ d ih =>
      intro h hk
      by_cases z : k = 8
      · subst z; omega
      · by_cases z2 : m / 128 ^ (k + 1) < 128
        · exact ⟨k + 1, by omega, z2, .inr (by simpa using h)⟩
        · exact ih (k + 1) (by omega) (by omega) (by omega)
  exact H 0 (by simp; omega) (by omega)

theorem inRange_any (n : Int) (w : World) (h1 : -1152921504606846976 ≤ n) (h2 : n ≤ 1152921504606846976) :
    Calls Try.prog 69 #[.int .i64 n] w fun e w' => e = .returned (.bool true) ∧ w' = w := by
  go_enter Try.func69, Try.ntmps69
  go_wp2
  go_ret
  exact ⟨rfl, rfl⟩
theorem zigzag_any (n : Int) (w : World) (h1 : -1152921504606846976 ≤ n) (h2 : n ≤ 1152921504606846976) :
    Calls Try.prog 71 #[.int .i64 n] w fun e w' => e = .returned (.int .i64 (zz n : Nat)) ∧ w' = w := by
  by_cases h : n < 0
  · have hz : ((zz n : Nat) : Int) = -2 * n - 1 := by unfold zz; rw [if_pos h]; omega
    rw [hz]
    go_enter Try.func71, Try.ntmps71
    go_wp2
    go_ret
    exact ⟨rfl, rfl⟩
  · have hz : ((zz n : Nat) : Int) = 2 * n := by unfold zz; rw [if_neg h]; omega
    rw [hz]
    go_enter Try.func71, Try.ntmps71
    go_wp2
    go_ret
    exact ⟨rfl, rfl⟩
end Go.Proofs.Ytdnbegcebloodaa

/- interval.First. -/
import Derived.BigQuiet
import Derived.BigRegion
import Derived.Deep.DeepCutAuto
import Derived.Deep.CutBlock
import Derived.Lib.MinMax
import Derived.Test.YtkokiahmgmeokaaGreatKfb
import Derived.Test.YtkokiahmgmeokaaGreatSb
import Derived.Test.YtkokiahmgmeokaaGreatYj
set_option linter.unusedVariables false
set_option linter.unusedSimpArgs false
namespace Go.Proofs.YtkokiahmgmeokaaGreat
open Go Go.RowKit Iv
attribute [local go_sem] Oper.semAt_some
attribute [local go_sem] B_getElem B_size B_app B_extract B_get B_toList
set_option maxRecDepth 100000 in
set_option maxHeartbeats 4000000 in
theorem first_any (l : List Sp) (u : Value) (f d : Int) (w : World) (hr : RSps w w.heap.size u l) (hc : chkSp l = 0) (hs : ∀ x ∈ l, spOK x) (f0 : 0 ≤ f) (f1 : f ≤ 2199023255552) (d0 : 1 ≤ d) (d1 : d ≤ 2199023255552) :
    Calls Tryz.prog 12 #[u, .int .i64 f, .int .i64 d] w fun e w' => e = .returned (.tuple #[.int .i64 ((hopG l d f).getD 0), .int .i64 (if (hopG l d f).isSome then 0 else 7)]) ∧ Below w.heap.size w w' := by
  have HR := Lib.hid hr
  have HS := Lib.hid hs
  obtain ⟨la, lc, rfl, l1, l2, l3, l4⟩ := hr
  have HL4 := Lib.hid l4
  unfold maxLen at l2
  have t1 : decide (d < 1) = false := decide_eq_false (by omega)
  have t2 : decide (d > 1152921504606846976) = false := decide_eq_false (by omega)
  have t3 : decide (f < -1152921504606846976) = false := decide_eq_false (by omega)
  have t4 : decide (f > 1152921504606846976) = false := decide_eq_false (by omega)
  obtain ⟨R1, hR1⟩ : ∃ q, (hopG l d f).getD 0 = q := ⟨_, rfl⟩
  obtain ⟨R2, hR2⟩ : ∃ q : Int, (if (hopG l d f).isSome then 0 else 7) = q := ⟨_, rfl⟩
  rw [hR1, hR2]
  have HR1 := Lib.hid hR1
  have HR2 := Lib.hid hR2
  clear l3 l4 hs hR1 hR2
  go_enter Tryz.func12, Tryz.ntmps12
  go_wp2_with fail
  refine (chkSp_any l _ _ HR.out).mono ?_
  rw [hc]
  rintro e w1 ⟨rfl, hb1⟩
  have HB1 := Lib.hid hb1
  clear hb1
  go_wp2_with fail
  go_loopw [30] (fun kv wr => ∃ k : Nat, k ≤ l.length ∧ kv = .int .i64 (k : Int) ∧ Hid (hopG l d f = hopG (l.drop k) d f) ∧ Hid (Below w.heap.size w wr)) (fun kv _ => l.length - (intOf kv).toNat)
  case atStart => exact ⟨0, Nat.zero_le _, rfl, Lib.hid rfl, HB1⟩
  case round =>
    obtain ⟨k, hk, rfl, HE, HB⟩ := hrel
    by_cases hlt : k < l.length
    · obtain ⟨x, hx⟩ : ∃ x, l[k]? = some x := ⟨_, List.getElem?_eq_getElem hlt⟩
      obtain ⟨lb, ol, rfl, hlb, hlc⟩ := HL4.out (by omega)
      have q0 : wr.cell? ⟨lb, ol + k * 2, none⟩ = some (.int .i64 x.1) := (HB.out.cell (p := ⟨lb, ol + k * 2, none⟩) hlb).trans (sp0 hlc hx)
      have q1 : wr.cell? ⟨lb, ol + k * 2 + 1, none⟩ = some (.int .i64 x.2) := (HB.out.cell (p := ⟨lb, ol + k * 2 + 1, none⟩) hlb).trans (sp1 hlc hx)
      have hxo := HS.out x (List.mem_of_getElem? hx)
      unfold spOK at hxo
      have HDR : Hid (hopG (l.drop k) d f = if max x.1 f + d ≤ x.2 then some (max x.1 f) else hopG (l.drop (k + 1)) d f) := Lib.hid (by
        rw [List.drop_eq_getElem_cons hlt]
        have : l[k] = x := (List.getElem?_eq_some_iff.1 hx).2
        rw [this]; rfl)
      obtain ⟨M, hM⟩ : ∃ q, max x.1 f = q := ⟨_, rfl⟩
      have hM0 : 0 ≤ M ∧ M ≤ 2199023255552 := by omega
      rw [hM] at HDR
      have HM := Lib.hid hM
      have k0 : (0 : Int) ≤ (k : Int) := by omega
      have k1 : (k : Int) < (l.length : Int) := by omega
      have w1_ : IntKind.i64.wrap (M + d) = M + d := by rw [IntKind.wrap_i64]; omega
      have zr : w.heap.size ≤ wr.heap.size := HB.out.size
      have hmx' : (if f ≤ x.1 then x.1 else f) = M := by rw [← HM.out]; omega
      have hmx : max x.1 f = M := HM.out
      clear hx hM hlc hxo hM0
      by_cases zz : M + d ≤ x.2
      · have dz : decide (M + d ≤ x.2) = true := decide_eq_true zz
        have HRS : Hid (hopG l d f = some M) := Lib.hid (by rw [HE.out, HDR.out, if_pos zz])
        clear zz
        go_wp2
        refine bodyPost_ret (results_tmp2 rfl _ _ _) rfl ?_
        have e1 := HR1.out
        have e2 := HR2.out
        rw [HRS.out] at e1 e2
        rw [← e1, ← e2]
        exact ⟨rfl, HB.out.alloc zr _⟩
      · have dz : decide (M + d ≤ x.2) = false := decide_eq_false zz
        have HRS : Hid (hopG l d f = hopG (l.drop (k + 1)) d f) := Lib.hid (by rw [HE.out, HDR.out, if_neg zz])
        clear zz
        go_wp2
        go_roundw
        case rel => exact ⟨k + 1, by omega, by go_num, HRS, Lib.hid (HB.out.alloc zr _)⟩
        case measure => simp [intOf]; omega
    · obtain rfl : k = l.length := by omega
      have HRS : Hid (hopG l d f = none) := Lib.hid (by rw [HE.out, List.drop_length]; rfl)
      go_wp2
      refine bodyPost_ret (results_tmp2 rfl _ _ _) rfl ?_
      have e1 := HR1.out
      have e2 := HR2.out
      rw [HRS.out] at e1 e2
      rw [← e1, ← e2]
      exact ⟨rfl, HB.out⟩
def covB (x y : Sp) : Bool := decide (y.1 ≤ x.1) && decide (x.2 ≤ y.2)
set_option maxHeartbeats 2000000 in
theorem cov1_any (x y : Sp) (z : Nat) (w : World) (hz : w.heap[z]? = some (.cells #[.int .i64 x.1, .int .i64 x.2] 50 (0, 0))) :
    Calls Tryz.prog 29 #[.agg #[.int .i64 y.1, .int .i64 y.2], .pointer (some ⟨z, 0, none⟩)] w fun e w' => e = .returned (.bool (covB x y)) ∧ Below w.heap.size w w' := by
  have cz := fun o => cellB hz o
  have hzl : z < w.heap.size := (Array.getElem?_eq_some_iff.1 hz).1
  unfold covB
  obtain ⟨d1, h1⟩ : ∃ q, decide (y.1 ≤ x.1) = q := ⟨_, rfl⟩
  obtain ⟨d2, h2⟩ : ∃ q, decide (x.2 ≤ y.2) = q := ⟨_, rfl⟩
  rw [h1, h2]
  clear hz
  cases d1 <;> cases d2 <;>
  · go_enter Tryz.func29, Tryz.ntmps29
    go_wp2
    go_ret
    exact ⟨rfl, belowA⟩
set_option maxRecDepth 100000 in
set_option maxHeartbeats 2000000 in
theorem covers_any (l : List Sp) (u : Value) (x : Sp) (w : World) (hr : RSps w w.heap.size u l) (hc : chkSp l = 0) (hv : vSp x = true) :
    Calls Tryz.prog 11 #[u, .agg #[.int .i64 x.1, .int .i64 x.2]] w fun e w' => e = .returned (.bool (l.any (covB x))) ∧ Below w.heap.size w w' := by
  have HR := Lib.hid hr
  obtain ⟨la, lc, rfl, -⟩ := hr
  obtain ⟨R, hR⟩ : ∃ q, l.any (covB x) = q := ⟨_, rfl⟩
  have HRR := Lib.hid hR
  rw [hR]
  clear hR
  have hcall : ∀ args W, (callFunc 29 args).run Tryz.prog W = .ok (.enter 29 args) W := fun _ _ => by kernel_rfl
  go_enter Tryz.func11, Tryz.ntmps11
  go_wp2_with fail
  refine (valid_any x _).mono ?_
  rw [hv]
  rintro e w1 ⟨rfl, hb1⟩
  have HB1 := Lib.hid (btrans0 (balloc0 (Below.refl _ _)) hb1)
  have GX : Hid (w1.heap[w.heap.size]? = some (.cells #[.int .i64 x.1, .int .i64 x.2] 50 (0, 0))) := Lib.hid ((hb1.block _ (by simp)).trans heap_new)
  clear hb1
  go_wp2_with fail
  refine (chkSp_any l _ _ (HR.out.below' HB1.out)).mono ?_
  rw [hc]
  rintro e w2 ⟨rfl, hb2⟩
  have HB2 := Lib.hid (btrans0 HB1.out hb2)
  have GX2 : Hid (w2.heap[w.heap.size]? = some (.cells #[.int .i64 x.1, .int .i64 x.2] 50 (0, 0))) := Lib.hid ((hb2.block _ (Array.getElem?_eq_some_iff.1 GX.out).1).trans GX.out)
  clear hb2
  go_wp2_with fail
  refine (contains_PredS l _ 29 #[.pointer (some ⟨w.heap.size, 0, none⟩)] (covB x) _ (HR.out.below' HB2.out) ⟨hcall, fun y V _ hV => cov1_any x y w.heap.size V ((hV.block _ (Array.getElem?_eq_some_iff.1 GX2.out).1).trans GX2.out)⟩).mono ?_
  rw [HRR.out]
  rintro e w3 ⟨rfl, hb3⟩
  have HB3 := Lib.hid (btrans0 HB2.out hb3)
  clear hb3
  go_wp2
  go_ret
  exact ⟨rfl, HB3.out⟩
end Go.Proofs.YtkokiahmgmeokaaGreat

/- Walks of layer 17 (fragment): parts at Pieces' sizes. -/
import Derived.RangeFuncNested
import Derived.RangeFuncBound
import Derived.RangeFuncCalls
import Derived.RangeFuncLeaves
import Derived.RangeFuncBox
import Derived.RangeFuncFrom
import Derived.Shelf.Abstract
import Derived.Shelf.RegionOpen
import Derived.WalkKit
import Derived.OwnWalkIn
import Derived.TacticsInMore
import Derived.LoopNIn
import Derived.LoopIn
import Derived.Test.YtibfchdhppdccaaFf
import Derived.Test.YtibfchdhppdccaaRI
import Derived.Test.YtibfchdhppdccaaFg
set_option linter.unusedVariables false
set_option linter.unusedSimpArgs false
namespace Go.Proofs.Ytibfchdhppdccaa
open Go Go.RowKit Go.Shelf
attribute [local go_sem] Oper.semAt_some

theorem pieces1_any (k mo ev : Int) (B C : Nat) (w : World) (h : w.cell? ⟨B, 0, none⟩ = some (.int .i64 mo)) (h2 : w.cell? ⟨C, 0, none⟩ = some (.int .i64 ev)) (e1 : 0 ≤ ev) (e2 : ev ≤ 1000000) :
    Calls Try.prog 36 #[.int .i64 k, .pointer (some ⟨B, 0, none⟩), .pointer (some ⟨C, 0, none⟩)] w fun e w' => e = .returned (.int .i64 (if k < mo then ev + 1 else ev)) ∧ w' = w := by
  by_cases z : k < mo
  · rw [if_pos z]
    go_enter Try.func36, Try.ntmps36
    go_wp2
    go_ret
    exact ⟨rfl, rfl⟩
  · rw [if_neg z]
    have z' : mo ≤ k := by omega
    clear z
    go_enter Try.func36, Try.ntmps36
    go_wp2
    go_ret
    exact ⟨rfl, rfl⟩

set_option maxRecDepth 100000 in
set_option maxHeartbeats 1000000 in
theorem partsP_in (F : Fence) (n : Nat) (h8 : F.fn 55) (h9 : F.fn 36) (hro : F.round = none) (hn : 1 ≤ n) (l Bx Bs Bm Be n₀ z : Nat) (off To ev mo : Int) (sz : Nat → Int) (Ff : Nat → Nat) (K : Nat)
    (hS : ∀ (k : Nat) W, k < K → W.cell? ⟨Bm, 0, none⟩ = some (.int .i64 mo) → W.cell? ⟨Be, 0, none⟩ = some (.int .i64 ev) → CallsIn F (n - 1) Try.prog 36 #[.int .i64 (k : Int), .pointer (some ⟨Bm, 0, none⟩), .pointer (some ⟨Be, 0, none⟩)] W fun e w' => e = .returned (.int .i64 (sz k)) ∧ w' = W)
    (h0 : Ff 0 = 0) (hK : off + (Ff K : Int) = To) (hF : ∀ k, k < K → off + (Ff k : Int) < To ∧ min (off + (Ff k : Int) + sz k) To = off + (Ff (k + 1) : Int)) (ho : 0 ≤ off) (hT : To ≤ 1000000) (hm : ∀ k, k < K → 1 ≤ sz k ∧ sz k ≤ 1000000) (hK2 : K ≤ 1000000)
    (hbx : Bx < n₀) (hbs : Bs < n₀) (hbm : Bm < n₀) (hzx : Bx ≠ z) (hzs : Bs ≠ z) (hzm : Bm ≠ z) (hbe : Be < n₀) (hze : Be ≠ z) (J Jx : List (Sp off To) → World → Prop)
    (hJd : ∀ pre W, J pre W → J pre W.drew)
    (hY : ∀ pre x W, J pre W → pre.length < K → YieldAt F (n - 1) Try.prog l #[.agg #[.int .i64 x.1.1, .int .i64 x.1.2]] W fun e W' =>
      (e = .returned (.bool true) ∧ J (pre ++ [x]) W' ∧ KpX n₀ z W W') ∨ (e = .returned (.bool false) ∧ Jx (pre ++ [x]) W'))
    (W : World) (hB0 : W.cell? ⟨Bx, 0, none⟩ = some (.int .i64 off)) (hB1 : W.cell? ⟨Bx, 1, none⟩ = some (.int .i64 To)) (hB2 : W.cell? ⟨Bs, 0, none⟩ = some (.func (.func 36) #[] #[.pointer (some ⟨Bm, 0, none⟩), .pointer (some ⟨Be, 0, none⟩)])) (hB3 : W.cell? ⟨Bm, 0, none⟩ = some (.int .i64 mo)) (hB4 : W.cell? ⟨Be, 0, none⟩ = some (.int .i64 ev)) (hJ0 : J [] W) :
    CallsIn F n Try.prog 55 #[.func (.yield l) #[] #[], .pointer (some ⟨Bx, 0, none⟩), .pointer (some ⟨Bs, 0, none⟩)] W fun e W' => (∃ v, e = .returned v) ∧
      ((∃ ys : List (Sp off To), ys.map (·.1) = spans off Ff K ∧ J ys W') ∨ (∃ pre, True ∧ Jx pre W')) := by
  have H0 := Lib.hid h0
  have HK := Lib.hid hK
  have HF := Lib.hid hF
  clear h0 hK hF
  refine callsIn_of_wp Try.func55 rfl h8 ?_ hro
  simp only [Try.ntmps55, List.size_toArray, List.length_cons, List.length_nil, Nat.reduceAdd, Nat.reduceSub, Array.replicate_succ, Array.replicate_zero, List.push_toArray, List.append_toArray, List.nil_append, List.cons_append]
  gi_wp2
  refine wpIn_region_plan (fun W' => W'.cell? ⟨Bx, 0, none⟩ = some (.int .i64 off)) [0, 1, 0, 0] [0, 1, 2, 3] (by kernel_rfl) (by kernel_rfl) ?_ ?_
  · go_simp
  (iterate 4 (refine plan_heldI rfl (by decide) (by rfl) (fun w1 => by rfl) (fun w1 hS => by (try (have hS := hS rfl; obtain hS := hS; repeat (obtain ⟨_, hS⟩ := hS))); go_simp; rfl) ?_; simp only [Act.put, List.setIfInBounds_toArray, List.set_cons_zero, List.set_cons_succ]))
  refine plan_doneI ?_
  gi_wp2
  gi_loopw [4, 5] (fun kv fv w1 => ∃ (k : Nat) (f : Int) (pre : List (Sp off To)), k ≤ K ∧ kv = .int .i64 (k : Int) ∧ fv = .int .i64 f ∧ Hid (f = off + (Ff k : Int)) ∧ 0 ≤ f ∧ f ≤ To ∧ Hid (pre.map (·.1) = spans off Ff k) ∧ J pre w1 ∧ KpX n₀ z W w1) (fun kv _ _ => K - (intOf kv).toNat)
  case atStart => exact ⟨0, off, [], Nat.zero_le _, rfl, rfl, Lib.hid (by rw [H0.out]; simp), ho, by have := HK.out; omega, Lib.hid rfl, hJd _ _ hJ0, (KpX.refl _ _ _).drew⟩
  case round =>
    obtain ⟨k, f, pre, hk, rfl, rfl, Hf, hf1, hf2, HP, hJ, hB⟩ := hrel
    have b1 : wr.cell? ⟨Bx, 1, none⟩ = some (.int .i64 To) := (hB.cell (p := ⟨Bx, 1, none⟩) hbx hzx).trans hB1
    have b2 : wr.cell? ⟨Bs, 0, none⟩ = some (.func (.func 36) #[] #[.pointer (some ⟨Bm, 0, none⟩), .pointer (some ⟨Be, 0, none⟩)]) := (hB.cell (p := ⟨Bs, 0, none⟩) hbs hzs).trans hB2
    have b3 : wr.cell? ⟨Bm, 0, none⟩ = some (.int .i64 mo) := (hB.cell (p := ⟨Bm, 0, none⟩) hbm hzm).trans hB3
    have b4 : wr.cell? ⟨Be, 0, none⟩ = some (.int .i64 ev) := (hB.cell (p := ⟨Be, 0, none⟩) hbe hze).trans hB4
    by_cases hlt : k < K
    · obtain ⟨q1, q2⟩ := HF.out k hlt
      have hS' := hS k wr.drew hlt (by exact b3) (by exact b4)
      obtain ⟨hm1, hm2⟩ := hm k hlt
      obtain ⟨m, hmS⟩ : ∃ m, sz k = m := ⟨_, rfl⟩
      rw [hmS] at hS' q2 hm1 hm2
      clear hmS
      have HS' := Lib.hid hS'
      clear hS'
      have Q1 := Lib.hid q1
      have Q2 := Lib.hid q2
      have hft : f < To := by have := Hf.out; omega
      clear q1 q2
      gi_wp2
      refine wpIn_region_plan (fun W' => W'.cell? ⟨Bx, 1, none⟩ = some (.int .i64 To) ∧ W'.cell? ⟨Bs, 0, none⟩ = some (.func (.func 36) #[] #[.pointer (some ⟨Bm, 0, none⟩), .pointer (some ⟨Be, 0, none⟩)])) [0, 1, 0, 2, 0, 0, 1, 0, 0] [0, 1, 2, 5, 6, 3, 4, 7, 8] (by kernel_rfl) (by kernel_rfl) ?_ ?_
      · go_simp
      (iterate 5 (refine plan_heldI rfl (by decide) (by rfl) (fun w1 => by rfl) (fun w1 hS => by (try (have hS := hS rfl; obtain hS := hS; repeat (obtain ⟨_, hS⟩ := hS))); go_simp; rfl) ?_; simp only [Act.put, List.setIfInBounds_toArray, List.set_cons_zero, List.set_cons_succ]))
      (refine plan_keepI rfl rfl (by rfl) (fun K hK => ?_); go_simp)
      refine CallsIn.mono HS'.out ?_
      rintro e w' ⟨rfl, rfl⟩
      (refine hK _ _ (by go_simp) ?_; clear hK K; (try simp only [Act.put, List.setIfInBounds_toArray, List.set_cons_zero, List.set_cons_succ]))
      have hw : IntKind.i64.wrap (f + m) = f + m := by rw [IntKind.wrap_i64]; omega
      by_cases hmin : f + m ≤ To
      all_goals
        (try (have hmin' : To < f + m := by omega))
        (iterate 3 (refine plan_heldI rfl (by decide) (by rfl) (fun w1 => by rfl) (fun w1 hS => by (try (have hS := hS rfl; obtain hS := hS; repeat (obtain ⟨_, hS⟩ := hS))); go_simp; rfl) ?_; simp only [Act.put, List.setIfInBounds_toArray, List.set_cons_zero, List.set_cons_succ]))
        refine plan_doneI ?_
        clear hw
        have hX : ∀ X : Int, X = min (f + m) To → Hid (pre.map (·.1) ++ [(f, X)] = spans off Ff (k + 1)) ∧ X = off + (Ff (k + 1) : Int) := fun X hX => by
          have h2 := Q2.out
          rw [← Hf.out, ← hX] at h2
          refine ⟨Lib.hid ?_, h2⟩
          rw [spans_succ, HP.out, ← Hf.out, ← h2]
        obtain ⟨X, hXe⟩ : ∃ X, X = min (f + m) To := ⟨_, rfl⟩
        obtain ⟨hX1, hX2⟩ := hX X hXe
        have hXm : X = min (f + m) To := hXe
        have hXb1 : f < X := by omega
        have hXb2 : X ≤ To := by omega
        have hXb0 : off ≤ f := by have := Hf.out; omega
        obtain ⟨xs, hxs⟩ : ∃ x : Sp off To, x.1 = (f, X) := ⟨⟨(f, X), hXb0, by show f ≤ X; omega, hXb2⟩, rfl⟩
        obtain ⟨fn, tmps, assign, body, hy, hR⟩ := hY pre xs wr.drew (hJd _ _ hJ) (by rw [← List.length_map (f := fun x : Sp off To => x.1), HP.out, spans_len]; exact hlt)
        rw [hxs] at hy
        dsimp only at hy
        have HXS := Lib.hid hxs
        clear hxs
        have HX2 := Lib.hid hX2
        have hXc : (f + m ≤ To ∧ X = f + m) ∨ (To < f + m ∧ X = To) := by omega
        clear hX hX2 hXe hXm
        rcases hXc with ⟨_, rfl⟩ | ⟨_, rfl⟩ <;> first | (exfalso; omega) | skip
        gi_wp2
        refine hR.mono ?_
        rintro e W3 (⟨rfl, hJ3, hk3⟩ | ⟨rfl, hJx3⟩)
        · gi_wp2
          go_roundw
          case rel => exact ⟨k + 1, _, _, by omega, by go_num, rfl, HX2, by omega, by omega, (by rw [List.map_append, List.map_cons, HXS.out, List.map_nil]; exact hX1), hJ3, hB.drew.trans hk3⟩
          case measure => simp [intOf]; omega
        · gi_wp2
          refine bodyPost_ret (results_none rfl _ _ _) rfl ?_
          exact ⟨⟨_, rfl⟩, .inr ⟨_, trivial, hJx3⟩⟩
    · obtain rfl : k = K := by omega
      have hft : f = To := by have := Hf.out; have := HK.out; omega
      have HFT := Lib.hid hft
      have hft2 : To ≤ f := by omega
      clear hft
      gi_wp2
      go_end0
      exact ⟨⟨_, rfl⟩, .inl ⟨pre, HP.out, hJ⟩⟩
end Go.Proofs.Ytibfchdhppdccaa

/- Chapter 18: a function that answers a bool, over a row of bundles; the law's great. -/
import Derived.Test.YtpnfkmlgelcbgaaUd
set_option linter.unusedVariables false
set_option linter.unusedSimpArgs false
namespace Go.Proofs.Ytpnfkmlgelcbgaa
open Go Go.RowKit Iv
attribute [local go_sem] Oper.semAt_some
attribute [local go_sem] B_getElem B_size B_app B_extract B_get B_toList
def PredAny (f : FuncId) (caps : Array Value) (w : World) (l : List Bun) : Prop := (∀ args W, (callFunc f args).run Try.prog W = .ok (.enter f args) W) ∧
  ∀ (x : Bun) (ux : Value) (W : World), x ∈ l → Below w.heap.size w W → RBlks W W.heap.size ux x.blocks → Calls Try.prog f (#[.agg (bunC x ux).toArray] ++ caps) W (AnyBool W)
set_option maxRecDepth 100000 in
set_option maxHeartbeats 2000000 in
theorem index_anyB (l : List Bun) (u : Value) (f : FuncId) (caps : Array Value) (w : World) (h : RBuns w w.heap.size u l) (hp : PredAny f caps w l) :
    Calls Try.prog 79 #[u, .func (.func f) #[] caps] w fun e w' => (∃ k : Int, e = .returned (.int .i64 k)) ∧ Below w.heap.size w w' := by
  obtain ⟨a, c, rfl, h1, h2, h3, h4⟩ := h
  unfold maxLen at h2
  have hlen : l.length ≤ 9223372036854775807 := by omega
  have H4 := Lib.hid h4
  obtain ⟨hcall, hq⟩ := hp
  have HP := Lib.hid hq
  clear h3 h4 hq
  go_enter Try.func79, Try.ntmps79
  go_wp2
  go_loopw [8] (fun i wr => ∃ k : Nat, k ≤ l.length ∧ i = .int .i64 k ∧ Below w.heap.size w wr) (fun i _ => l.length - (intOf i).toNat)
  case atStart => exact ⟨0, Nat.zero_le _, rfl, Below.refl _ _⟩
  case round =>
    obtain ⟨k, hk, rfl, hB⟩ := hrel
    by_cases hlt : k < l.length
    · obtain ⟨bb, o, rfl, hbn, hcell⟩ := H4.out (by omega)
      obtain ⟨x, hx⟩ : ∃ x, l[k]? = some x := ⟨_, List.getElem?_eq_getElem hlt⟩
      obtain ⟨ux, hc, hub⟩ := hcell k x hx
      have q0 : wr.cell? ⟨bb, o + k * 12, none⟩ = some (.int .i64 x.src) := (hB.cell (p := ⟨bb, o + k * 12 + 0, none⟩) hbn).trans (hc 0 _ rfl)
      have q1 : wr.cell? ⟨bb, o + k * 12 + 1, none⟩ = some (.int .i64 x.crt) := (hB.cell (p := ⟨bb, o + k * 12 + 1, none⟩) hbn).trans (hc 1 _ rfl)
      have q2 : wr.cell? ⟨bb, o + k * 12 + 2, none⟩ = some (.int .i64 x.seq) := (hB.cell (p := ⟨bb, o + k * 12 + 2, none⟩) hbn).trans (hc 2 _ rfl)
      have q3 : wr.cell? ⟨bb, o + k * 12 + 3, none⟩ = some (.int .i64 x.off) := (hB.cell (p := ⟨bb, o + k * 12 + 3, none⟩) hbn).trans (hc 3 _ rfl)
      have q4 : wr.cell? ⟨bb, o + k * 12 + 4, none⟩ = some (.int .i64 x.tot) := (hB.cell (p := ⟨bb, o + k * 12 + 4, none⟩) hbn).trans (hc 4 _ rfl)
      have q5 : wr.cell? ⟨bb, o + k * 12 + 5, none⟩ = some (.int .i64 x.dk) := (hB.cell (p := ⟨bb, o + k * 12 + 5, none⟩) hbn).trans (hc 5 _ rfl)
      have q6 : wr.cell? ⟨bb, o + k * 12 + 6, none⟩ = some (.int .i64 x.dn) := (hB.cell (p := ⟨bb, o + k * 12 + 6, none⟩) hbn).trans (hc 6 _ rfl)
      have q7 : wr.cell? ⟨bb, o + k * 12 + 7, none⟩ = some (.int .i64 x.life) := (hB.cell (p := ⟨bb, o + k * 12 + 7, none⟩) hbn).trans (hc 7 _ rfl)
      have q8 : wr.cell? ⟨bb, o + k * 12 + 8, none⟩ = some (.int .i64 x.prio) := (hB.cell (p := ⟨bb, o + k * 12 + 8, none⟩) hbn).trans (hc 8 _ rfl)
      have q9 : wr.cell? ⟨bb, o + k * 12 + 9, none⟩ = some (.int .i64 x.flags) := (hB.cell (p := ⟨bb, o + k * 12 + 9, none⟩) hbn).trans (hc 9 _ rfl)
      have q10 : wr.cell? ⟨bb, o + k * 12 + 10, none⟩ = some (ux) := (hB.cell (p := ⟨bb, o + k * 12 + 10, none⟩) hbn).trans (hc 10 _ rfl)
      have q11 : wr.cell? ⟨bb, o + k * 12 + 11, none⟩ = some (.string (B x.payload)) := (hB.cell (p := ⟨bb, o + k * 12 + 11, none⟩) hbn).trans (hc 11 _ rfl)
      have HUB := Lib.hid (hub.below hB (Nat.le_refl _) hB.size)
      obtain ⟨xa, xc, rfl, _⟩ := id hub
      clear hc hub
      have k0 : (0 : Int) ≤ (k : Int) := by omega
      have k1 : (k : Int) < (l.length : Int) := by omega
      have HX := Lib.hid hx
      have hsz := hB.size
      clear hx hcell
      go_wp2_with fail
      refine (HP.out x _ _ (List.mem_of_getElem? HX.out) hB HUB.out).mono ?_
      rintro e w1 ⟨q, rfl, hb1⟩
      have hb2 : Below w.heap.size w w1 := belowA
      cases q with
      | false =>
        go_wp2
        go_roundw
        case rel =>
          exact ⟨k + 1, by omega, by go_num, hb2⟩
        case measure => simp [intOf]; omega
      | true =>
        go_wp2
        go_ret
        exact ⟨⟨_, rfl⟩, hb2⟩
    · obtain rfl : k = l.length := by omega
      go_wp2
      go_ret
      exact ⟨⟨_, rfl⟩, hB⟩
set_option maxHeartbeats 1000000 in
theorem contains_anyB (l : List Bun) (u : Value) (f : FuncId) (caps : Array Value) (w : World) (h : RBuns w w.heap.size u l) (hp : PredAny f caps w l) :
    Calls Try.prog 38 #[u, .func (.func f) #[] caps] w (AnyBool w) := by
  have HR := Lib.hid h
  have HP := Lib.hid hp
  clear h hp
  go_enter Try.func38, Try.ntmps38
  go_wp2_with fail
  refine (index_anyB l u f caps _ HR.out HP.out).mono ?_
  rintro e w1 ⟨⟨k, rfl⟩, hb1⟩
  go_wp2
  go_ret
  exact ⟨_, rfl, hb1⟩
theorem bgreat_pred (l : List Bun) (w : World) (hf : ∀ x ∈ l, Fits x) : PredAny 37 #[] w l :=
  ⟨fun _ _ => by kernel_rfl, fun x ux W hx hW hub => bgreat_any x ux W hub (hf x hx)⟩
set_option maxRecDepth 100000 in
set_option maxHeartbeats 4000000 in
theorem great18_any (l : List Bun) (u : Value) (w : World) (h : RBuns w w.heap.size u l) (hf : ∀ x ∈ l, Fits x) :
    Calls Try.prog 11 #[u] w fun e w' => ∃ g, e = .returned (.bool g) ∧ (g = false → l.length ≤ 8) ∧ Below w.heap.size w w' := by
  have HR := Lib.hid h
  have HF := Lib.hid hf
  obtain ⟨a, c, rfl, h1, h2, h3, h4⟩ := h
  unfold maxLen at h2
  have hlen : l.length ≤ 9223372036854775807 := by omega
  clear h3 h4 hf h1 h2
  by_cases g : 8 < l.length
  · have d1 : decide ((l.length : Int) > 8) = true := decide_eq_true (by omega)
    have HG := Lib.hid g
    clear g
    go_enter Try.func11, Try.ntmps11
    go_wp2
    go_ret
    exact ⟨true, rfl, (fun h => by cases h), belowA⟩
  · have d1 : decide ((l.length : Int) > 8) = false := decide_eq_false (by omega)
    have HG := Lib.hid g
    clear g
    go_enter Try.func11, Try.ntmps11
    go_wp2_with fail
    refine (contains_anyB l _ _ #[] _ HR.out (bgreat_pred l _ HF.out)).mono ?_
    rintro e w1 ⟨g, rfl, hb1⟩
    go_wp2
    go_ret
    exact ⟨g, rfl, fun _ => by have := HG.out; omega, belowA⟩
end Go.Proofs.Ytpnfkmlgelcbgaa

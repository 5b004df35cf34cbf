/- Joined by port.py: XQa XQb -/
import Derived.BigQuiet
import Derived.Test.YtmknchdciblfjaaGreatJa
import Derived.Test.YtmknchdciblfjaaGreatJb
import Derived.Test.YtmknchdciblfjaaGreatJc
import Derived.Test.YtmknchdciblfjaaGreatJe
import Derived.Test.YtmknchdciblfjaaGreatJh
import Derived.Test.YtmknchdciblfjaaGreatJm
import Derived.Test.YtmknchdciblfjaaGreatJo
import Derived.Test.YtmknchdciblfjaaGreatJs
import Derived.Test.YtmknchdciblfjaaGreatJp
import Derived.Test.YtmknchdciblfjaaGreatJd
set_option linter.unusedVariables false
set_option linter.unusedSimpArgs false
/-! XQa -/
namespace Go.Proofs.YtmknchdciblfjaaGreat
open Go Go.RowKit
attribute [local go_sem] B_getElem B_size B_app B_extract B_get B_toList
def PredI (f : FuncId) (caps : Array Value) (Pd : Int → Bool) (w : World) (l : List Int) : Prop := (∀ args W, (callFunc f args).run Tryz.prog W = .ok (.enter f args) W) ∧
  ∀ (x : Int) (W : World), x ∈ l → Below w.heap.size w W → Calls Tryz.prog f (#[.int .i64 x] ++ caps) W fun e W' => e = .returned (.bool (Pd x)) ∧ Below W.heap.size W W'
theorem PredI.below {f : FuncId} {caps : Array Value} {Pd : Int → Bool} {w w' : World} {l : List Int} (h : PredI f caps Pd w l) (k : Below w.heap.size w w') : PredI f caps Pd w' l := ⟨h.1, fun x W hx hW => h.2 x W hx (btrans0 k hW)⟩
attribute [local go_sem] bunC
def PredB (f : FuncId) (caps : Array Value) (Pd : Bun → Bool) (w : World) (l : List Bun) : Prop := (∀ args W, (callFunc f args).run Tryz.prog W = .ok (.enter f args) W) ∧
  ∀ (x : Bun) (ux : Value) (W : World), x ∈ l → Below w.heap.size w W → RBlks W W.heap.size ux x.blocks → Calls Tryz.prog f (#[.agg (bunC x ux).toArray] ++ caps) W fun e W' => e = .returned (.bool (Pd x)) ∧ Below W.heap.size W W'
theorem PredB.below {f : FuncId} {caps : Array Value} {Pd : Bun → Bool} {w w' : World} {l : List Bun} (h : PredB f caps Pd w l) (k : Below w.heap.size w w') : PredB f caps Pd w' l := ⟨h.1, fun x ux W hx hW => h.2 x ux W hx (btrans0 k hW)⟩
def PredBIdx (Pd : Bun → Bool) (l : List Bun) (w : World) (e : Ending) (w' : World) : Prop := Below w.heap.size w w' ∧
  ((e = .returned (.int .i64 (-1)) ∧ ∀ x ∈ l, Pd x = false) ∨ ∃ k : Nat, e = .returned (.int .i64 k) ∧ k < l.length ∧ (∀ x ∈ l.take k, Pd x = false) ∧ ∀ x, l[k]? = some x → Pd x = true)
set_option maxRecDepth 100000 in
set_option maxHeartbeats 2000000 in
theorem index_PredB (l : List Bun) (u : Value) (f : FuncId) (caps : Array Value) (Pd : Bun → Bool) (w : World) (h : RBuns w w.heap.size u l) (hp : PredB f caps Pd w l) :
    Calls Tryz.prog 139 #[u, .func (.func f) #[] caps] w (PredBIdx Pd l w) := by
  obtain ⟨a, c, rfl, h1, h2, h3, h4⟩ := h
  unfold maxLen at h2
  have hlen : l.length ≤ 9223372036854775807 := by omega
  have H4 := Lib.hid h4
  obtain ⟨hcall, hq⟩ := hp
  have HP := Lib.hid hq
  clear h3 h4 hq
  go_enter Tryz.func139, Tryz.ntmps139
  go_wp2
  go_loopw [8] (fun i wr => ∃ k : Nat, k ≤ l.length ∧ i = .int .i64 k ∧ Hid (∀ x ∈ l.take k, Pd x = false) ∧ Below w.heap.size w wr) (fun i _ => l.length - (intOf i).toNat)
  case atStart => exact ⟨0, Nat.zero_le _, rfl, Lib.hid (by simp), Below.refl _ _⟩
  case round =>
    obtain ⟨k, hk, rfl, HF, hB⟩ := hrel
    by_cases hlt : k < l.length
    · obtain ⟨bb, o, rfl, hbn, hcell⟩ := H4.out (by omega)
      obtain ⟨x, hx⟩ : ∃ x, l[k]? = some x := ⟨_, List.getElem?_eq_getElem hlt⟩
      obtain ⟨ux, hc, hub⟩ := hcell k x hx
      have q0 : wr.cell? ⟨bb, o + k * 12, none⟩ = some (.int .i64 x.src) := (hB.cell (p := ⟨bb, o + k * 12 + 0, none⟩) hbn).trans (hc 0 _ rfl)
      have q1 : wr.cell? ⟨bb, o + k * 12 + 1, none⟩ = some (.int .i64 x.crt) := (hB.cell (p := ⟨bb, o + k * 12 + 1, none⟩) hbn).trans (hc 1 _ rfl)
      have q2 : wr.cell? ⟨bb, o + k * 12 + 2, none⟩ = some (.int .i64 x.seq) := (hB.cell (p := ⟨bb, o + k * 12 + 2, none⟩) hbn).trans (hc 2 _ rfl)
      have q3 : wr.cell? ⟨bb, o + k * 12 + 3, none⟩ = some (.int .i64 x.off) := (hB.cell (p := ⟨bb, o + k * 12 + 3, none⟩) hbn).trans (hc 3 _ rfl)
      have q4 : wr.cell? ⟨bb, o + k * 12 + 4, none⟩ = some (.int .i64 x.tot) := (hB.cell (p := ⟨bb, o + k * 12 + 4, none⟩) hbn).trans (hc 4 _ rfl)
      have q5 : wr.cell? ⟨bb, o + k * 12 + 5, none⟩ = some (.int .i64 x.dk) := (hB.cell (p := ⟨bb, o + k * 12 + 5, none⟩) hbn).trans (hc 5 _ rfl)
      have q6 : wr.cell? ⟨bb, o + k * 12 + 6, none⟩ = some (.int .i64 x.dn) := (hB.cell (p := ⟨bb, o + k * 12 + 6, none⟩) hbn).trans (hc 6 _ rfl)
      have q7 : wr.cell? ⟨bb, o + k * 12 + 7, none⟩ = some (.int .i64 x.life) := (hB.cell (p := ⟨bb, o + k * 12 + 7, none⟩) hbn).trans (hc 7 _ rfl)
      have q8 : wr.cell? ⟨bb, o + k * 12 + 8, none⟩ = some (.int .i64 x.prio) := (hB.cell (p := ⟨bb, o + k * 12 + 8, none⟩) hbn).trans (hc 8 _ rfl)
      have q9 : wr.cell? ⟨bb, o + k * 12 + 9, none⟩ = some (.int .i64 x.flags) := (hB.cell (p := ⟨bb, o + k * 12 + 9, none⟩) hbn).trans (hc 9 _ rfl)
      have q10 : wr.cell? ⟨bb, o + k * 12 + 10, none⟩ = some (ux) := (hB.cell (p := ⟨bb, o + k * 12 + 10, none⟩) hbn).trans (hc 10 _ rfl)
      have q11 : wr.cell? ⟨bb, o + k * 12 + 11, none⟩ = some (.string (B x.payload)) := (hB.cell (p := ⟨bb, o + k * 12 + 11, none⟩) hbn).trans (hc 11 _ rfl)
      have HUB := Lib.hid (hub.below hB (Nat.le_refl _) hB.size)
      obtain ⟨xa, xc, rfl, _⟩ := id hub
      clear hc hub
      have k0 : (0 : Int) ≤ (k : Int) := by omega
      have k1 : (k : Int) < (l.length : Int) := by omega
      obtain ⟨q, hq⟩ : ∃ q, Pd x = q := ⟨_, rfl⟩
      have HQ := Lib.hid hq
      have HX := Lib.hid hx
      have hsz := hB.size
      clear hq hx hcell
      go_wp2_with fail
      refine (HP.out x _ _ (List.mem_of_getElem? HX.out) hB HUB.out).mono ?_
      rw [HQ.out]
      rintro e w1 ⟨rfl, hb1⟩
      have hb2 : Below w.heap.size w w1 := belowA
      cases q with
      | false =>
        go_wp2
        go_roundw
        case rel =>
          refine ⟨k + 1, by omega, by go_num, Lib.hid ?_, hb2⟩
          intro y hy
          rw [List.take_add_one, HX.out] at hy
          rcases List.mem_append.1 hy with hy | hy
          · exact HF.out y hy
          · simp at hy; subst hy; exact HQ.out
        case measure => simp [intOf]; omega
      | true =>
        go_wp2
        go_ret
        exact ⟨hb2, .inr ⟨k, rfl, hlt, HF.out, fun y hy => by rw [HX.out] at hy; injection hy with hy; subst hy; exact HQ.out⟩⟩
    · obtain rfl : k = l.length := by omega
      go_wp2
      go_ret
      exact ⟨hB, .inl ⟨rfl, by have := HF.out; rwa [List.take_length] at this⟩⟩
set_option maxHeartbeats 1000000 in
theorem contains_PredB (l : List Bun) (u : Value) (f : FuncId) (caps : Array Value) (Pd : Bun → Bool) (w : World) (h : RBuns w w.heap.size u l) (hp : PredB f caps Pd w l) :
    Calls Tryz.prog 64 #[u, .func (.func f) #[] caps] w fun e w' => e = .returned (.bool (l.any Pd)) ∧ Below w.heap.size w w' := by
  have HR := Lib.hid h
  have HP := Lib.hid hp
  clear h hp
  go_enter Tryz.func64, Tryz.ntmps64
  go_wp2_with fail
  refine (index_PredB l u f caps Pd _ HR.out HP.out).mono ?_
  rintro e w1 ⟨hb1, ⟨rfl, hF⟩ | ⟨k, rfl, hk, hF, hT⟩⟩
  · have HL : Hid (l.any Pd = false) := Lib.hid (by rw [List.any_eq_false]; intro x hx; rw [hF x hx]; simp)
    clear hF
    go_wp2
    go_ret
    exact ⟨by rw [HL.out]; rfl, hb1⟩
  · have HL : Hid (l.any Pd = true) := Lib.hid (by rw [List.any_eq_true]; exact ⟨l[k], List.getElem_mem hk, hT _ (List.getElem?_eq_getElem hk)⟩)
    clear hF hT
    go_wp2
    go_ret
    exact ⟨by rw [HL.out]; first | rfl | (simp; done), hb1⟩
end Go.Proofs.YtmknchdciblfjaaGreat
/-! XQb -/
namespace Go.Proofs.YtmknchdciblfjaaGreat
open Go Go.RowKit
attribute [local go_sem] B_getElem B_size B_app B_extract B_get B_toList
attribute [local go_sem] bunC
theorem RBuns.below'' {w w' : World} {v : Value} {l : List Bun} (h : RBuns w w.heap.size v l) (k : Below w.heap.size w w') : RBuns w' w'.heap.size v l := h.below k (Nat.le_refl _) k.size
theorem RBlks.below' {w w' : World} {v : Value} {l : List Blk} (h : RBlks w w.heap.size v l) (k : Below w.heap.size w w') : RBlks w' w'.heap.size v l := h.below k (Nat.le_refl _) k.size
def joinedB (b : Bun) : Bool := hasF b.flags 64
theorem chk_flags {b : Bun} (h : chkE b = 0) : 0 ≤ b.flags ∧ b.flags ≤ 127 := by
  have := (chkE_zero h).2.1
  unfold flB at this
  simp only [Bool.and_eq_true, decide_eq_true_eq] at this
  exact this.1.1
set_option maxRecDepth 100000 in
set_option maxHeartbeats 4000000 in
theorem joined_any (b : Bun) (u : Value) (w : World) (h : RBlks w w.heap.size u b.blocks) (hv : chkE b = 0) :
    Calls Tryz.prog 32 #[.agg (bunC b u).toArray] w fun e w' => e = .returned (.bool (joinedB b)) ∧ Below w.heap.size w w' := by
  obtain ⟨f1, f2⟩ := chk_flags hv
  have a1 := (and_flag b.flags f1 f2).2.1
  obtain ⟨ua, uc, rfl, _⟩ := id h
  obtain ⟨J, hJ⟩ : ∃ q, joinedB b = q := ⟨_, rfl⟩
  rw [show hasF b.flags 64 = J from hJ] at a1
  rw [hJ]
  clear h hJ
  go_enter Tryz.func32, Tryz.ntmps32
  simp only [bunC]
  go_wp2
  go_ret
  exact ⟨rfl, belowA⟩
def misB (y x : Bun) : Bool := x.src != y.src || (x.dk != y.dk || x.dn != y.dn) || x.prio != y.prio
theorem neEndI (a b c d : Int) (w : World) : Sem.run Tryz.prog (Go.binOp .neq 29 (.agg #[.int .i64 a, .int .i64 b]) (.agg #[.int .i64 c, .int .i64 d])) w = .ok (.bool (a != c || b != d)) w := by
  go_simp
  by_cases h1 : a = c <;> by_cases h2 : b = d <;> simp [h1, h2]
attribute [local go_sem ↓] neEndI
theorem chk1_pred (l : List Bun) (w : World) (hf : ∀ x ∈ l, Fits x) : PredB 65 #[] (fun x => chkE x != 0) w l := by
  refine ⟨fun _ _ => by kernel_rfl, fun x ux W hx hW hub => ?_⟩
  have HF := Lib.hid (hf x hx)
  have HU := Lib.hid hub
  obtain ⟨ua, uc, rfl, _⟩ := id hub
  obtain ⟨E, hE⟩ : ∃ q, chkE x = q := ⟨_, rfl⟩
  have HE := Lib.hid hE
  show Calls Tryz.prog 65 #[.agg (bunC x (.slice ua x.blocks.length uc)).toArray] W fun e W' => e = .returned (.bool (chkE x != 0)) ∧ Below W.heap.size W W'
  rw [hE]
  clear hub hE hx
  go_enter Tryz.func65, Tryz.ntmps65
  simp only [bunC]
  go_wp2_with fail
  refine (check_any x _ _ (HU.out.below' (balloc0 (Below.refl _ _))) HF.out).mono ?_
  rw [HE.out]
  rintro e w1 ⟨rfl, hb1⟩
  go_wp2
  go_ret
  exact ⟨rfl, belowA⟩
theorem joined_pred (l : List Bun) (w : World) (hf : ∀ x ∈ l, chkE x = 0) : PredB 32 #[] joinedB w l :=
  ⟨fun _ _ => by kernel_rfl, fun x ux W hx hW hub => joined_any x ux W hub (hf x hx)⟩
set_option maxRecDepth 100000 in
set_option maxHeartbeats 4000000 in
theorem chk2_pred (y : Bun) (r : List Bun) (g : Nat) (t : TypeId) (v : Value) (w : World) (hg : w.heap[g]? = some (.cells #[v] t (0, 0))) (hl : RBuns w w.heap.size v (y :: r)) : PredB 66 #[.pointer (some ⟨g, 0, none⟩)] (misB y) w (y :: r) := by
  have zg : g < w.heap.size := by
    rcases Nat.lt_or_ge g w.heap.size with z | z
    · exact z
    · rw [Array.getElem?_eq_none z] at hg; cases hg
  refine ⟨fun _ _ => by kernel_rfl, fun x ux W hx hW hub => ?_⟩
  obtain ⟨ua, uc, rfl, _⟩ := id hub
  have zW := hW.size
  have zgW : g < W.heap.size := by omega
  have c0 := cellB ((hW.block _ zg).trans hg) 0
  obtain ⟨a, c, rfl, h1, h2, h3, h4⟩ := hl
  obtain ⟨bb, o, rfl, hbn, hcell⟩ := h4 (by simp)
  obtain ⟨uy, hc, huy⟩ := hcell 0 y rfl
  have zb : bb < W.heap.size := by omega
  have q0 := (hW.cell (p := ⟨bb, o + 0 * 12 + 0, none⟩) hbn).trans (hc 0 _ rfl)
  have q5 := (hW.cell (p := ⟨bb, o + 0 * 12 + 5, none⟩) hbn).trans (hc 5 _ rfl)
  have q6 := (hW.cell (p := ⟨bb, o + 0 * 12 + 6, none⟩) hbn).trans (hc 6 _ rfl)
  have q8 := (hW.cell (p := ⟨bb, o + 0 * 12 + 8, none⟩) hbn).trans (hc 8 _ rfl)
  simp only [Nat.zero_mul, Nat.add_zero] at q0 q5 q6 q8
  have hlen : (0 : Int) < ((y :: r).length : Int) := by first | (simp; done) | (simp; omega)
  obtain ⟨n, hn⟩ : ∃ q, (y :: r).length = q := ⟨_, rfl⟩
  rw [hn] at c0 hlen
  obtain ⟨m1, hm1⟩ : ∃ q, (x.src != y.src) = q := ⟨_, rfl⟩
  obtain ⟨m2, hm2⟩ : ∃ q, (x.dk != y.dk || x.dn != y.dn) = q := ⟨_, rfl⟩
  obtain ⟨m3, hm3⟩ : ∃ q, (x.prio != y.prio) = q := ⟨_, rfl⟩
  have hM : misB y x = (m1 || m2 || m3) := by unfold misB; rw [hm1, hm2, hm3]
  show Calls Tryz.prog 66 #[.agg (bunC x (.slice ua x.blocks.length uc)).toArray, .pointer (some ⟨g, 0, none⟩)] W fun e W' => e = .returned (.bool (misB y x)) ∧ Below W.heap.size W W'
  rw [hM]
  clear hub hx hc huy hcell h1 h2 h3 h4 hg hM
  cases m1 with
  | true =>
    go_enter Tryz.func66, Tryz.ntmps66
    simp only [bunC]
    go_wp2
    go_quiet (fail)
    go_wp2
    go_ret
    exact ⟨rfl, belowA⟩
  | false =>
    cases m2 with
    | true =>
      go_enter Tryz.func66, Tryz.ntmps66
      simp only [bunC]
      go_wp2
      go_quiet (fail)
      go_wp2
      go_ret
      exact ⟨rfl, belowA⟩
    | false =>
      cases m3
      all_goals
        go_enter Tryz.func66, Tryz.ntmps66
        simp only [bunC]
        go_wp2
        go_quiet (fail)
        go_wp2
        go_ret
        exact ⟨rfl, belowA⟩
/-- why bundles cannot be joined -/
def chkJ (l : List Bun) : Int := match l with
  | [] => 20
  | y :: r => if (y :: r).any (fun x => chkE x != 0) = true then 1 else if (y :: r).any joinedB = true then 8 else if (y :: r).any (misB y) = true then 10 else 0
theorem any_chk {l : List Bun} (h : l.any (fun x => chkE x != 0) = false) : ∀ x ∈ l, chkE x = 0 := fun x hx => by
  have := List.any_eq_false.1 h x hx
  simpa using this
set_option maxRecDepth 100000 in
set_option maxHeartbeats 4000000 in
theorem checkJ_any (l : List Bun) (v : Value) (w : World) (h : RBuns w w.heap.size v l) (hf : ∀ x ∈ l, Fits x) :
    Calls Tryz.prog 21 #[v] w fun e w' => e = .returned (.int .i64 (chkJ l)) ∧ Below w.heap.size w w' := by
  have HR := Lib.hid h
  have HF := Lib.hid hf
  obtain ⟨a, c, rfl, _⟩ := id h
  clear hf
  cases l with
  | nil =>
    clear h
    have e0 : chkJ [] = 20 := rfl
    rw [e0]
    simp only [List.length_nil]
    go_enter Tryz.func21, Tryz.ntmps21
    go_wp2
    go_ret
    exact ⟨rfl, belowA⟩
  | cons y r =>
    obtain ⟨n, hn⟩ : ∃ q, (y :: r).length = q := ⟨_, rfl⟩
    have hn0 : ((n : Int) == 0) = false := by rw [beq_eq_false_iff_ne]; simp only [List.length_cons] at hn; omega
    obtain ⟨s1, h1⟩ : ∃ q, (y :: r).any (fun x => chkE x != 0) = q := ⟨_, rfl⟩
    obtain ⟨s2, h2⟩ : ∃ q, (y :: r).any joinedB = q := ⟨_, rfl⟩
    obtain ⟨s3, h3⟩ : ∃ q, (y :: r).any (misB y) = q := ⟨_, rfl⟩
    have hJ : chkJ (y :: r) = if s1 = true then 1 else if s2 = true then 8 else if s3 = true then 10 else 0 := by show (if (y :: r).any (fun x => chkE x != 0) = true then (1 : Int) else if (y :: r).any joinedB = true then 8 else if (y :: r).any (misB y) = true then 10 else 0) = _; rw [h1, h2, h3]
    rw [hJ]
    have H1 := Lib.hid h1
    have H2 := Lib.hid h2
    have H3 := Lib.hid h3
    rw [hn] at h ⊢
    have HR : Hid (RBuns w w.heap.size (.slice a n c) (y :: r)) := Lib.hid h
    have HN := Lib.hid hn
    clear h h1 h2 h3 hJ hn
    cases s1 with
    | true =>
      rw [if_pos rfl]
      go_enter Tryz.func21, Tryz.ntmps21
      go_wp2_with fail
      refine (contains_PredB (y :: r) _ _ _ _ _ (HR.out.below'' (balloc0 (Below.refl _ _))) (chk1_pred _ _ HF.out)).mono ?_
      rw [H1.out]
      rintro e w1 ⟨rfl, hb1⟩
      have b1 : Below w.heap.size w w1 := btrans0 (balloc0 (Below.refl _ _)) hb1
      have A1 : Hid (w1.heap[w.heap.size]? = some (.cells #[.slice a n c] 22 (0, 0))) := Lib.hid ((hb1.block _ (by simp)).trans heap_new)
      have c1 := fun o => cellB A1.out o
      have z1 : w.heap.size < w1.heap.size := by have := hb1.size; (try simp at this); omega
      go_wp2
      go_ret
      exact ⟨rfl, belowA⟩
    | false =>
      rw [if_neg (by simp)]
      cases s2 with
      | true =>
        rw [if_pos rfl]
        go_enter Tryz.func21, Tryz.ntmps21
        go_wp2_with fail
        refine (contains_PredB (y :: r) _ _ _ _ _ (HR.out.below'' (balloc0 (Below.refl _ _))) (chk1_pred _ _ HF.out)).mono ?_
        rw [H1.out]
        rintro e w1 ⟨rfl, hb1⟩
        have b1 : Below w.heap.size w w1 := btrans0 (balloc0 (Below.refl _ _)) hb1
        have A1 : Hid (w1.heap[w.heap.size]? = some (.cells #[.slice a n c] 22 (0, 0))) := Lib.hid ((hb1.block _ (by simp)).trans heap_new)
        have c1 := fun o => cellB A1.out o
        have z1 : w.heap.size < w1.heap.size := by have := hb1.size; (try simp at this); omega
        go_wp2_with fail
        refine (contains_PredB (y :: r) _ _ _ _ _ (HR.out.below'' b1) (joined_pred _ _ (any_chk H1.out))).mono ?_
        rw [H2.out]
        rintro e w2 ⟨rfl, hb2⟩
        have b2 : Below w.heap.size w w2 := btrans0 b1 hb2
        have A2 : Hid (w2.heap[w.heap.size]? = some (.cells #[.slice a n c] 22 (0, 0))) := Lib.hid ((hb2.block _ z1).trans A1.out)
        clear c1
        have c2 := fun o => cellB A2.out o
        have z2 : w.heap.size < w2.heap.size := by have := hb2.size; (try simp at this); omega
        go_wp2
        go_ret
        exact ⟨rfl, belowA⟩
      | false =>
        rw [if_neg (by simp)]
        cases s3 with
        | true =>
          rw [if_pos rfl]
          go_enter Tryz.func21, Tryz.ntmps21
          go_wp2_with fail
          refine (contains_PredB (y :: r) _ _ _ _ _ (HR.out.below'' (balloc0 (Below.refl _ _))) (chk1_pred _ _ HF.out)).mono ?_
          rw [H1.out]
          rintro e w1 ⟨rfl, hb1⟩
          have b1 : Below w.heap.size w w1 := btrans0 (balloc0 (Below.refl _ _)) hb1
          have A1 : Hid (w1.heap[w.heap.size]? = some (.cells #[.slice a n c] 22 (0, 0))) := Lib.hid ((hb1.block _ (by simp)).trans heap_new)
          have c1 := fun o => cellB A1.out o
          have z1 : w.heap.size < w1.heap.size := by have := hb1.size; (try simp at this); omega
          go_wp2_with fail
          refine (contains_PredB (y :: r) _ _ _ _ _ (HR.out.below'' b1) (joined_pred _ _ (any_chk H1.out))).mono ?_
          rw [H2.out]
          rintro e w2 ⟨rfl, hb2⟩
          have b2 : Below w.heap.size w w2 := btrans0 b1 hb2
          have A2 : Hid (w2.heap[w.heap.size]? = some (.cells #[.slice a n c] 22 (0, 0))) := Lib.hid ((hb2.block _ z1).trans A1.out)
          clear c1
          have c2 := fun o => cellB A2.out o
          have z2 : w.heap.size < w2.heap.size := by have := hb2.size; (try simp at this); omega
          go_wp2_with fail
          refine (contains_PredB (y :: r) _ _ _ _ _ (HR.out.below'' b2) (chk2_pred y r w.heap.size 22 _ _ A2.out (HR.out.below'' b2))).mono ?_
          rw [H3.out]
          rintro e w3 ⟨rfl, hb3⟩
          have b3 : Below w.heap.size w w3 := btrans0 b2 hb3
          have A3 : Hid (w3.heap[w.heap.size]? = some (.cells #[.slice a n c] 22 (0, 0))) := Lib.hid ((hb3.block _ z2).trans A2.out)
          clear c2
          have c3 := fun o => cellB A3.out o
          have z3 : w.heap.size < w3.heap.size := by have := hb3.size; (try simp at this); omega
          go_wp2
          go_ret
          exact ⟨rfl, belowA⟩
        | false =>
          rw [if_neg (by simp)]
          go_enter Tryz.func21, Tryz.ntmps21
          go_wp2_with fail
          refine (contains_PredB (y :: r) _ _ _ _ _ (HR.out.below'' (balloc0 (Below.refl _ _))) (chk1_pred _ _ HF.out)).mono ?_
          rw [H1.out]
          rintro e w1 ⟨rfl, hb1⟩
          have b1 : Below w.heap.size w w1 := btrans0 (balloc0 (Below.refl _ _)) hb1
          have A1 : Hid (w1.heap[w.heap.size]? = some (.cells #[.slice a n c] 22 (0, 0))) := Lib.hid ((hb1.block _ (by simp)).trans heap_new)
          have c1 := fun o => cellB A1.out o
          have z1 : w.heap.size < w1.heap.size := by have := hb1.size; (try simp at this); omega
          go_wp2_with fail
          refine (contains_PredB (y :: r) _ _ _ _ _ (HR.out.below'' b1) (joined_pred _ _ (any_chk H1.out))).mono ?_
          rw [H2.out]
          rintro e w2 ⟨rfl, hb2⟩
          have b2 : Below w.heap.size w w2 := btrans0 b1 hb2
          have A2 : Hid (w2.heap[w.heap.size]? = some (.cells #[.slice a n c] 22 (0, 0))) := Lib.hid ((hb2.block _ z1).trans A1.out)
          clear c1
          have c2 := fun o => cellB A2.out o
          have z2 : w.heap.size < w2.heap.size := by have := hb2.size; (try simp at this); omega
          go_wp2_with fail
          refine (contains_PredB (y :: r) _ _ _ _ _ (HR.out.below'' b2) (chk2_pred y r w.heap.size 22 _ _ A2.out (HR.out.below'' b2))).mono ?_
          rw [H3.out]
          rintro e w3 ⟨rfl, hb3⟩
          have b3 : Below w.heap.size w w3 := btrans0 b2 hb3
          have A3 : Hid (w3.heap[w.heap.size]? = some (.cells #[.slice a n c] 22 (0, 0))) := Lib.hid ((hb3.block _ z2).trans A2.out)
          clear c2
          have c3 := fun o => cellB A3.out o
          have z3 : w.heap.size < w3.heap.size := by have := hb3.size; (try simp at this); omega
          go_wp2
          go_ret
          exact ⟨rfl, belowA⟩
end Go.Proofs.YtmknchdciblfjaaGreat
/- Joined by port.py: XQg XQh XQi -/
set_option linter.unusedVariables false
set_option linter.unusedSimpArgs false
/-! XQg -/
namespace Go.Proofs.YtmknchdciblfjaaGreat
open Go Go.RowKit
section
variable {P : Program} (w : World)
theorem run_append_F (base : Nat) (t ty e : TypeId) (i : TypeInfo) (z : Value) (size bytes : Nat) (ht : P.underlying t = some (.slice e)) (hi : P.info? e = some i) (hz : i.zero = some z)
    (hsize : i.size = size) (hby : i.bytes = bytes) (hzs : z.cells.size = size) (hsz : 0 < size)
    (v : Value) (n : Nat) (xs : List Value) (hown : w.ownsRow base e size v n xs)
    (a : Addr) (m c : Nat) (news : List Value) (hl : news.length = m * size) (hnews : ∀ j u, news[j]? = some u → w.cell? (a.add j) = some u) (h1 : ∀ u ∈ news, u.oneCell' = true)
    (h63 : n + m ≤ maxLen) (hbytes : (n + m) * bytes ≤ 140737488355328) (hbase : base ≤ w.heap.size) (hm : 0 < m) :
    ∃ v' w', (Builtin.append_ #[t, t] ty #[v, .slice (some a) m c]).run P w = .ok v' w' ∧ w'.ownsRow base e size v' (n + m) (xs ++ news) ∧ w.grownBy w' v.ownBlock ∧ (v'.ownBlock = v.ownBlock ∨ v'.ownBlock = some w.heap.size) := by
  obtain ⟨v', w', hr, h2, h3, _⟩ := run_append_own (P := P) w base t ty e i z size bytes ht hi hz hsize hby hzs hsz v n xs hown a m c news hl hnews h1 h63 hbytes hbase
  refine ⟨v', w', hr, h2, h3, ?_⟩
  subst hsize hby
  have hsmall : n + m ≤ 9223372036854775807 := by simp only [maxLen] at h63; omega
  rcases hown.2 with ⟨rfl, rfl⟩ | ⟨g, cap, cur, rfl, hbg, hg, hnc, hcm, hcs, htake⟩
  · have hr2 := run_append_nil (P := P) w t ty e i z ht hi hz a m c news hl hnews hm (by omega) (by have hb := hbytes; simp only [Nat.zero_add] at hb; omega)
    rw [hr] at hr2
    injection hr2 with e1 e2
    subst e1
    exact .inr rfl
  · by_cases hroom : n + m ≤ cap
    · have hfit : n * i.size + news.length ≤ cur.size := by rw [hl, hcs, ← Nat.add_mul]; exact Nat.mul_le_mul_right _ hroom
      have hr2 := run_append_room (P := P) w t ty e i ht hi g n cap cur hg a m c news hl hnews h1 hroom hfit
      rw [hr] at hr2
      injection hr2 with e1 e2
      subst e1
      exact .inl rfl
    · have holds : ∀ j u, xs[j]? = some u → w.cell? ((⟨g, 0, none⟩ : Addr).add j) = some u := hown.cells (g := g) rfl
      have hr2 := run_append_grow (P := P) w t ty e i z ht hi hz ⟨g, 0, none⟩ n cap xs hown.1 holds a m c news hl hnews (by omega) (by omega) (growslice_fits (by omega) hbytes)
      rw [hr] at hr2
      injection hr2 with e1 e2
      subst e1
      exact .inr rfl
theorem wp_append_F {o : Oper} {a : Act} {K : Act → World → Prop} {Q : Exit → Act → World → Prop} (s x : Operand) (t : TypeId)
    (ho : o.op = .call { callee := .builtin .append, args := #[s, x], argTypes := #[t, t] })
    (base : Nat) (e : TypeId) (i : TypeInfo) (z : Value) (size bytes : Nat) (ht : P.underlying t = some (.slice e)) (hi : P.info? e = some i) (hz : i.zero = some z)
    (hsize : i.size = size) (hby : i.bytes = bytes) (hzs : z.cells.size = size) (hsz : 0 < size)
    (v : Value) (n : Nat) (xs : List Value) (hs : a.eval s = v) (hown : w.ownsRow base e size v n xs)
    (ad : Addr) (m c : Nat) (news : List Value) (hx : a.eval x = .slice (some ad) m c) (hl : news.length = m * size) (hnews : ∀ j u, news[j]? = some u → w.cell? (ad.add j) = some u) (h1 : ∀ u ∈ news, u.oneCell' = true)
    (h63 : n + m ≤ maxLen) (hbytes : (n + m) * bytes ≤ 140737488355328) (hbase : base ≤ w.heap.size) (hm : 0 < m)
    (h : ∀ v' w', w'.ownsRow base e size v' (n + m) (xs ++ news) → w.grownBy w' v.ownBlock → (v'.ownBlock = v.ownBlock ∨ v'.ownBlock = some w.heap.size) → K (a.put o.dst v') w') : o.wp P a w K Q := by
  obtain ⟨v', w', hr, h2, h3, h4⟩ := run_append_F (P := P) w base t o.type e i z size bytes ht hi hz hsize hby hzs hsz v n xs hown ad m c news hl hnews h1 h63 hbytes hbase hm
  unfold Oper.wp execOp
  simp only [ho, resolve, invoke, builtin, Sem.run_bind, Sem.run_pure, Result.andThen_ok, List.map_toArray, List.map_cons, List.map_nil, hs, hx, hr]
  exact h v' w' h2 h3 h4
theorem wpList_append_F {ops : Array Oper} {rest : List Oper} {o : Oper} {a : Act} {Q : Exit → Act → World → Prop} (hgd : o.guard = none) (s x : Operand) (t : TypeId)
    (ho : o.op = .call { callee := .builtin .append, args := #[s, x], argTypes := #[t, t] })
    (base : Nat) (e : TypeId) (i : TypeInfo) (z : Value) (size bytes : Nat) (ht : P.underlying t = some (.slice e)) (hi : P.info? e = some i) (hz : i.zero = some z)
    (hsize : i.size = size) (hby : i.bytes = bytes) (hzs : z.cells.size = size) (hsz : 0 < size)
    (v : Value) (n : Nat) (xs : List Value) (hs : a.eval s = v) (hown : w.ownsRow base e size v n xs)
    (ad : Addr) (m c : Nat) (news : List Value) (hx : a.eval x = .slice (some ad) m c) (hl : news.length = m * size) (hnews : ∀ j u, news[j]? = some u → w.cell? (ad.add j) = some u) (h1 : ∀ u ∈ news, u.oneCell' = true)
    (h63 : n + m ≤ maxLen) (hbytes : (n + m) * bytes ≤ 140737488355328) (hbase : base ≤ w.heap.size) (hm : 0 < m)
    (h : ∀ v' w', w'.ownsRow base e size v' (n + m) (xs ++ news) → w.grownBy w' v.ownBlock → (v'.ownBlock = v.ownBlock ∨ v'.ownBlock = some w.heap.size) → wpList P ops Q rest (a.put o.dst v') w') : wpList P ops Q (o :: rest) a w :=
  wpList_plain hgd fun _ hK => wp_append_F w s x t ho base e i z size bytes ht hi hz hsize hby hzs hsz v n xs hs hown ad m c news hx hl hnews h1 h63 hbytes hbase hm fun v' w' h2 h3 h4 => hK _ _ (h v' w' h2 h3 h4)
end
theorem own_kept1 {w w' : World} {base n size : Nat} {e : TypeId} {v : Value} {xs : List Value} (h : w.ownsRow base e size v n xs) (k : ∀ g, v.ownBlock = some g → w'.heap[g]? = w.heap[g]?) : w'.ownsRow base e size v n xs := by
  refine ⟨h.1, ?_⟩
  rcases h.2 with h0 | ⟨g, cap, cur, rfl, hb, hh, r⟩
  · exact .inl h0
  · exact .inr ⟨g, cap, cur, rfl, hb, by rw [k g rfl]; exact hh, r⟩
theorem own_at {w : World} {base n size : Nat} {e : TypeId} {v : Value} {xs : List Value} (h : w.ownsRow base e size v n xs) {g : Nat} (hg : v.ownBlock = some g) : ∃ cur, w.heap[g]? = some (.cells cur e (0, 0)) := by
  rcases h.2 with ⟨rfl, _⟩ | ⟨g', cap, cur, rfl, hb, hh, _⟩
  · cases hg
  · cases hg; exact ⟨cur, hh⟩
theorem own_nil {w : World} {base size : Nat} {e : TypeId} : w.ownsRow base e size (.slice none 0 0) 0 [] := World.ownsRow_nil _ _ _ _
def OwnV {α : Type} (e f : TypeId) (size : Nat) (enc : List α → List Value) (w : World) (B : Nat) (vo : Value) (gs : List (List α)) (vals : List Value) : Prop :=
  w.ownsRow B f 1 vo gs.length vals ∧ (∀ (k : Nat) x g, vals[k]? = some x → gs[k]? = some g → w.ownsRow B e size x g.length (enc g)) ∧
  (∀ (i j : Nat) x y q, vals[i]? = some x → vals[j]? = some y → x.ownBlock = some q → y.ownBlock = some q → i = j)
section
variable {α : Type} {e f : TypeId} {size : Nat} {enc : List α → List Value} {w w' : World} {B : Nat} {vo : Value} {gs : List (List α)} {vals : List Value}
theorem OwnV.nil : OwnV e f size enc w B (.slice none 0 0) ([] : List (List α)) [] := ⟨own_nil, fun k x g h => by simp at h, fun i j x y q h => by simp at h⟩
theorem OwnV.len (h : OwnV e f size enc w B vo gs vals) : vals.length = gs.length := by have := h.1.1; omega
theorem OwnV.inner (h : OwnV e f size enc w B vo gs vals) {k : Nat} {x : Value} (hx : vals[k]? = some x) : ∃ g, gs[k]? = some g ∧ w.ownsRow B e size x g.length (enc g) := by
  have h1 : k < vals.length := by
    rcases Nat.lt_or_ge k vals.length with z | z
    · exact z
    · rw [List.getElem?_eq_none z] at hx; cases hx
  have h2 : k < gs.length := by rw [← h.len]; exact h1
  exact ⟨gs[k], List.getElem?_eq_getElem h2, h.2.1 k x _ hx (List.getElem?_eq_getElem h2)⟩
theorem OwnV.at (h : OwnV e f size enc w B vo gs vals) {k : Nat} (hk : k < gs.length) : ∃ x g, vals[k]? = some x ∧ gs[k]? = some g ∧ w.ownsRow B e size x g.length (enc g) := by
  have h1 : k < vals.length := by rw [h.len]; exact hk
  exact ⟨vals[k], gs[k], List.getElem?_eq_getElem h1, List.getElem?_eq_getElem hk, h.2.1 k _ _ (List.getElem?_eq_getElem h1) (List.getElem?_eq_getElem hk)⟩
theorem OwnV.keep (h : OwnV e f size enc w B vo gs vals) (h1 : ∀ q, vo.ownBlock = some q → w'.heap[q]? = w.heap[q]?) (h2 : ∀ (k : Nat) x q, vals[k]? = some x → x.ownBlock = some q → w'.heap[q]? = w.heap[q]?) : OwnV e f size enc w' B vo gs vals :=
  ⟨own_kept1 h.1 h1, fun k x g hx hg => own_kept1 (h.2.1 k x g hx hg) fun q hq => h2 k x q hx hq, h.2.2⟩
theorem OwnV.lt (h : OwnV e f size enc w B vo gs vals) {k : Nat} {x : Value} {q : Nat} (hx : vals[k]? = some x) (hq : x.ownBlock = some q) : B ≤ q ∧ q < w.heap.size := by
  obtain ⟨g, _, h1⟩ := h.inner hx
  exact h1.lt q hq
theorem OwnV.below (h : OwnV e f size enc w B vo gs vals) (k : Below w.heap.size w w') : OwnV e f size enc w' B vo gs vals :=
  h.keep (fun q hq => k.block q (h.1.lt q hq).2) (fun j x q hx hq => k.block q (h.lt hx hq).2)
theorem OwnV.other (h : OwnV e f size enc w B vo gs vals) (hef : e ≠ f) {k : Nat} {x : Value} {q : Nat} (hx : vals[k]? = some x) (hq : x.ownBlock = some q) : vo.ownBlock ≠ some q := fun h0 => by
  obtain ⟨g, _, h1⟩ := h.inner hx
  obtain ⟨c1, e1⟩ := own_at h.1 h0
  obtain ⟨c2, e2⟩ := own_at h1 hq
  rw [e1] at e2
  injection e2 with e2
  injection e2 with _ e2 _
  exact hef e2.symm
theorem grown_keep {row : Option Nat} {q : Nat} (hg : w.grownBy w' row) (hq : q < w.heap.size) (hne : row ≠ some q) : w'.heap[q]? = w.heap[q]? := hg.block q hq fun h => hne h.symm
theorem OwnV.put {x x' : Value} {g : List α} {y : α} {k go cap q0 : Nat} (h : OwnV e f size enc w B (.slice (some ⟨go, 0, none⟩) gs.length cap) gs vals) (hef : e ≠ f) (hx : vals[k]? = some x) (hgk : gs[k]? = some g)
    (ho : w'.ownsRow B e size x' (g.length + 1) (enc (g ++ [y]))) (hg : w.grownBy w' x.ownBlock) (hfr : x'.ownBlock = x.ownBlock ∨ x'.ownBlock = some q0) (hq0 : w.heap.size ≤ q0) :
    OwnV e f size enc (w'.setCell ⟨go, k, none⟩ x') B (.slice (some ⟨go, 0, none⟩) gs.length cap) (gs.set k (g ++ [y])) (vals.set k x') := by
  have hl := h.len
  have hkv : k < vals.length := by
    rcases Nat.lt_or_ge k vals.length with z | z
    · exact z
    · rw [List.getElem?_eq_none z] at hx; cases hx
  have hgo : ∀ (j : Nat) y q, vals[j]? = some y → y.ownBlock = some q → go ≠ q := fun j y q hy hq e => h.other hef hy hq (by rw [← e]; rfl)
  have h1 : w'.ownsRow B f 1 (.slice (some ⟨go, 0, none⟩) gs.length cap) gs.length vals := own_kept1 h.1 fun q hq => grown_keep hg (h.1.lt q hq).2 fun e => h.other hef hx e hq
  have hox : ∀ q, x'.ownBlock = some q → go ≠ q := fun q hq e => by
    rcases hfr with z | z
    · exact hgo k x q hx (z ▸ hq) e
    · rw [z] at hq; cases hq
      have := (h.1.lt go rfl).2
      omega
  have hset : ∀ q, go ≠ q → (w'.setCell ⟨go, k, none⟩ x').heap[q]? = w'.heap[q]? := fun q hq => heap_setCell_other w' ⟨go, k, none⟩ q x' (fun e => hq e.symm)
  refine ⟨by simpa using (h1.stored k x').1, fun j z gz hz hgz => ?_, fun i j z u q hz hu hqz hqu => ?_⟩
  · by_cases hj : k = j
    · subst hj
      rw [List.getElem?_set_self hkv] at hz
      rw [List.getElem?_set_self (by omega)] at hgz
      cases hz; cases hgz
      refine own_kept1 (by simpa using ho) fun q hq => hset q (hox q hq)
    · rw [List.getElem?_set_ne hj] at hz hgz
      refine own_kept1 (h.2.1 j z gz hz hgz) fun q hq => ?_
      rw [hset q (hgo j z q hz hq)]
      exact grown_keep hg (h.lt hz hq).2 fun e => hj (h.2.2 k j x z q hx hz e hq)
  · have hb : ∀ (j : Nat) u, k ≠ j → vals[j]? = some u → u.ownBlock = some q → x'.ownBlock = some q → False := fun j u hj hu hqu hqx => by
      rcases hfr with z | z
      · exact hj (h.2.2 k j x u q hx hu (z ▸ hqx) hqu)
      · rw [z] at hqx; cases hqx
        have := (h.lt hu hqu).2
        omega
    by_cases hi : k = i
    · by_cases hj : k = j
      · omega
      · subst hi
        rw [List.getElem?_set_self hkv] at hz
        cases hz
        rw [List.getElem?_set_ne hj] at hu
        exact (hb j u hj hu hqu hqz).elim
    · rw [List.getElem?_set_ne hi] at hz
      by_cases hj : k = j
      · subst hj
        rw [List.getElem?_set_self hkv] at hu
        cases hu
        exact (hb i z hi hz hqz hqu).elim
      · rw [List.getElem?_set_ne hj] at hu
        exact h.2.2 i j z u q hz hu hqz hqu
end
end Go.Proofs.YtmknchdciblfjaaGreat
/-! XQh -/
namespace Go.Proofs.YtmknchdciblfjaaGreat
open Go Go.RowKit
attribute [local go_sem] B_getElem B_size B_app B_extract B_get B_toList
theorem own_shape {w : World} {base n size : Nat} {e : TypeId} {v : Value} {xs : List Value} (h : w.ownsRow base e size v n xs) : ∃ a c, v = .slice a n c := by
  rcases h.2 with ⟨rfl, rfl⟩ | ⟨g, cap, cur, rfl, _⟩
  · exact ⟨_, _, rfl⟩
  · exact ⟨_, _, rfl⟩
theorem own_form {w : World} {base n size : Nat} {e : TypeId} {v : Value} {xs : List Value} (h : w.ownsRow base e size v n xs) (hn : 0 < n) : ∃ g c, v = .slice (some ⟨g, 0, none⟩) n c := by
  rcases h.2 with ⟨rfl, rfl⟩ | ⟨g, cap, cur, rfl, _⟩
  · omega
  · exact ⟨_, _, rfl⟩
/-- the sums lie in a block that no group lies in -/
def Sps (vals : List Value) (vs : Value) : Prop := ∀ (i : Nat) x q, vals[i]? = some x → x.ownBlock = some q → vs.ownBlock ≠ some q
def NoB (vals : List Value) (p : Nat) : Prop := ∀ (i : Nat) x, vals[i]? = some x → x.ownBlock ≠ some p
end Go.Proofs.YtmknchdciblfjaaGreat
/-! XQi -/
namespace Go.Proofs.YtmknchdciblfjaaGreat
open Go Go.RowKit
abbrev OwnVI (w : World) (B : Nat) (vo : Value) (gs : List (List Int)) (vals : List Value) : Prop := OwnV 3 51 1 ints w B vo gs vals
def OwnG (w : World) (B : Nat) (v : Value) (gs : List (List Int)) : Prop := ∃ vals, OwnVI w B v gs vals
theorem own_le {w : World} {base base' n size : Nat} {e : TypeId} {v : Value} {xs : List Value} (h : w.ownsRow base e size v n xs) (hb : base' ≤ base) : w.ownsRow base' e size v n xs := by
  refine ⟨h.1, ?_⟩
  rcases h.2 with h0 | ⟨g, cap, cur, hv, hg, r⟩
  · exact .inl h0
  · exact .inr ⟨g, cap, cur, hv, by omega, r⟩
theorem OwnV.le {α : Type} {e f : TypeId} {size : Nat} {enc : List α → List Value} {w : World} {B B' : Nat} {vo : Value} {gs : List (List α)} {vals : List Value} (h : OwnV e f size enc w B vo gs vals) (hb : B' ≤ B) : OwnV e f size enc w B' vo gs vals :=
  ⟨own_le h.1 hb, fun k x g h1 h2 => own_le (h.2.1 k x g h1 h2) hb, h.2.2⟩
structure PBase (most : Int) (w : World) (gs : List (List Int)) (ss : List Int) (vals : List Value) (s6 s7 : Value) (wr : World) : Prop where
  len : gs.length = ss.length
  sums : ∀ s ∈ ss, 0 ≤ s ∧ s ≤ most
  out : OwnVI wr (w.heap.size + 1) s6 gs vals
  row : wr.ownsRow (w.heap.size + 1) 3 1 s7 ss.length (ints ss)
  apart : Sps vals s7
  box : wr.heap[w.heap.size]? = some (.cells #[.int .i64 most] 3 (0, 0))
  below : Below w.heap.size w wr
structure PNum (n : Int) (p : Nat) (vals : List Value) (s7 : Value) (wx : World) : Prop where
  nob : NoB vals p
  row : s7.ownBlock ≠ some p
  num : wx.heap[p]? = some (.cells #[.int .i64 n] 3 (0, 0))
section
variable {most : Int} {w : World} {gs : List (List Int)} {ss : List Int} {vals : List Value} {s6 s7 : Value} {wr : World}
theorem PBase.step {wx : World} (h : PBase most w gs ss vals s6 s7 wr) (k : Below wr.heap.size wr wx) : PBase most w gs ss vals s6 s7 wx := by
  have zA : w.heap.size < wr.heap.size := by
    rcases Nat.lt_or_ge w.heap.size wr.heap.size with z | z
    · exact z
    · have := h.box; rw [Array.getElem?_eq_none z] at this; cases this
  exact ⟨h.len, h.sums, h.out.below k, own_kept1 h.row (fun q hq => k.block q (h.row.lt q hq).2), h.apart, (k.block _ zA).trans h.box, btrans0 h.below k⟩
theorem PBase.num {n : Int} (h : PBase most w gs ss vals s6 s7 wr) {wx : World} (hn : wx.heap[wr.heap.size]? = some (.cells #[.int .i64 n] 3 (0, 0))) : PNum n wr.heap.size vals s7 wx :=
  ⟨fun i x hx e => by have := (h.out.lt hx e).2; omega, fun e => by have := (h.row.lt _ e).2; omega, hn⟩
theorem PNum.step {n : Int} {p : Nat} {wx wy : World} (h : PNum n p vals s7 wx) (k : Below wx.heap.size wx wy) : PNum n p vals s7 wy := by
  have z : p < wx.heap.size := by
    rcases Nat.lt_or_ge p wx.heap.size with z | z
    · exact z
    · have := h.num; rw [Array.getElem?_eq_none z] at this; cases this
  exact ⟨h.nob, h.row, (k.block _ z).trans h.num⟩
end
end Go.Proofs.YtmknchdciblfjaaGreat

/- Chapter 19: IndexFunc and ContainsFunc over ints and over bundles. -/
import Derived.Test.YtpkklmkeflddkaaGreatJn
set_option linter.unusedVariables false
set_option linter.unusedSimpArgs false
namespace Go.Proofs.YtpkklmkeflddkaaGreat
open Go Go.RowKit
attribute [local go_sem] B_getElem B_size B_app B_extract B_get B_toList

def PredI (f : FuncId) (caps : Array Value) (Pd : Int → Bool) (w : World) (l : List Int) : Prop := (∀ args W, (callFunc f args).run Tryz.prog W = .ok (.enter f args) W) ∧
  ∀ (x : Int) (W : World), x ∈ l → Below w.heap.size w W → Calls Tryz.prog f (#[.int .i64 x] ++ caps) W fun e W' => e = .returned (.bool (Pd x)) ∧ Below W.heap.size W W'
theorem PredI.below {f : FuncId} {caps : Array Value} {Pd : Int → Bool} {w w' : World} {l : List Int} (h : PredI f caps Pd w l) (k : Below w.heap.size w w') : PredI f caps Pd w' l := ⟨h.1, fun x W hx hW => h.2 x W hx (btrans0 k hW)⟩
def PredIIdx (Pd : Int → Bool) (l : List Int) (w : World) (e : Ending) (w' : World) : Prop := Below w.heap.size w w' ∧
  ((e = .returned (.int .i64 (-1)) ∧ ∀ x ∈ l, Pd x = false) ∨ ∃ k : Nat, e = .returned (.int .i64 k) ∧ k < l.length ∧ (∀ x ∈ l.take k, Pd x = false) ∧ ∀ x, l[k]? = some x → Pd x = true)
set_option maxRecDepth 100000 in
set_option maxHeartbeats 2000000 in
theorem index_PredI (l : List Int) (u : Value) (f : FuncId) (caps : Array Value) (Pd : Int → Bool) (w : World) (h : RInts w w.heap.size u l) (hp : PredI f caps Pd w l) :
    Calls Tryz.prog 38 #[u, .func (.func f) #[] caps] w (PredIIdx Pd l w) := by
  obtain ⟨a, c, rfl, h1, h2, h3, h4⟩ := h
  unfold maxLen at h2
  have hlen : l.length ≤ 9223372036854775807 := by omega
  have H4 := Lib.hid h4
  obtain ⟨hcall, hq⟩ := hp
  have HP := Lib.hid hq
  clear h3 h4 hq
  go_enter Tryz.func38, Tryz.ntmps38
  go_wp2
  go_loopw [8] (fun i wr => ∃ k : Nat, k ≤ l.length ∧ i = .int .i64 k ∧ Hid (∀ x ∈ l.take k, Pd x = false) ∧ Below w.heap.size w wr) (fun i _ => l.length - (intOf i).toNat)
  case atStart => exact ⟨0, Nat.zero_le _, rfl, Lib.hid (by simp), Below.refl _ _⟩
  case round =>
    obtain ⟨k, hk, rfl, HF, hB⟩ := hrel
    by_cases hlt : k < l.length
    · obtain ⟨bb, o, rfl, hbn, hcell⟩ := H4.out (by omega)
      obtain ⟨x, hx⟩ : ∃ x, l[k]? = some x := ⟨_, List.getElem?_eq_getElem hlt⟩
      have c1 := (hB.cell (p := ⟨bb, o + k, none⟩) hbn).trans (hcell k x hx)
      have k0 : (0 : Int) ≤ (k : Int) := by omega
      have k1 : (k : Int) < (l.length : Int) := by omega
      obtain ⟨q, hq⟩ : ∃ q, Pd x = q := ⟨_, rfl⟩
      have HQ := Lib.hid hq
      have HX := Lib.hid hx
      have hsz := hB.size
      clear hq hx hcell
      go_wp2_with fail
      refine (HP.out x _ (List.mem_of_getElem? HX.out) hB).mono ?_
      rw [HQ.out]
      rintro e w1 ⟨rfl, hb1⟩
      have hb2 : Below w.heap.size w w1 := (by repeat' (first | with_reducible (first | refine bset ?_ ?_ | exact Below.refl _ _ | assumption | refine bdrewN ?_ _ | refine bdrew ?_ | refine balloc0 ?_ | refine balloc ?_ ?_ | (apply btrans0; rotate_left; assumption) | (apply btrans; rotate_left; assumption)) | exact Below.refl _ _ | assumption | (apply btrans0; rotate_left; assumption) | (apply btrans; rotate_left; assumption) | (simp; done) | omega | (simp; omega)))
      cases q with
      | false =>
        go_wp2
        go_roundw
        case rel =>
          refine ⟨k + 1, by omega, by go_num, Lib.hid ?_, hb2⟩
          intro y hy
          rw [List.take_add_one, HX.out] at hy
          rcases List.mem_append.1 hy with hy | hy
          · exact HF.out y hy
          · simp at hy; subst hy; exact HQ.out
        case measure => simp [intOf]; omega
      | true =>
        go_wp2
        go_ret
        exact ⟨hb2, .inr ⟨k, rfl, hlt, HF.out, fun y hy => by rw [HX.out] at hy; injection hy with hy; subst hy; exact HQ.out⟩⟩
    · obtain rfl : k = l.length := by omega
      go_wp2
      go_ret
      exact ⟨hB, .inl ⟨rfl, by have := HF.out; rwa [List.take_length] at this⟩⟩
set_option maxHeartbeats 1000000 in
theorem contains_PredI (l : List Int) (u : Value) (f : FuncId) (caps : Array Value) (Pd : Int → Bool) (w : World) (h : RInts w w.heap.size u l) (hp : PredI f caps Pd w l) :
    Calls Tryz.prog 35 #[u, .func (.func f) #[] caps] w fun e w' => e = .returned (.bool (l.any Pd)) ∧ Below w.heap.size w w' := by
  have HR := Lib.hid h
  have HP := Lib.hid hp
  clear h hp
  go_enter Tryz.func35, Tryz.ntmps35
  go_wp2_with fail
  refine (index_PredI l u f caps Pd _ HR.out HP.out).mono ?_
  rintro e w1 ⟨hb1, ⟨rfl, hF⟩ | ⟨k, rfl, hk, hF, hT⟩⟩
  · have HL : Hid (l.any Pd = false) := Lib.hid (by rw [List.any_eq_false]; intro x hx; rw [hF x hx]; simp)
    clear hF
    go_wp2
    go_ret
    exact ⟨by rw [HL.out]; rfl, hb1⟩
  · have HL : Hid (l.any Pd = true) := Lib.hid (by rw [List.any_eq_true]; exact ⟨l[k], List.getElem_mem hk, hT _ (List.getElem?_eq_getElem hk)⟩)
    clear hF hT
    go_wp2
    go_ret
    exact ⟨by rw [HL.out]; first | rfl | (simp; done), hb1⟩
attribute [local go_sem] bunC
def PredB (f : FuncId) (caps : Array Value) (Pd : Bun → Bool) (w : World) (l : List Bun) : Prop := (∀ args W, (callFunc f args).run Tryz.prog W = .ok (.enter f args) W) ∧
  ∀ (x : Bun) (ux : Value) (W : World), x ∈ l → Below w.heap.size w W → RBlks W W.heap.size ux x.blocks → Calls Tryz.prog f (#[.agg (bunC x ux).toArray] ++ caps) W fun e W' => e = .returned (.bool (Pd x)) ∧ Below W.heap.size W W'
theorem PredB.below {f : FuncId} {caps : Array Value} {Pd : Bun → Bool} {w w' : World} {l : List Bun} (h : PredB f caps Pd w l) (k : Below w.heap.size w w') : PredB f caps Pd w' l := ⟨h.1, fun x ux W hx hW => h.2 x ux W hx (btrans0 k hW)⟩
def PredBIdx (Pd : Bun → Bool) (l : List Bun) (w : World) (e : Ending) (w' : World) : Prop := Below w.heap.size w w' ∧
  ((e = .returned (.int .i64 (-1)) ∧ ∀ x ∈ l, Pd x = false) ∨ ∃ k : Nat, e = .returned (.int .i64 k) ∧ k < l.length ∧ (∀ x ∈ l.take k, Pd x = false) ∧ ∀ x, l[k]? = some x → Pd x = true)
set_option maxRecDepth 100000 in
set_option maxHeartbeats 2000000 in
theorem index_PredB (l : List Bun) (u : Value) (f : FuncId) (caps : Array Value) (Pd : Bun → Bool) (w : World) (h : RBuns w w.heap.size u l) (hp : PredB f caps Pd w l) :
    Calls Tryz.prog 51 #[u, .func (.func f) #[] caps] w (PredBIdx Pd l w) := by
  obtain ⟨a, c, rfl, h1, h2, h3, h4⟩ := h
  unfold maxLen at h2
  have hlen : l.length ≤ 9223372036854775807 := by omega
  have H4 := Lib.hid h4
  obtain ⟨hcall, hq⟩ := hp
  have HP := Lib.hid hq
  clear h3 h4 hq
  go_enter Tryz.func51, Tryz.ntmps51
  go_wp2
  go_loopw [8] (fun i wr => ∃ k : Nat, k ≤ l.length ∧ i = .int .i64 k ∧ Hid (∀ x ∈ l.take k, Pd x = false) ∧ Below w.heap.size w wr) (fun i _ => l.length - (intOf i).toNat)
  case atStart => exact ⟨0, Nat.zero_le _, rfl, Lib.hid (by simp), Below.refl _ _⟩
  case round =>
    obtain ⟨k, hk, rfl, HF, hB⟩ := hrel
    by_cases hlt : k < l.length
    · obtain ⟨bb, o, rfl, hbn, hcell⟩ := H4.out (by omega)
      obtain ⟨x, hx⟩ : ∃ x, l[k]? = some x := ⟨_, List.getElem?_eq_getElem hlt⟩
      obtain ⟨ux, hc, hub⟩ := hcell k x hx
      have q0 : wr.cell? ⟨bb, o + k * 12, none⟩ = some (.int .i64 x.src) := (hB.cell (p := ⟨bb, o + k * 12 + 0, none⟩) hbn).trans (hc 0 _ rfl)
      have q1 : wr.cell? ⟨bb, o + k * 12 + 1, none⟩ = some (.int .i64 x.crt) := (hB.cell (p := ⟨bb, o + k * 12 + 1, none⟩) hbn).trans (hc 1 _ rfl)
      have q2 : wr.cell? ⟨bb, o + k * 12 + 2, none⟩ = some (.int .i64 x.seq) := (hB.cell (p := ⟨bb, o + k * 12 + 2, none⟩) hbn).trans (hc 2 _ rfl)
      have q3 : wr.cell? ⟨bb, o + k * 12 + 3, none⟩ = some (.int .i64 x.off) := (hB.cell (p := ⟨bb, o + k * 12 + 3, none⟩) hbn).trans (hc 3 _ rfl)
      have q4 : wr.cell? ⟨bb, o + k * 12 + 4, none⟩ = some (.int .i64 x.tot) := (hB.cell (p := ⟨bb, o + k * 12 + 4, none⟩) hbn).trans (hc 4 _ rfl)
      have q5 : wr.cell? ⟨bb, o + k * 12 + 5, none⟩ = some (.int .i64 x.dk) := (hB.cell (p := ⟨bb, o + k * 12 + 5, none⟩) hbn).trans (hc 5 _ rfl)
      have q6 : wr.cell? ⟨bb, o + k * 12 + 6, none⟩ = some (.int .i64 x.dn) := (hB.cell (p := ⟨bb, o + k * 12 + 6, none⟩) hbn).trans (hc 6 _ rfl)
      have q7 : wr.cell? ⟨bb, o + k * 12 + 7, none⟩ = some (.int .i64 x.life) := (hB.cell (p := ⟨bb, o + k * 12 + 7, none⟩) hbn).trans (hc 7 _ rfl)
      have q8 : wr.cell? ⟨bb, o + k * 12 + 8, none⟩ = some (.int .i64 x.prio) := (hB.cell (p := ⟨bb, o + k * 12 + 8, none⟩) hbn).trans (hc 8 _ rfl)
      have q9 : wr.cell? ⟨bb, o + k * 12 + 9, none⟩ = some (.int .i64 x.flags) := (hB.cell (p := ⟨bb, o + k * 12 + 9, none⟩) hbn).trans (hc 9 _ rfl)
      have q10 : wr.cell? ⟨bb, o + k * 12 + 10, none⟩ = some (ux) := (hB.cell (p := ⟨bb, o + k * 12 + 10, none⟩) hbn).trans (hc 10 _ rfl)
      have q11 : wr.cell? ⟨bb, o + k * 12 + 11, none⟩ = some (.string (B x.payload)) := (hB.cell (p := ⟨bb, o + k * 12 + 11, none⟩) hbn).trans (hc 11 _ rfl)
      have HUB := Lib.hid (hub.below hB (Nat.le_refl _) hB.size)
      obtain ⟨xa, xc, rfl, _⟩ := id hub
      clear hc hub
      have k0 : (0 : Int) ≤ (k : Int) := by omega
      have k1 : (k : Int) < (l.length : Int) := by omega
      obtain ⟨q, hq⟩ : ∃ q, Pd x = q := ⟨_, rfl⟩
      have HQ := Lib.hid hq
      have HX := Lib.hid hx
      have hsz := hB.size
      clear hq hx hcell
      go_wp2_with fail
      refine (HP.out x _ _ (List.mem_of_getElem? HX.out) hB HUB.out).mono ?_
      rw [HQ.out]
      rintro e w1 ⟨rfl, hb1⟩
      have hb2 : Below w.heap.size w w1 := (by repeat' (first | with_reducible (first | refine bset ?_ ?_ | exact Below.refl _ _ | assumption | refine bdrewN ?_ _ | refine bdrew ?_ | refine balloc0 ?_ | refine balloc ?_ ?_ | (apply btrans0; rotate_left; assumption) | (apply btrans; rotate_left; assumption)) | exact Below.refl _ _ | assumption | (apply btrans0; rotate_left; assumption) | (apply btrans; rotate_left; assumption) | (simp; done) | omega | (simp; omega)))
      cases q with
      | false =>
        go_wp2
        go_roundw
        case rel =>
          refine ⟨k + 1, by omega, by go_num, Lib.hid ?_, hb2⟩
          intro y hy
          rw [List.take_add_one, HX.out] at hy
          rcases List.mem_append.1 hy with hy | hy
          · exact HF.out y hy
          · simp at hy; subst hy; exact HQ.out
        case measure => simp [intOf]; omega
      | true =>
        go_wp2
        go_ret
        exact ⟨hb2, .inr ⟨k, rfl, hlt, HF.out, fun y hy => by rw [HX.out] at hy; injection hy with hy; subst hy; exact HQ.out⟩⟩
    · obtain rfl : k = l.length := by omega
      go_wp2
      go_ret
      exact ⟨hB, .inl ⟨rfl, by have := HF.out; rwa [List.take_length] at this⟩⟩
set_option maxHeartbeats 1000000 in
theorem contains_PredB (l : List Bun) (u : Value) (f : FuncId) (caps : Array Value) (Pd : Bun → Bool) (w : World) (h : RBuns w w.heap.size u l) (hp : PredB f caps Pd w l) :
    Calls Tryz.prog 23 #[u, .func (.func f) #[] caps] w fun e w' => e = .returned (.bool (l.any Pd)) ∧ Below w.heap.size w w' := by
  have HR := Lib.hid h
  have HP := Lib.hid hp
  clear h hp
  go_enter Tryz.func23, Tryz.ntmps23
  go_wp2_with fail
  refine (index_PredB l u f caps Pd _ HR.out HP.out).mono ?_
  rintro e w1 ⟨hb1, ⟨rfl, hF⟩ | ⟨k, rfl, hk, hF, hT⟩⟩
  · have HL : Hid (l.any Pd = false) := Lib.hid (by rw [List.any_eq_false]; intro x hx; rw [hF x hx]; simp)
    clear hF
    go_wp2
    go_ret
    exact ⟨by rw [HL.out]; rfl, hb1⟩
  · have HL : Hid (l.any Pd = true) := Lib.hid (by rw [List.any_eq_true]; exact ⟨l[k], List.getElem_mem hk, hT _ (List.getElem?_eq_getElem hk)⟩)
    clear hF hT
    go_wp2
    go_ret
    exact ⟨by rw [HL.out]; first | rfl | (simp; done), hb1⟩
end Go.Proofs.YtpkklmkeflddkaaGreat

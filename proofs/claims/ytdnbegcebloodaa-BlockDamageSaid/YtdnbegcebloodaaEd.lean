/- Lists of integers; slices.Contains; the program's Process. -/
import Derived.Test.YtdnbegcebloodaaEb
import Derived.Test.YtdnbegcebloodaaEc
set_option linter.unusedVariables false
set_option linter.unusedSimpArgs false
namespace Go.Proofs.Ytdnbegcebloodaa
open Go Go.RowKit
attribute [local go_sem] B_getElem B_size B_app B_extract B_get B_toList

def RInts (w : World) (N : Nat) (v : Value) (l : List Int) : Prop :=
  ∃ a c, v = .slice a l.length c ∧ l.length ≤ c ∧ c ≤ maxLen ∧ (a = none → c = 0) ∧ (0 < l.length → ∃ b o, a = some ⟨b, o, none⟩ ∧ b < N ∧ ∀ (i : Nat) (x : Int), l[i]? = some x → w.cell? ⟨b, o + i, none⟩ = some (.int .i64 x))
theorem RInts.keep {w w' : World} {N M : Nat} {v : Value} {l : List Int} (h : RInts w N v l) (k : ∀ b o, b < N → w'.cell? ⟨b, o, none⟩ = w.cell? ⟨b, o, none⟩) (hM : N ≤ M) : RInts w' M v l := by
  obtain ⟨a, c, e1, e2, e3, e4, e5⟩ := h
  refine ⟨a, c, e1, e2, e3, e4, fun hp => ?_⟩
  obtain ⟨b, o, ea, hb, hi⟩ := e5 hp
  exact ⟨b, o, ea, by omega, fun i x hx => (k _ _ hb).trans (hi i x hx)⟩
theorem RInts.below {w w' : World} {N C M : Nat} {v : Value} {l : List Int} (h : RInts w N v l) (k : Below C w w') (hC : N ≤ C) (hM : N ≤ M) : RInts w' M v l :=
  h.keep (fun b o hb => k.cell (p := ⟨b, o, none⟩) (by show b < C; omega)) hM

set_option maxRecDepth 100000 in
set_option maxHeartbeats 1000000 in
theorem indexInt_any (l : List Int) (u : Value) (n : Int) (w : World) (h : RInts w w.heap.size u l) :
    Calls Try.prog 56 #[u, .int .i64 n] w fun e w' => (e = .returned (.int .i64 (-1)) ∧ l.contains n = false ∨ ∃ k : Nat, e = .returned (.int .i64 k) ∧ l.contains n = true) ∧ w' = w := by
  obtain ⟨a, c, rfl, h1, h2, h3, h4⟩ := h
  unfold maxLen at h2
  have hlen : l.length ≤ 9223372036854775807 := by omega
  have H4 := Lib.hid h4
  clear h3 h4
  go_enter Try.func56, Try.ntmps56
  go_wp2
  go_loopw [8] (fun i wr => ∃ k : Nat, k ≤ l.length ∧ i = .int .i64 k ∧ Hid (∀ x ∈ l.take k, n ≠ x) ∧ wr = w) (fun i _ => l.length - (intOf i).toNat)
  case atStart => exact ⟨0, Nat.zero_le _, rfl, Lib.hid (by simp), rfl⟩
  case round =>
    obtain ⟨k, hk, rfl, HF, rfl⟩ := hrel
    by_cases hlt : k < l.length
    · obtain ⟨bb, o, rfl, hbn, hcell⟩ := H4.out (by omega)
      obtain ⟨x, hx⟩ : ∃ x, l[k]? = some x := ⟨_, List.getElem?_eq_getElem hlt⟩
      have c1 := hcell k x hx
      have k0 : (0 : Int) ≤ (k : Int) := by omega
      have k1 : (k : Int) < (l.length : Int) := by omega
      have HX := Lib.hid hx
      clear hx hcell
      by_cases hq : n = x
      · have hq2 : (n == x) = true := beq_iff_eq.2 hq
        have HQ : Hid (l.contains n = true) := Lib.hid (by rw [List.contains_iff_mem, hq]; exact List.mem_of_getElem? HX.out)
        clear hq
        go_wp2
        go_ret
        exact ⟨.inr ⟨k, rfl, HQ.out⟩, rfl⟩
      · have hq2 : (n == x) = false := beq_eq_false_iff_ne.2 hq
        have HQ := Lib.hid hq
        clear hq
        go_wp2
        go_roundw
        case rel =>
          refine ⟨k + 1, by omega, by go_num, Lib.hid ?_, trivial⟩
          intro y hy
          rw [List.take_add_one, HX.out] at hy
          rcases List.mem_append.1 hy with hy | hy
          · exact HF.out y hy
          · simp at hy; subst hy; exact HQ.out
        case measure => simp [intOf]; omega
    · obtain rfl : k = l.length := by omega
      go_wp2
      go_ret
      refine ⟨.inl ⟨rfl, ?_⟩, rfl⟩
      have := HF.out
      rw [List.take_length] at this
      cases hc : l.contains n with
      | false => rfl
      | true => exact absurd rfl (this n (List.contains_iff_mem.1 hc))
set_option maxHeartbeats 1000000 in
theorem contains_any (l : List Int) (u : Value) (n : Int) (w : World) (h : RInts w w.heap.size u l) :
    Calls Try.prog 26 #[u, .int .i64 n] w fun e w' => e = .returned (.bool (l.contains n)) ∧ w' = w := by
  have HR := Lib.hid h
  clear h
  go_enter Try.func26, Try.ntmps26
  go_wp2_with fail
  refine (indexInt_any l u n _ HR.out).mono ?_
  rintro e w1 ⟨⟨rfl, hF⟩ | ⟨k, rfl, hF⟩, rfl⟩
  · have HF := Lib.hid hF
    clear hF
    go_wp2
    go_ret
    exact ⟨by rw [HF.out]; rfl, rfl⟩
  · have HF := Lib.hid hF
    clear hF
    go_wp2
    go_ret
    exact ⟨by rw [HF.out]; first | rfl | (simp; done), rfl⟩

/-- a block has a flag, and its kind is not known -/
def wit (known : List Int) (flag : Int) (x : Blk) : Bool := hasF x.flags flag && !known.contains x.kind
theorem bit_flag (f k : Int) (h1 : 0 ≤ f) (h2 : f ≤ 15) (hk : k = 1 ∨ k = 2 ∨ k = 4 ∨ k = 8) : (bits .and .i64 f k != 0) = hasF f k := by
  obtain ⟨m, rfl⟩ : ∃ m : Nat, f = m := ⟨f.toNat, by omega⟩
  have h : ∀ n : Fin 16, (bits .and .i64 (n.val : Int) 1 != 0) = hasF (n.val : Int) 1 ∧ (bits .and .i64 (n.val : Int) 2 != 0) = hasF (n.val : Int) 2 ∧ (bits .and .i64 (n.val : Int) 4 != 0) = hasF (n.val : Int) 4 ∧ (bits .and .i64 (n.val : Int) 8 != 0) = hasF (n.val : Int) 8 := by decide +kernel
  have := h ⟨m, by omega⟩
  rcases hk with rfl | rfl | rfl | rfl
  · exact this.1
  · exact this.2.1
  · exact this.2.2.1
  · exact this.2.2.2
set_option maxHeartbeats 1000000 in
theorem with_any (x : Blk) (known : List Int) (v : Value) (flag : Int) (fb kb : Nat) (w : World) (h1 : 0 ≤ x.flags) (h2 : x.flags ≤ 15) (hk : flag = 1 ∨ flag = 2 ∨ flag = 4 ∨ flag = 8) (c1 : w.cell? ⟨fb, 0, none⟩ = some (.int .i64 flag)) (c2 : w.cell? ⟨kb, 0, none⟩ = some v) (hf : fb < w.heap.size) (hkb : kb < w.heap.size) (hv : RInts w w.heap.size v known) :
    Calls Try.prog 45 #[.agg #[.int .i64 x.kind, .int .i64 x.flags, .string (B x.data)], .pointer (some ⟨fb, 0, none⟩), .pointer (some ⟨kb, 0, none⟩)] w fun e w' => e = .returned (.bool (wit known flag x)) ∧ Below w.heap.size w w' := by
  have hb := bit_flag x.flags flag h1 h2 hk
  obtain ⟨q, hq⟩ : ∃ q, hasF x.flags flag = q := ⟨_, rfl⟩
  have hW : wit known flag x = (q && !known.contains x.kind) := by unfold wit; rw [hq]
  rw [hq] at hb
  rw [hW]
  have HV := Lib.hid hv
  clear hq hW hv hk
  cases q with
  | false =>
    go_enter Try.func45, Try.ntmps45
    go_wp2
    go_ret
    exact ⟨rfl, (by repeat' (first | (with_reducible refine bset ?_ ?_) | (with_reducible exact Below.refl _ _) | (with_reducible assumption) | (with_reducible refine bdrewN ?_ _) | (with_reducible refine bdrew ?_) | (with_reducible refine balloc0 ?_) | (with_reducible refine balloc ?_ ?_) | (with_reducible apply btrans0; rotate_left; with_reducible assumption) | (with_reducible apply btrans; rotate_left; with_reducible assumption) | exact Below.refl _ _ | assumption | (apply btrans0; rotate_left; assumption) | (apply btrans; rotate_left; assumption) | (simp; done) | omega | (simp; omega)))⟩
  | true =>
    obtain ⟨p, hp⟩ : ∃ p, known.contains x.kind = p := ⟨_, rfl⟩
    have HP := Lib.hid hp
    rw [hp]
    clear hp
    go_enter Try.func45, Try.ntmps45
    go_wp2_with fail
    refine (contains_any known v x.kind _ (HV.out.below (C := w.heap.size) (by repeat' (first | (with_reducible refine bset ?_ ?_) | (with_reducible exact Below.refl _ _) | (with_reducible assumption) | (with_reducible refine bdrewN ?_ _) | (with_reducible refine bdrew ?_) | (with_reducible refine balloc0 ?_) | (with_reducible refine balloc ?_ ?_) | (with_reducible apply btrans0; rotate_left; with_reducible assumption) | (with_reducible apply btrans; rotate_left; with_reducible assumption) | exact Below.refl _ _ | assumption | (apply btrans0; rotate_left; assumption) | (apply btrans; rotate_left; assumption) | (simp; done) | omega | (simp; omega))) (Nat.le_refl _) (by simp))).mono ?_
    rw [HP.out]
    rintro e w1 ⟨rfl, rfl⟩
    go_wp2
    go_ret
    exact ⟨by simp, (by repeat' (first | (with_reducible refine bset ?_ ?_) | (with_reducible exact Below.refl _ _) | (with_reducible assumption) | (with_reducible refine bdrewN ?_ _) | (with_reducible refine bdrew ?_) | (with_reducible refine balloc0 ?_) | (with_reducible refine balloc ?_ ?_) | (with_reducible apply btrans0; rotate_left; with_reducible assumption) | (with_reducible apply btrans; rotate_left; with_reducible assumption) | exact Below.refl _ _ | assumption | (apply btrans0; rotate_left; assumption) | (apply btrans; rotate_left; assumption) | (simp; done) | omega | (simp; omega)))⟩
theorem with_pred (l : List Blk) (known : List Int) (v : Value) (flag : Int) (fb kb : Nat) (w : World) (hl : ∀ x ∈ l, 0 ≤ x.flags ∧ x.flags ≤ 15) (hk : flag = 1 ∨ flag = 2 ∨ flag = 4 ∨ flag = 8) (c1 : w.cell? ⟨fb, 0, none⟩ = some (.int .i64 flag)) (c2 : w.cell? ⟨kb, 0, none⟩ = some v) (hf : fb < w.heap.size) (hkb : kb < w.heap.size) (hv : RInts w w.heap.size v known) :
    PredAt 45 #[.pointer (some ⟨fb, 0, none⟩), .pointer (some ⟨kb, 0, none⟩)] (wit known flag) w l :=
  ⟨fun _ _ => by kernel_rfl, fun x W hx hW => with_any x known v flag fb kb W (hl x hx).1 (hl x hx).2 hk ((hW.cell (p := ⟨fb, 0, none⟩) hf).trans c1) ((hW.cell (p := ⟨kb, 0, none⟩) hkb).trans c2) (by have := hW.size; omega) (by have := hW.size; omega) (hv.below hW (Nat.le_refl _) hW.size)⟩
set_option maxHeartbeats 1000000 in
theorem drop_pred (l : List Blk) (f : FuncId) (caps : Array Value) (Pd : Blk → Bool) (db : Nat) (w : World) (hp : PredAt f caps Pd w l) (c : w.cell? ⟨db, 0, none⟩ = some (.func (.func f) #[] caps)) (hdb : db < w.heap.size) :
    PredAt 47 #[.pointer (some ⟨db, 0, none⟩)] (fun x => !Pd x) w l := by
  refine ⟨fun _ _ => by kernel_rfl, fun x W hx hW => ?_⟩
  have c1 : W.cell? ⟨db, 0, none⟩ = some (.func (.func f) #[] caps) := (hW.cell (p := ⟨db, 0, none⟩) hdb).trans c
  have hz : db < W.heap.size := by have := hW.size; omega
  have HC := Lib.hid (hp.2 x _ hx (balloc (o := .cells #[.int .i64 x.kind, .int .i64 x.flags, .string (B x.data)] 29) hW hW.size))
  have hcall := hp.1
  show Calls Try.prog 47 #[.agg #[.int .i64 x.kind, .int .i64 x.flags, .string (B x.data)], .pointer (some ⟨db, 0, none⟩)] W fun e W' => e = .returned (.bool (!Pd x)) ∧ Below W.heap.size W W'
  obtain ⟨q, hq⟩ : ∃ q, Pd x = q := ⟨_, rfl⟩
  have HQ := Lib.hid hq
  rw [hq]
  clear hq hp
  go_enter Try.func47, Try.ntmps47
  go_wp2_with fail
  refine HC.out.mono ?_
  rw [HQ.out]
  rintro e w1 ⟨rfl, hb1⟩
  go_wp2
  go_ret
  exact ⟨by simp, (by repeat' (first | (with_reducible refine bset ?_ ?_) | (with_reducible exact Below.refl _ _) | (with_reducible assumption) | (with_reducible refine bdrewN ?_ _) | (with_reducible refine bdrew ?_) | (with_reducible refine balloc0 ?_) | (with_reducible refine balloc ?_ ?_) | (with_reducible apply btrans0; rotate_left; with_reducible assumption) | (with_reducible apply btrans; rotate_left; with_reducible assumption) | exact Below.refl _ _ | assumption | (apply btrans0; rotate_left; assumption) | (apply btrans; rotate_left; assumption) | (simp; done) | omega | (simp; omega)))⟩
end Go.Proofs.Ytdnbegcebloodaa

/- Chapter 18: []byte(s) and string(b) of a row of bytes. -/
import Derived.Test.YtpnfkmlgelcbgaaSk
import Derived.Lib.ConvBytes
set_option linter.unusedVariables false
set_option linter.unusedSimpArgs false
namespace Go.Proofs.Ytpnfkmlgelcbgaa
open Go Go.RowKit
theorem ofNat_toNat' {n : Nat} (h : n < 256) : (UInt8.ofNat n).toNat = n := by simp; omega
theorem str_bytes (s : List UInt8) (w : World) : (convert 9 53 (.string (B s))).run Try.prog w = .ok (.slice (some ⟨w.heap.size, 0, none⟩) s.length (grownCap w s.length 0 5)) (Lib.bytesWorld w 5 (B s)) := by
  have := Lib.run_convert_string_bytes (P := Try.prog) w 9 53 5 (B s) Try.underlying9 Try.underlying53 Try.underlying5
  rw [B_size] at this
  exact this
theorem bytes_below {w : World} {e : TypeId} {s : ByteArray} : Below w.heap.size w (Lib.bytesWorld w e s) := ⟨rfl, rfl, rfl, by rw [Lib.bytesWorld_size]; omega, fun g hg => Lib.bytesWorld_at_old w e s g hg⟩
theorem bytes_cell (w : World) (e : TypeId) (s : List UInt8) (j : Nat) (x : UInt8) (h : s[j]? = some x) : (Lib.bytesWorld w e (B s)).cell? ⟨w.heap.size, j, none⟩ = some (.int .u8 (x.toNat : Int)) := by
  obtain ⟨hi, hx⟩ := List.getElem?_eq_some_iff.1 h
  rw [Lib.bytesWorld_cell w e (B s) j (by rw [B_size]; exact hi)]
  have : (B s).data.toList.getD j 0 = x := by
    show s.getD j 0 = x
    rw [List.getD_eq_getElem?_getD, h]; rfl
  rw [this]
theorem bytes_thaw (w : World) (e : TypeId) (s : List UInt8) (j : Nat) (h : j < s.length) : (Lib.bytesWorld w e (B s)).frozen? ⟨w.heap.size, j, none⟩ = false := by
  have hz : (Lib.bytesCells w e (B s)).size ≥ s.length := by unfold Lib.bytesCells; simp [B]
  simp [World.frozen?, Lib.bytesWorld_at_new]
  omega
theorem u8_xor (a b : UInt8) : bits .xor .u8 (a.toNat : Int) (b.toNat : Int) = ((a ^^^ b).toNat : Int) := by
  have ha := a.toNat_lt
  have hb := b.toNat_lt
  have h1 : (BitVec.ofInt 8 (a.toNat : Int)).toNat = a.toNat := by rw [BitVec.ofInt_natCast, BitVec.toNat_ofNat]; exact Nat.mod_eq_of_lt (by omega)
  have h2 : (BitVec.ofInt 8 (b.toNat : Int)).toNat = b.toNat := by rw [BitVec.ofInt_natCast, BitVec.toNat_ofNat]; exact Nat.mod_eq_of_lt (by omega)
  show IntKind.u8.wrap ((BitVec.ofInt 8 (a.toNat : Int) ^^^ BitVec.ofInt 8 (b.toNat : Int)).toNat : Int) = _
  rw [BitVec.toNat_xor, h1, h2, ← UInt8.toNat_xor]
  have hl := (a ^^^ b).toNat_lt
  generalize (a ^^^ b).toNat = n at *
  unfold IntKind.wrap
  simp [IntKind.signed, IntKind.bits]
  omega
/-- string(b), where b is the string's row with one byte set -/
theorem bytes_str (V : World) (g n cap i : Nat) (s : List UInt8) (y : UInt8) (hn : s.length = n) (hi : i < n) (hg : ∀ (j : Nat) (x : UInt8), s[j]? = some x → V.cell? ⟨g, j, none⟩ = some (.int .u8 (x.toNat : Int))) :
    (convert 53 9 (.slice (some ⟨g, 0, none⟩) n cap)).run Try.prog (V.setCell ⟨g, i, none⟩ (.int .u8 (y.toNat : Int))) = .ok (.string (B (s.set i y))) (V.setCell ⟨g, i, none⟩ (.int .u8 (y.toNat : Int))) := by
  refine conv_bytes _ 53 9 5 _ n cap (s.set i y) Try.underlying53 Try.underlying5 Try.underlying9 (by rw [List.length_set]; exact hn) ?_ (fun h => by cases h)
  intro ad had j hj
  injection had with had
  subst had
  rw [List.length_set] at hj
  obtain ⟨x, hx⟩ : ∃ x, s[j]? = some x := ⟨_, List.getElem?_eq_getElem hj⟩
  have e : (⟨g, 0, none⟩ : Addr).add j = ⟨g, j, none⟩ := by unfold Addr.add; split <;> simp_all
  rw [e]
  by_cases hij : i = j
  · subst hij
    rw [World.cell?_setCell_same _ _ _ (hg i x hx)]
    simp
  · have hc : (V.setCell ⟨g, i, none⟩ (.int .u8 (y.toNat : Int))).cell? ⟨g, j, none⟩ = V.cell? ⟨g, j, none⟩ := by
      simp [World.cell?, World.setCell, Array.getElem?_modify]
      cases hh : V.heap[g]? with
      | none => simp
      | some o => cases o <;> simp [hij]
    rw [hc, hg j x hx, List.getElem_set_ne hij]
    have := (List.getElem?_eq_some_iff.1 hx).2
    rw [this]
theorem RSps.keepIn {w w' : World} {M M' L : Nat} {v : Value} {l : List Iv.Sp} (h : RSps w M v l) (hv : RFrom L v) (k : ∀ b, L ≤ b → b < M → w'.heap[b]? = w.heap[b]?) (hM : M ≤ M') : RSps w' M' v l := by
  obtain ⟨a, c, rfl, h1, h2, h3, h4⟩ := h
  refine ⟨a, c, rfl, h1, h2, h3, fun hp => ?_⟩
  obtain ⟨b, o, rfl, hb, hc⟩ := h4 hp
  exact ⟨b, o, rfl, by omega, fun j u hu => (World.cell?_of_block (k b (hv _ _ _ rfl) hb)).trans (hc j u hu)⟩
end Go.Proofs.Ytpnfkmlgelcbgaa

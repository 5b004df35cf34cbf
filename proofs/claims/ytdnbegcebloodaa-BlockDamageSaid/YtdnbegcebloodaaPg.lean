/- The plain law of damage; []byte(s) and string(b) of a row of bytes. -/
import Derived.Test.YtdnbegcebloodaaPe
import Derived.Test.YtdnbegcebloodaaPf
import Derived.Lib.ConvBytes
set_option linter.unusedVariables false
set_option linter.unusedSimpArgs false
namespace Go.Proofs.Ytdnbegcebloodaa
open Go Go.RowKit

theorem list_split {α : Type} {s : List α} {i : Nat} {x : α} (h : s[i]? = some x) : s = s.take i ++ x :: s.drop (i + 1) := by
  obtain ⟨hi, hx⟩ := List.getElem?_eq_some_iff.1 h
  rw [← hx, List.getElem_cons_drop, List.take_append_drop]
theorem set_split {α : Type} {s : List α} {i : Nat} {x y : α} (h : s[i]? = some x) : s.set i y = s.take i ++ y :: s.drop (i + 1) := by
  obtain ⟨hi, _⟩ := List.getElem?_eq_some_iff.1 h
  rw [List.set_eq_take_append_cons_drop, if_pos hi]
/-- a damaged block is not decoded at its size -/
theorem damage {b : Blk} {i : Nat} {x y : UInt8} {z : Blk} (hx : (encB b)[i]? = some x) (hy : x ≠ y) (h : decS ((encB b).set i y) = (z, ((encB b).length : Int), 0)) : False := by
  obtain ⟨⟨r, hr⟩, hk, _⟩ := enc_dec h
  have hl := congrArg List.length hr
  rw [List.length_set, List.length_append] at hl
  have hr0 : r = [] := List.length_eq_zero_iff.1 (by omega)
  subst hr0
  rw [List.append_nil] at hr
  refine hy (frame_byte (u := textE (intE b.kind ++ intE b.flags ++ textE b.data)) (v := textE (intE z.kind ++ intE z.flags ++ textE z.data)) (p := (encB b).take i) (q := (encB b).drop (i + 1)) ?_ ?_)
  · exact (list_split hx)
  · rw [← set_split hx, hr]; rfl
theorem str_bytes (s : List UInt8) (w : World) : (convert 9 56 (.string (B s))).run Try.prog w = .ok (.slice (some ⟨w.heap.size, 0, none⟩) s.length (grownCap w s.length 0 5)) (Lib.bytesWorld w 5 (B s)) := by
  have := Lib.run_convert_string_bytes (P := Try.prog) w 9 56 5 (B s) Try.underlying9 Try.underlying56 Try.underlying5
  rw [B_size] at this
  exact this
theorem bytes_below {w : World} {e : TypeId} {s : ByteArray} : Below w.heap.size w (Lib.bytesWorld w e s) := ⟨rfl, rfl, rfl, by rw [Lib.bytesWorld_size]; omega, fun g hg => Lib.bytesWorld_at_old w e s g hg⟩
theorem bytes_cell (w : World) (e : TypeId) (s : List UInt8) (j : Nat) (x : UInt8) (h : s[j]? = some x) : (Lib.bytesWorld w e (B s)).cell? ⟨w.heap.size, j, none⟩ = some (.int .u8 (x.toNat : Int)) := by
  obtain ⟨hi, hx⟩ := List.getElem?_eq_some_iff.1 h
  rw [Lib.bytesWorld_cell w e (B s) j (by rw [B_size]; exact hi)]
  have : (B s).data.toList.getD j 0 = x := by
    show s.getD j 0 = x
    rw [List.getD_eq_getElem?_getD, h]; rfl
  rw [this]
theorem bytes_thaw (w : World) (e : TypeId) (s : List UInt8) (j : Nat) (h : j < s.length) : (Lib.bytesWorld w e (B s)).frozen? ⟨w.heap.size, j, none⟩ = false := by
  have hz : (Lib.bytesCells w e (B s)).size ≥ s.length := by unfold Lib.bytesCells; simp [B]
  simp [World.frozen?, Lib.bytesWorld_at_new]
  omega
theorem u8_xor (a b : UInt8) : bits .xor .u8 (a.toNat : Int) (b.toNat : Int) = ((a ^^^ b).toNat : Int) := by
  have ha := a.toNat_lt
  have hb := b.toNat_lt
  have h1 : (BitVec.ofInt 8 (a.toNat : Int)).toNat = a.toNat := by rw [BitVec.ofInt_natCast, BitVec.toNat_ofNat]; exact Nat.mod_eq_of_lt (by omega)
  have h2 : (BitVec.ofInt 8 (b.toNat : Int)).toNat = b.toNat := by rw [BitVec.ofInt_natCast, BitVec.toNat_ofNat]; exact Nat.mod_eq_of_lt (by omega)
  show IntKind.u8.wrap ((BitVec.ofInt 8 (a.toNat : Int) ^^^ BitVec.ofInt 8 (b.toNat : Int)).toNat : Int) = _
  rw [BitVec.toNat_xor, h1, h2, ← UInt8.toNat_xor]
  have hl := (a ^^^ b).toNat_lt
  generalize (a ^^^ b).toNat = n at *
  unfold IntKind.wrap
  simp [IntKind.signed, IntKind.bits]
  omega
/-- string(b), where b is the string's row with one byte set -/
theorem bytes_str (V : World) (g n cap i : Nat) (s : List UInt8) (y : UInt8) (hn : s.length = n) (hi : i < n) (hg : ∀ (j : Nat) (x : UInt8), s[j]? = some x → V.cell? ⟨g, j, none⟩ = some (.int .u8 (x.toNat : Int))) :
    (convert 56 9 (.slice (some ⟨g, 0, none⟩) n cap)).run Try.prog (V.setCell ⟨g, i, none⟩ (.int .u8 (y.toNat : Int))) = .ok (.string (B (s.set i y))) (V.setCell ⟨g, i, none⟩ (.int .u8 (y.toNat : Int))) := by
  refine conv_bytes _ 56 9 5 _ n cap (s.set i y) Try.underlying56 Try.underlying5 Try.underlying9 (by rw [List.length_set]; exact hn) ?_ (fun h => by cases h)
  intro ad had j hj
  injection had with had
  subst had
  rw [List.length_set] at hj
  obtain ⟨x, hx⟩ : ∃ x, s[j]? = some x := ⟨_, List.getElem?_eq_getElem hj⟩
  have e : (⟨g, 0, none⟩ : Addr).add j = ⟨g, j, none⟩ := by unfold Addr.add; split <;> simp_all
  rw [e]
  by_cases hij : i = j
  · subst hij
    rw [World.cell?_setCell_same _ _ _ (hg i x hx)]
    simp
  · have hc : (V.setCell ⟨g, i, none⟩ (.int .u8 (y.toNat : Int))).cell? ⟨g, j, none⟩ = V.cell? ⟨g, j, none⟩ := by
      simp [World.cell?, World.setCell, Array.getElem?_modify]
      cases hh : V.heap[g]? with
      | none => simp
      | some o => cases o <;> simp [hij]
    rw [hc, hg j x hx, List.getElem_set_ne hij]
    have := (List.getElem?_eq_some_iff.1 hx).2
    rw [this]
end Go.Proofs.Ytdnbegcebloodaa

/- Strings as lists of bytes: B l is the string of the bytes l. The walk's rules for them. -/
import Derived.Test.YtdnbegcebloodaaU
import Derived.Laws.BytesArg
set_option linter.unusedVariables false
namespace Go.Proofs.Ytdnbegcebloodaa
open Go Go.RowKit

def B (l : List UInt8) : ByteArray := ⟨l.toArray⟩
theorem B_data (s : ByteArray) : B s.data.toList = s := rfl
theorem B_size (l : List UInt8) : (B l).size = l.length := by simp [B, ByteArray.size]
theorem B_app (a b : List UInt8) : B a ++ B b = B (a ++ b) := ByteArray.mk_append_mk a b
theorem B_empty : (⟨#[]⟩ : ByteArray) = B [] := rfl
theorem B_toList (l : List UInt8) : (B l).toList = l := by
  have h : ∀ (n i : Nat) (r : List UInt8), (B l).size - i = n → ByteArray.toList.loop (B l) i r = r.reverse ++ l.drop i := by
    intro n
    induction n with
    | zero =>
      intro i r hn
      rw [B_size] at hn
      unfold ByteArray.toList.loop
      rw [if_neg (by rw [B_size]; omega), List.drop_eq_nil_of_le (by omega), List.append_nil]
    | succ n ih =>
      intro i r hn
      have hi : i < l.length := by rw [B_size] at hn; omega
      unfold ByteArray.toList.loop
      rw [if_pos (by rw [B_size]; exact hi), ih (i + 1) _ (by omega), List.drop_eq_getElem_cons hi]
      have : (B l).get! i = l[i] := by
        show l.toArray[i]! = _
        simp [hi]
      rw [this]; simp
  unfold ByteArray.toList
  rw [h _ 0 [] rfl]; simp
theorem B_inj {a b : List UInt8} (h : B a = B b) : a = b := by
  have := congrArg (fun s : ByteArray => s.data.toList) h
  simpa [B] using this
theorem B_extract (l : List UInt8) (a b : Nat) : (B l).extract a b = B ((l.drop a).take (b - a)) := ByteArray.extract_mk l a b
theorem B_get (l : List UInt8) (i : Nat) : (B l)[i]? = l[i]? := by
  show (if h : i < (B l).size then some ((B l)[i]) else none) = _
  by_cases h : i < l.length
  · rw [dif_pos (by rw [B_size]; exact h), List.getElem?_eq_getElem h]; rfl
  · rw [dif_neg (by rw [B_size]; exact h), List.getElem?_eq_none (by omega)]
theorem B_getElem (l : List UInt8) (i : Nat) (h : i < (B l).size) : (B l)[i] = l[i]'(by rw [B_size] at h; exact h) := rfl
/-- string([]byte{..}): the slice's cells are the bytes of l -/
theorem conv_bytes {P : Program} (w : World) (src dst e : TypeId) (a : Option Addr) (n cap : Nat) (l : List UInt8) (hs : P.underlying src = some (.slice e)) (he : P.underlying e = some (.int .u8)) (hd : P.underlying dst = some .string)
    (hn : l.length = n) (hc : ∀ ad, a = some ad → ∀ j (hj : j < l.length), w.cell? (ad.add j) = some (.int .u8 (l[j].toNat : Int))) (hz : a = none → n = 0) :
    (convert src dst (.slice a n cap)).run P w = .ok (.string (B l)) w := by
  subst hn
  cases a with
  | some ad => exact run_convert_bytes_back w src dst e ad cap l hs he hd (hc ad rfl)
  | none =>
    have : l = [] := List.eq_nil_of_length_eq_zero (hz rfl)
    subst this
    exact run_convert_bytes_nil w src e hs he _ _ dst hd
end Go.Proofs.Ytdnbegcebloodaa

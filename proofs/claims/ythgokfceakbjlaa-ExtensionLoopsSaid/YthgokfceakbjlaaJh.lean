/- Joined by port.py: XEc XEk -/
import Derived.Test.YthgokfceakbjlaaJb
import Derived.Test.YthgokfceakbjlaaJa
import Derived.Test.YthgokfceakbjlaaProg
import Derived.WalkSpells
import Derived.Lib.SliceRun
import Derived.Test.YthgokfceakbjlaaJe
set_option linter.unusedVariables false
set_option linter.unusedSimpArgs false
/-! XEc -/
namespace Go.Proofs.Ythgokfceakbjlaa
open Go Go.RowKit
attribute [local go_sem] B_getElem B_size B_app B_extract B_get B_toList
theorem infoBlk : (Try.prog.info? 56).map (fun i => (i.zero, i.size, i.bytes)) = some (some (.agg #[.int .i64 0, .int .i64 0, .string (B [])]), 3, 32) := by kernel_rfl
/-- a function value with its variables says of a block whether it has a property -/
def PredAt (f : FuncId) (caps : Array Value) (Pd : Blk → Bool) (w : World) (l : List Blk) : Prop := (∀ args W, (callFunc f args).run Try.prog W = .ok (.enter f args) W) ∧
  ∀ (x : Blk) (W : World), x ∈ l → Below w.heap.size w W → Calls Try.prog f (#[.agg #[.int .i64 x.kind, .int .i64 x.flags, .string (B x.data)]] ++ caps) W fun e W' => e = .returned (.bool (Pd x)) ∧ Below W.heap.size W W'
theorem PredAt.below {f : FuncId} {caps : Array Value} {Pd : Blk → Bool} {w w' : World} {l : List Blk} (h : PredAt f caps Pd w l) (k : Below w.heap.size w w') : PredAt f caps Pd w' l := ⟨h.1, fun x W hx hW => h.2 x W hx (btrans0 k hW)⟩
def IdxPost (Pd : Blk → Bool) (l : List Blk) (w : World) (e : Ending) (w' : World) : Prop := Below w.heap.size w w' ∧
  ((e = .returned (.int .i64 (-1)) ∧ ∀ x ∈ l, Pd x = false) ∨ ∃ k : Nat, e = .returned (.int .i64 k) ∧ k < l.length ∧ (∀ x ∈ l.take k, Pd x = false) ∧ ∀ x, l[k]? = some x → Pd x = true)
set_option maxRecDepth 100000 in
set_option maxHeartbeats 1000000 in
theorem index_pred (l : List Blk) (u : Value) (f : FuncId) (caps : Array Value) (Pd : Blk → Bool) (w : World) (h : RBlks w w.heap.size u l) (hp : PredAt f caps Pd w l) :
    Calls Try.prog 75 #[u, .func (.func f) #[] caps] w (IdxPost Pd l w) := by
  obtain ⟨a, c, rfl, h1, h2, h3, h4⟩ := h
  unfold maxLen at h2
  have hlen : l.length ≤ 9223372036854775807 := by omega
  have H4 := Lib.hid h4
  obtain ⟨hcall, hq⟩ := hp
  have HP := Lib.hid hq
  clear h3 h4 hq
  go_enter Try.func75, Try.ntmps75
  go_wp2
  go_loopw [8] (fun i wr => ∃ k : Nat, k ≤ l.length ∧ i = .int .i64 k ∧ Hid (∀ x ∈ l.take k, Pd x = false) ∧ Below w.heap.size w wr) (fun i _ => l.length - (intOf i).toNat)
  case atStart => exact ⟨0, Nat.zero_le _, rfl, Lib.hid (by simp), Below.refl _ _⟩
  case round =>
    obtain ⟨k, hk, rfl, HF, hB⟩ := hrel
    by_cases hlt : k < l.length
    · obtain ⟨bb, o, rfl, hbn, hcell⟩ := H4.out (by omega)
      obtain ⟨x, hx⟩ : ∃ x, l[k]? = some x := ⟨_, List.getElem?_eq_getElem hlt⟩
      obtain ⟨c1, c2, c3⟩ := (hcell k x hx).keep (fun o => hB.cell (p := ⟨bb, o, none⟩) hbn)
      have k0 : (0 : Int) ≤ (k : Int) := by omega
      have k1 : (k : Int) < (l.length : Int) := by omega
      obtain ⟨q, hq⟩ : ∃ q, Pd x = q := ⟨_, rfl⟩
      have HQ := Lib.hid hq
      have HX := Lib.hid hx
      have hsz := hB.size
      clear hq hx hcell
      go_wp2_with fail
      refine (HP.out x _ (List.mem_of_getElem? HX.out) hB).mono ?_
      rw [HQ.out]
      rintro e w1 ⟨rfl, hb1⟩
      have hb2 : Below w.heap.size w w1 := (by repeat' (first | with_reducible (first | refine bset ?_ ?_ | exact Below.refl _ _ | assumption | refine bdrewN ?_ _ | refine bdrew ?_ | refine balloc0 ?_ | refine balloc ?_ ?_ | (apply btrans0; rotate_left; assumption) | (apply btrans; rotate_left; assumption)) | exact Below.refl _ _ | assumption | (apply btrans0; rotate_left; assumption) | (apply btrans; rotate_left; assumption) | (simp; done) | omega | (simp; omega)))
      cases q with
      | false =>
        go_wp2
        go_roundw
        case rel =>
          refine ⟨k + 1, by omega, by go_num, Lib.hid ?_, hb2⟩
          intro y hy
          rw [List.take_add_one, HX.out] at hy
          rcases List.mem_append.1 hy with hy | hy
          · exact HF.out y hy
          · simp at hy; subst hy; exact HQ.out
        case measure => simp [intOf]; omega
      | true =>
        go_wp2
        go_ret
        exact ⟨hb2, .inr ⟨k, rfl, hlt, HF.out, fun y hy => by rw [HX.out] at hy; injection hy with hy; subst hy; exact HQ.out⟩⟩
    · obtain rfl : k = l.length := by omega
      go_wp2
      go_ret
      exact ⟨hB, .inl ⟨rfl, by have := HF.out; rwa [List.take_length] at this⟩⟩
/-- a fresh list of blocks comes back -/
def BlksPost (l : List Blk) (w : World) (e : Ending) (w' : World) : Prop := ∃ v, e = .returned v ∧ RBlks w' w'.heap.size v l ∧ Below w.heap.size w w' ∧ w'.ownsRow w.heap.size 56 3 v l.length (l.flatMap blkC)
set_option maxRecDepth 100000 in
set_option maxHeartbeats 1000000 in
theorem filter_pred (l : List Blk) (u : Value) (f : FuncId) (caps : Array Value) (Pd : Blk → Bool) (w : World) (h : RBlks w w.heap.size u l) (hp : PredAt f caps Pd w l) (hl : l.length ≤ 1000) :
    Calls Try.prog 73 #[u, .func (.func f) #[] caps] w (BlksPost (l.filter Pd) w) := by
  obtain ⟨a, c, rfl, h1, h2, h3, h4⟩ := h
  unfold maxLen at h2
  have H4 := Lib.hid h4
  obtain ⟨hcall, hq⟩ := hp
  have HP := Lib.hid hq
  obtain ⟨i0, hin, hz0, hz1, hz2⟩ := info_parts infoBlk
  clear h3 h4 hq
  go_enter Try.func73, Try.ntmps73
  go_wp2
  go_loopw [10, 5] (fun i s wr => ∃ (k n' : Nat) (vo : Value), s = vo ∧ k ≤ l.length ∧ i = .int .i64 k ∧ n' ≤ k ∧ wr.ownsRow w.heap.size 56 3 vo n' (((l.take k).filter Pd).flatMap blkC) ∧ Below w.heap.size w wr) (fun i _ _ => l.length - (intOf i).toNat)
  case atStart => exact ⟨0, 0, _, rfl, Nat.zero_le _, rfl, Nat.le_refl _, World.ownsRow_nil _ _ _ _, Below.refl _ _⟩
  case round =>
    obtain ⟨k, n', vo, e7, hk, rfl, hn, hown, hB⟩ := hrel
    have e7' := e7.symm
    clear e7
    subst e7'
    by_cases hlt : k < l.length
    · obtain ⟨bb, o, rfl, hbn, hcell⟩ := H4.out (by omega)
      obtain ⟨x, hx⟩ : ∃ x, l[k]? = some x := ⟨_, List.getElem?_eq_getElem hlt⟩
      obtain ⟨c1, c2, c3⟩ := (hcell k x hx).keep (fun o => hB.cell (p := ⟨bb, o, none⟩) hbn)
      have k0 : (0 : Int) ≤ (k : Int) := by omega
      have k1 : (k : Int) < (l.length : Int) := by omega
      obtain ⟨q, hq⟩ : ∃ q, Pd x = q := ⟨_, rfl⟩
      have HQ := Lib.hid hq
      have HX := Lib.hid hx
      have hsz := hB.size
      clear hq hx hcell
      go_wp2_with fail
      refine (HP.out x _ (List.mem_of_getElem? HX.out) (by repeat' (first | with_reducible (first | refine bset ?_ ?_ | exact Below.refl _ _ | assumption | refine bdrewN ?_ _ | refine bdrew ?_ | refine balloc0 ?_ | refine balloc ?_ ?_ | (apply btrans0; rotate_left; assumption) | (apply btrans; rotate_left; assumption)) | exact Below.refl _ _ | assumption | (apply btrans0; rotate_left; assumption) | (apply btrans; rotate_left; assumption) | (simp; done) | omega | (simp; omega)))).mono ?_
      rw [HQ.out]
      rintro e w1 ⟨rfl, hb1⟩
      have hb2 : Below w.heap.size w w1 := (by repeat' (first | with_reducible (first | refine bset ?_ ?_ | exact Below.refl _ _ | assumption | refine bdrewN ?_ _ | refine bdrew ?_ | refine balloc0 ?_ | refine balloc ?_ ?_ | (apply btrans0; rotate_left; assumption) | (apply btrans; rotate_left; assumption)) | exact Below.refl _ _ | assumption | (apply btrans0; rotate_left; assumption) | (apply btrans; rotate_left; assumption) | (simp; done) | omega | (simp; omega)))
      have XB : w1.heap[wr.heap.size]? = some (.cells (blkC x).toArray 56 (0, 0)) := (hb1.block _ (by simp)).trans heap_new
      have hsz1 : wr.heap.size < w1.heap.size := by have := hb1.size; simp at this; omega
      have hown1 : w1.ownsRow w.heap.size 56 3 vo n' (((l.take k).filter Pd).flatMap blkC) := own_kept (hown.alloc _) (fun q _ cs e f hq => hb1.block q (by
        rcases Nat.lt_or_ge q (wr.alloc (.cells #[.int .i64 x.kind, .int .i64 x.flags, .string (B x.data)] 56)).heap.size with h | h
        · exact h
        · rw [Array.getElem?_eq_none h] at hq; cases hq))
      clear hown hb1 c1 c2 c3
      have ca := fun o => cellB XB o
      simp only [blkC] at ca
      cases q with
      | false =>
        go_wp2
        go_roundw
        case rel => exact ⟨k + 1, n', _, rfl, by omega, by go_num, by omega, by rw [flat_skip HX.out HQ.out]; exact hown1, hb2⟩
        case measure => simp [intOf]; omega
      | true =>
        go_wp2_with (at_builtin; refine wpList_append_lies _ rfl _ _ _ rfl w.heap.size 56 i0 _ 3 32 Try.underlying26 hin hz0 hz1 hz2 rfl (by omega) vo n' _ rfl (hown1.alloc _) ⟨w1.heap.size, 0, none⟩ 1 1 (blkC x) rfl rfl (news_one (t := 56) (by exact heap_new)) (blkC_one x) (by omega) (by simp only [maxLen]; omega) (by omega) (by simp; omega) (w1.heap.size + 1) (by simp) ?_; intro g cap w5 hown5 hg5 hat5 hlt5)
        have hB4 : Below w.heap.size w w5 := (balloc hb2 (by omega)).grown hg5 (by simp; omega) (fun q hq => (hown1.lt q hq).1)
        have HO := Lib.hid hown5
        clear hown5 hg5 hat5 hown1 ca
        go_wp2
        go_roundw
        case rel => exact ⟨k + 1, n' + 1, _, rfl, by omega, by go_num, by omega, by rw [flat_snoc HX.out HQ.out]; exact HO.out, hB4⟩
        case measure => simp [intOf]; omega
    · obtain rfl : k = l.length := by omega
      rw [List.take_length] at hown
      have hn' : n' = (l.filter Pd).length := by have := hown.1; rw [flat_len blkC 3 blkC_len] at this; omega
      subst hn'
      go_wp2
      go_ret
      exact ⟨_, rfl, RBlks.of_own hown, hB, hown⟩
end Go.Proofs.Ythgokfceakbjlaa
/-! XEk -/
namespace Go.Proofs.Ythgokfceakbjlaa
open Go Go.RowKit
attribute [local go_sem] B_getElem B_size B_app B_extract B_get B_toList
def nt (Pd : Blk → Bool) (x : Blk) : Bool := !Pd x
/-- as PredAt, whatever is turned from block N on -/
def PredN (f : FuncId) (caps : Array Value) (Pd : Blk → Bool) (N : Nat) (w : World) (l : List Blk) : Prop := (∀ args W, (callFunc f args).run Try.prog W = .ok (.enter f args) W) ∧
  ∀ (x : Blk) (W : World), x ∈ l → Below N w W → Calls Try.prog f (#[.agg #[.int .i64 x.kind, .int .i64 x.flags, .string (B x.data)]] ++ caps) W fun e W' => e = .returned (.bool (Pd x)) ∧ Below W.heap.size W W'
theorem PredN.at {f : FuncId} {caps : Array Value} {Pd : Blk → Bool} {N : Nat} {w : World} {l : List Blk} (h : PredN f caps Pd N w l) (hN : N ≤ w.heap.size) : PredAt f caps Pd w l := ⟨h.1, fun x W hx hW => h.2 x W hx (hW.mono hN)⟩
theorem PredN.below {f : FuncId} {caps : Array Value} {Pd : Blk → Bool} {N : Nat} {w w' : World} {l : List Blk} (h : PredN f caps Pd N w l) (k : Below N w w') : PredN f caps Pd N w' l := ⟨h.1, fun x W hx hW => h.2 x W hx (k.trans hW)⟩
/-- a slice of the call's own that holds the blocks l (nil or not) -/
def OwnB (w : World) (N : Nat) (v : Value) (l : List Blk) : Prop :=
  (l = [] ∧ v = .slice none 0 0) ∨ ∃ g cap, v = .slice (some ⟨g, 0, none⟩) l.length cap ∧ N ≤ g ∧ w.ownsRow N 56 3 v l.length (l.flatMap blkC)
def ClonePost (l : List Blk) (w : World) (e : Ending) (w' : World) : Prop := ∃ v, e = .returned v ∧ Below w.heap.size w w' ∧ OwnB w' w.heap.size v l
theorem CBlk.cells_out {w : World} {g q o : Nat} {x : Blk} {cs : List Value} (h : CBlk w g (q * 3) x) (ho : q * 3 + 3 ≤ o) : CBlk (w.setCells g o cs) g (q * 3) x := by
  obtain ⟨h1, h2, h3⟩ := h
  refine ⟨?_, ?_, ?_⟩
  · rw [World.cell?_setCells_out g cs o w _ (fun _ _ => .inl (by show q * 3 < o; omega))]; exact h1
  · rw [World.cell?_setCells_out g cs o w _ (fun _ _ => .inl (by show q * 3 + 1 < o; omega))]; exact h2
  · rw [World.cell?_setCells_out g cs o w _ (fun _ _ => .inl (by show q * 3 + 2 < o; omega))]; exact h3
/-- the row that DeleteFunc turns, j elements having been looked at -/
def DelRow (Pd : Blk → Bool) (w : World) (g : Nat) (l : List Blk) (j : Nat) : Prop :=
  (∀ (q : Nat) (x : Blk), ((l.take j).filter (nt Pd))[q]? = some x → CBlk w g (q * 3) x) ∧ (∀ (q : Nat) (x : Blk), j ≤ q → l[q]? = some x → CBlk w g (q * 3) x) ∧
  (∀ o, o < l.length * 3 → (w.cell? ⟨g, o, none⟩).isSome = true) ∧ ∀ o, w.frozen? ⟨g, o, none⟩ = false
def DelPost (Pd : Blk → Bool) (l : List Blk) (g c : Nat) (w : World) (e : Ending) (w' : World) : Prop :=
  e = .returned (.slice (some ⟨g, 0, none⟩) (l.filter (nt Pd)).length c) ∧ Below g w w' ∧ ∀ (q : Nat) (x : Blk), (l.filter (nt Pd))[q]? = some x → CBlk w' g (q * 3) x
theorem DelRow.below {Pd : Blk → Bool} {w w1 : World} {g : Nat} {l : List Blk} {j : Nat} (h : DelRow Pd w g l j) (hb : Below w.heap.size w w1) (hg : g < w.heap.size) : DelRow Pd w1 g l j := by
  have hc : ∀ o, w1.cell? ⟨g, o, none⟩ = w.cell? ⟨g, o, none⟩ := fun o => hb.cell (p := ⟨g, o, none⟩) hg
  have hf : ∀ o, w1.frozen? ⟨g, o, none⟩ = w.frozen? ⟨g, o, none⟩ := fun o => hb.frozen (p := ⟨g, o, none⟩) hg
  exact ⟨fun q x hx => (h.1 q x hx).keep hc, fun q x hq hx => (h.2.1 q x hq hx).keep hc, fun o ho => by rw [hc]; exact h.2.2.1 o ho, fun o => by rw [hf]; exact h.2.2.2 o⟩
def DelOwnPost (Pd : Blk → Bool) (l : List Blk) (N : Nat) (w : World) (e : Ending) (w' : World) : Prop := ∃ v', e = .returned v' ∧ RBlks w' w'.heap.size v' (l.filter (nt Pd)) ∧ Below N w w'
end Go.Proofs.Ythgokfceakbjlaa

/- Joined by port.py: XDe XEa XEb -/
import Derived.Test.YtmknchdciblfjaaGreatJd
import Derived.Test.YtmknchdciblfjaaGreatJe
import Derived.Test.YtmknchdciblfjaaGreatJf
import Derived.Test.YtmknchdciblfjaaGreatJa
import Derived.Test.YtmknchdciblfjaaGreatJb
set_option linter.unusedVariables false
set_option linter.unusedSimpArgs false
/-! XDe -/
namespace Go.Proofs.YtmknchdciblfjaaGreat
open Go Go.RowKit
attribute [local go_sem] B_getElem B_size B_app B_extract B_get B_toList
theorem textE_len (s : List UInt8) : s.length + 1 ≤ (textE s).length ∧ (textE s).length ≤ s.length + 11 := by
  have := intE_len s.length
  unfold textE
  rw [List.length_append]
  omega
set_option maxHeartbeats 1000000 in
theorem text_ok (s : List UInt8) (w : World) (h : s.length ≤ 65536) :
    Calls Tryz.prog 69 #[.string (B s)] w fun e w' => e = .returned (.tuple #[.string (B (textE s)), .int .i64 0]) ∧ Below w.heap.size w w' := by
  have hi := intE_len s.length
  have hj : ¬ 9223372036854775807 < (intE (s.length : Int)).length + s.length := by omega
  have hn : ¬ (65536 : Int) < (s.length : Int) := by omega
  go_enter Tryz.func69, Tryz.ntmps69
  go_wp2_with fail
  refine (int_any s.length _ (by omega) (by omega)).mono ?_
  rintro e w1 ⟨rfl, hb1⟩
  go_wp2
  go_ret2
  exact ⟨rfl, belowA⟩
/-- the frame of a string -/
def sealE (s : List UInt8) : List UInt8 := textE s ++ tailB (textE s)
set_option maxHeartbeats 1000000 in
theorem seal_ok (s : List UInt8) (w : World) (h : s.length ≤ 65536) :
    Calls Tryz.prog 145 #[.string (B s)] w fun e w' => e = .returned (.tuple #[.string (B (sealE s)), .int .i64 0]) ∧ Below w.heap.size w w' := by
  obtain ⟨t1, t2⟩ := textE_len s
  have hj : ¬ 9223372036854775807 < (textE s).length + (tailB (textE s)).length := by have : (tailB (textE s)).length = 4 := rfl; omega
  go_enter Tryz.func145, Tryz.ntmps145
  go_wp2_with fail
  refine (text_ok s _ h).mono ?_
  rintro e w1 ⟨rfl, hb1⟩
  go_wp2_with fail
  refine (tail_any (textE s) _ (by omega)).mono ?_
  rintro e w2 ⟨rfl, hb2⟩
  go_wp2
  go_ret2
  exact ⟨rfl, belowA⟩
end Go.Proofs.YtmknchdciblfjaaGreat
/-! XEa -/
namespace Go.Proofs.YtmknchdciblfjaaGreat
open Go Go.RowKit
attribute [local go_sem] B_getElem B_size B_app B_extract B_get B_toList
set_option maxHeartbeats 1000000 in
theorem bcheck_any (x : Blk) (w : World) (hx : x.data.length ≤ 9223372036854775807) :
    Calls Tryz.prog 135 #[.agg #[.int .i64 x.kind, .int .i64 x.flags, .string (B x.data)]] w fun e w' => e = .returned (.int .i64 (blkE x)) ∧ Below w.heap.size w w' := by
  obtain ⟨E, hE⟩ : ∃ E, blkE x = E := ⟨_, rfl⟩
  have HE := Lib.hid hE
  rw [hE]
  clear hE
  go_enter Tryz.func135, Tryz.ntmps135
  go_wp2
  all_goals (go_ret; refine ⟨ret_int ?_, belowA⟩; rw [← HE.out]; unfold blkE; (try simp only [Bool.not_eq_true', Bool.not_eq_false', decide_eq_true_eq, decide_eq_false_iff_not, beq_iff_eq, beq_eq_false_iff_ne, bne_iff_ne, bne_eq_false_iff_eq, ne_eq, Bool.and_eq_true, Bool.or_eq_true, Bool.and_eq_false_imp, Bool.or_eq_false_iff] at *); repeat' (first | omega | split))
/-- the bytes of a block -/
def encB (x : Blk) : List UInt8 := sealE (intE x.kind ++ intE x.flags ++ textE x.data)
def encR (x : Blk) : List UInt8 := if blkE x = 0 then encB x else []
theorem encB_len (x : Blk) (h : x.data.length ≤ 1024) : (encB x).length ≤ 1100 := by
  have a := intE_len x.kind
  have b := intE_len x.flags
  have c := textE_len x.data
  have d := textE_len (intE x.kind ++ intE x.flags ++ textE x.data)
  unfold encB sealE
  rw [List.length_append]
  have : (tailB (textE (intE x.kind ++ intE x.flags ++ textE x.data))).length = 4 := rfl
  simp only [List.length_append] at *
  omega
set_option maxHeartbeats 1000000 in
theorem bencode_bad (x : Blk) (w : World) (hx : x.data.length ≤ 9223372036854775807) (hE : blkE x ≠ 0) :
    Calls Tryz.prog 199 #[.agg #[.int .i64 x.kind, .int .i64 x.flags, .string (B x.data)]] w fun e w' => e = .returned (.tuple #[.string (B []), .int .i64 (blkE x)]) ∧ Below w.heap.size w w' := by
  have hE' : (blkE x == 0) = false := beq_eq_false_iff_ne.2 hE
  obtain ⟨E, hE2⟩ : ∃ E, blkE x = E := ⟨_, rfl⟩
  rw [hE2] at hE'
  have HE := Lib.hid hE2
  rw [hE2]
  clear hE hE2
  go_enter Tryz.func199, Tryz.ntmps199
  go_wp2_with fail
  refine (bcheck_any x _ hx).mono ?_
  rw [HE.out]
  rintro e w1 ⟨rfl, hb1⟩
  go_wp2
  go_ret2
  exact ⟨rfl, belowA⟩
set_option maxHeartbeats 1000000 in
theorem bencode_ok (x : Blk) (w : World) (hE : blkE x = 0) :
    Calls Tryz.prog 199 #[.agg #[.int .i64 x.kind, .int .i64 x.flags, .string (B x.data)]] w fun e w' => e = .returned (.tuple #[.string (B (encB x)), .int .i64 0]) ∧ Below w.heap.size w w' := by
  rw [show encB x = sealE (intE x.kind ++ intE x.flags ++ textE x.data) from rfl]
  obtain ⟨v1, v2, v3, v4, v5⟩ := blkE_zero hE
  have HE := Lib.hid hE
  have a1 := intE_len x.kind
  have a2 := intE_len x.flags
  have a3 := textE_len x.data
  obtain ⟨ik, hik⟩ : ∃ M, intE x.kind = M := ⟨_, rfl⟩
  obtain ⟨fk, hfk⟩ : ∃ M, intE x.flags = M := ⟨_, rfl⟩
  obtain ⟨tk, htk⟩ : ∃ M, textE x.data = M := ⟨_, rfl⟩
  rw [hik] at a1 ⊢
  rw [hfk] at a2 ⊢
  rw [htk] at a3 ⊢
  have HI := Lib.hid hik
  have HF := Lib.hid hfk
  have HT := Lib.hid htk
  obtain ⟨M, hM⟩ : ∃ M, sealE (ik ++ fk ++ tk) = M := ⟨_, rfl⟩
  have HM := Lib.hid hM
  rw [hM]
  have j1 : ¬ 9223372036854775807 < ik.length + fk.length := by omega
  have j2 : ¬ 9223372036854775807 < ik.length + fk.length + tk.length := by omega
  have j3 : ¬ 9223372036854775807 < (ik ++ fk).length + tk.length := by rw [List.length_append]; omega
  clear hE hik hfk htk hM
  go_enter Tryz.func199, Tryz.ntmps199
  go_wp2_with fail
  refine (bcheck_any x _ (by omega)).mono ?_
  rw [HE.out]
  rintro e w1 ⟨rfl, hb1⟩
  obtain ⟨k1, f1⟩ := bcell hb1
  have z1 : w.heap.size < w1.heap.size := by have := hb1.size; simp at this; omega
  go_wp2_with fail
  refine (int_any x.kind _ (by omega) (by omega)).mono ?_
  rw [HI.out]
  rintro e w2 ⟨rfl, hb2⟩
  obtain ⟨k2, f2⟩ := bcell hb2
  have z2 : w.heap.size < w2.heap.size := by have := hb2.size; omega
  go_wp2_with fail
  refine (int_any x.flags _ (by omega) (by omega)).mono ?_
  rw [HF.out]
  rintro e w3 ⟨rfl, hb3⟩
  obtain ⟨k3, f3⟩ := bcell hb3
  have z3 : w.heap.size < w3.heap.size := by have := hb3.size; omega
  go_wp2_with fail
  refine (text_ok x.data _ (by omega)).mono ?_
  rw [HT.out]
  rintro e w4 ⟨rfl, hb4⟩
  go_wp2_with fail
  refine (seal_ok _ _ (by simp only [List.length_append]; omega)).mono ?_
  first | rw [HM.out] | rw [← List.append_assoc, HM.out]
  rintro e w5 ⟨rfl, hb5⟩
  go_wp2
  go_ret2
  exact ⟨rfl, belowA⟩
end Go.Proofs.YtmknchdciblfjaaGreat
/-! XEb -/
namespace Go.Proofs.YtmknchdciblfjaaGreat
open Go Go.RowKit
attribute [local go_sem] B_getElem B_size B_app B_extract B_get B_toList
/-- why a list of blocks behind a kind is not valid -/
def caE : Option Int → List Blk → Int
  | _, [] => 0
  | p, x :: l => if blkE x ≠ 0 then blkE x else if (∃ q, p = some q ∧ x.kind ≤ q) then 9 else caE (some x.kind) l
def chkAll (l : List Blk) : Int := if 8 < l.length then 4 else caE none l
def pv (l : List Blk) : Nat → Option Int
  | 0 => none
  | k + 1 => (l[k]?).map (·.kind)
/-- the bytes of blocks -/
def encA (l : List Blk) : List UInt8 := intE l.length ++ l.flatMap encB
def encAR (l : List Blk) : List UInt8 := if chkAll l = 0 then encA l else []
theorem bencode_any (x : Blk) (w : World) (hx : x.data.length ≤ 9223372036854775807) :
    Calls Tryz.prog 199 #[.agg #[.int .i64 x.kind, .int .i64 x.flags, .string (B x.data)]] w fun e w' => e = .returned (.tuple #[.string (B (encR x)), .int .i64 (blkE x)]) ∧ Below w.heap.size w w' := by
  unfold encR
  by_cases h : blkE x = 0
  · rw [if_pos h, h]; exact bencode_ok x w h
  · rw [if_neg h]; exact bencode_bad x w hx h
set_option maxRecDepth 100000 in
set_option maxHeartbeats 1000000 in
theorem encodeAll_any (l : List Blk) (u : Value) (w : World) (h : RBlks w w.heap.size u l) (hd : ∀ x ∈ l, x.data.length ≤ maxLen) :
    Calls Tryz.prog 144 #[u] w fun e w' => e = .returned (.tuple #[.string (B (encAR l)), .int .i64 (chkAll l)]) ∧ Below w.heap.size w w' := by
  obtain ⟨a, c, rfl, h1, h2, h3, h4⟩ := h
  unfold maxLen at h2 hd
  have hlen : l.length ≤ 9223372036854775807 := by omega
  have H4 := Lib.hid h4
  have HD := Lib.hid hd
  clear h3 h4 hd
  by_cases h8 : 8 < l.length
  · have e1 : chkAll l = 4 := by unfold chkAll; rw [if_pos h8]
    have e2 : encAR l = [] := by unfold encAR; rw [if_neg (by rw [e1]; decide)]
    have h8' : (8 : Int) < (l.length : Int) := by omega
    rw [e1, e2]
    clear e1 e2
    go_enter Tryz.func144, Tryz.ntmps144
    go_wp2
    go_ret2
    exact ⟨rfl, belowA⟩
  have h8' : ¬ (8 : Int) < (l.length : Int) := by omega
  obtain ⟨E, hE⟩ : ∃ E, chkAll l = E := ⟨_, rfl⟩
  have HE := Lib.hid hE
  have HC : Hid (caE none l = E) := Lib.hid (by rw [← hE]; unfold chkAll; rw [if_neg h8])
  rw [hE]
  obtain ⟨R, hR⟩ : ∃ R, encAR l = R := ⟨_, rfl⟩
  have HR := Lib.hid hR
  rw [hR]
  clear hE hR
  have i1 := intE_len l.length
  go_enter Tryz.func144, Tryz.ntmps144
  go_wp2_with fail
  refine (int_any l.length _ (by omega) (by omega)).mono ?_
  rintro e w1 ⟨rfl, hb1⟩
  have hB1 : Below w.heap.size w w1 := belowA
  go_wp2
  go_loopw [21, 4] (fun i s wr => ∃ (k : Nat) (out : List UInt8), k ≤ l.length ∧ i = .int .i64 k ∧ s = .string (B out) ∧ Hid (out = intE l.length ++ (l.take k).flatMap encB) ∧ out.length ≤ 11 + k * 1100 ∧ Hid (caE (pv l k) (l.drop k) = E) ∧ Below w.heap.size w wr) (fun i _ _ => l.length - (intOf i).toNat)
  case atStart => exact ⟨0, _, Nat.zero_le _, rfl, rfl, Lib.hid (by simp), by omega, HC, hB1⟩
  case round =>
    obtain ⟨k, out, hk, rfl, rfl, HO, ho, HK, hB⟩ := hrel
    by_cases hlt : k < l.length
    · obtain ⟨bb, o, rfl, hbn, hcell⟩ := H4.out (by omega)
      obtain ⟨x, hx⟩ : ∃ x, l[k]? = some x := ⟨_, List.getElem?_eq_getElem hlt⟩
      have hxd := HD.out x (List.mem_of_getElem? hx)
      obtain ⟨c1, c2, c3⟩ := (hcell k x hx).keep (fun o => hB.cell (p := ⟨bb, o, none⟩) hbn)
      have hbr : bb < wr.heap.size := by have := hB.size; omega
      have k0 : (0 : Int) ≤ (k : Int) := by omega
      have k1 : (k : Int) < (l.length : Int) := by omega
      have hdrop : l.drop k = x :: l.drop (k + 1) := by
        rw [List.drop_eq_getElem_cons hlt]
        rw [List.getElem?_eq_getElem hlt] at hx
        injection hx with hx
        rw [hx]
      have HTK : Hid (l.take (k + 1) = l.take k ++ [x]) := Lib.hid (by rw [List.take_add_one, hx]; rfl)
      have HPV : Hid (pv l (k + 1) = some x.kind) := Lib.hid (by simp [pv, hx])
      have HX := Lib.hid hx
      have hK := HK.out
      rw [hdrop, caE] at hK
      by_cases hE : blkE x = 0
      case neg =>
        rw [if_pos hE] at hK
        have hE2 : (E == 0) = false := beq_eq_false_iff_ne.2 (by rw [← hK]; exact hE)
        have HK2 := Lib.hid hK
        have HR2 : Hid (R = []) := Lib.hid (by rw [← HR.out]; unfold encAR; rw [if_neg (by rw [HE.out, ← hK]; exact hE)])
        clear hcell hx hK hE hdrop
        go_wp2_with fail
        refine (bencode_any x _ hxd).mono ?_
        rw [HK2.out]
        rintro e w5 ⟨rfl, hb5⟩
        go_wp2
        go_ret2
        exact ⟨by rw [HR2.out]; rfl, belowA⟩
      obtain ⟨f1, f2, f3, f4, f5⟩ := blkE_zero hE
      have HRx : Hid (encR x = encB x) := Lib.hid (by unfold encR; rw [if_pos hE])
      rw [if_neg (by simp [hE])] at hK
      have hel := encB_len x f5
      obtain ⟨y, hy⟩ : ∃ y, encB x = y := ⟨_, rfl⟩
      have HY := Lib.hid hy
      have HEx := Lib.hid hE
      rw [hy] at hel
      have hcat : ¬ 9223372036854775807 < out.length + y.length := by omega
      have hout2 : Hid ((out ++ y) = intE l.length ++ (l.take (k + 1)).flatMap encB) := Lib.hid (by rw [HTK.out, HO.out, List.flatMap_append, ← hy]; simp)
      clear hE hy hdrop
      by_cases hkz : k = 0
      · have hkn : decide ((0 : Int) < (k : Int)) = false := decide_eq_false (by omega)
        have hkn2 : decide (0 < k) = false := decide_eq_false (by omega)
        have HK2 : Hid (caE (some x.kind) (l.drop (k + 1)) = E) := Lib.hid (by rw [if_neg (by subst hkz; simp [pv])] at hK; exact hK)
        clear hcell hx hK hkz
        go_wp2_with fail
        refine (bencode_any x _ hxd).mono ?_
        rw [HRx.out, HEx.out, HY.out]
        rintro e w5 ⟨rfl, hb5⟩
        have hB5 : Below w.heap.size w w5 := belowA
        have XB : w5.heap[wr.heap.size]? = some (.cells (blkC x).toArray 91 (0, 0)) := (hb5.block _ (by simp)).trans heap_new
        clear hb5 c1 c2 c3
        go_wp2
        refine wp_region_plan (fun V => True) [0, 0, 0, 0, 1, 0, 0, 0, 0, 0, 1, 0, 0] [0, 1, 2, 3, 4, 5, 6, 7, 8, 9, 10, 11, 12] (by kernel_rfl) (by kernel_rfl) ?_ ?_
        case refine_1 => exact trivial
        (iterate 3 (refine plan_held rfl (by decide) (by rfl) (fun w1 hS => by (try (have hS := hS rfl; obtain hS := hS; repeat (obtain ⟨_, hS⟩ := hS))); go_simp; rfl) ?_; simp only [Act.put, List.setIfInBounds_toArray, List.set_cons_zero, List.set_cons_succ]))
        iterate 9 (refine plan_skip rfl (by decide) (by rfl) ?_; simp only [Act.put, List.setIfInBounds_toArray, List.set_cons_zero, List.set_cons_succ])
        (iterate 1 (refine plan_held rfl (by decide) (by rfl) (fun w1 hS => by (try (have hS := hS rfl; obtain hS := hS; repeat (obtain ⟨_, hS⟩ := hS))); go_simp; rfl) ?_; simp only [Act.put, List.setIfInBounds_toArray, List.set_cons_zero, List.set_cons_succ]))
        refine plan_done ?_
        go_wp2
        go_roundw
        case rel => exact ⟨k + 1, _, by omega, by go_num, rfl, hout2, by rw [List.length_append]; omega, by rw [HPV.out]; exact HK2, belowA⟩
        case measure => simp [intOf]; omega
      · obtain ⟨j, hj⟩ : ∃ j, k = j + 1 := ⟨k - 1, by omega⟩
        have hkp : decide ((0 : Int) < (k : Int)) = true := decide_eq_true (by omega)
        have hkp2 : decide (0 < k) = true := decide_eq_true (by omega)
        obtain ⟨z, hz⟩ : ∃ z, l[j]? = some z := ⟨_, List.getElem?_eq_getElem (by omega)⟩
        obtain ⟨d1, _, _⟩ := (hcell j z hz).keep (fun o => hB.cell (p := ⟨bb, o, none⟩) hbn)
        have hwj : IntKind.i64.wrap ((k : Int) - 1) = (j : Int) := by rw [IntKind.wrap_i64]; omega
        have hj0 : (0 : Int) ≤ (j : Int) := by omega
        have hj1 : (j : Int) < (l.length : Int) := by omega
        have hpk : pv l k = some z.kind := by rw [hj]; simp [pv, hz]
        rw [hpk] at hK
        by_cases hle : x.kind ≤ z.kind
        · have hE9 : E = 9 := by rw [if_pos ⟨_, rfl, hle⟩] at hK; exact hK.symm
          have hR9 : R = [] := by rw [← HR.out]; unfold encAR; rw [if_neg (by rw [HE.out, hE9]; decide)]
          have hle2 : decide (x.kind ≤ z.kind) = true := decide_eq_true hle
          subst hE9 hR9
          clear hcell hx hK hkz hj hz hpk
          go_wp2_with fail
          refine (bencode_any x _ hxd).mono ?_
          rw [HRx.out, HEx.out, HY.out]
          rintro e w5 ⟨rfl, hb5⟩
          have hB5 : Below w.heap.size w w5 := belowA
          have XB : w5.heap[wr.heap.size]? = some (.cells (blkC x).toArray 91 (0, 0)) := (hb5.block _ (by simp)).trans heap_new
          have dj : w5.cell? ⟨bb, o + j * 3, none⟩ = some (.int .i64 z.kind) := (hb5.cell (p := ⟨bb, _, none⟩) (by simp; omega)).trans ((World.cell?_alloc_lt _ _ _ hbr).trans d1)
          have cx : w5.cell? ⟨wr.heap.size, 0, none⟩ = some (.int .i64 x.kind) := cellB XB 0
          clear hb5 c1 c2 c3 d1
          go_wp2
          refine wp_region_plan (fun V => V.cell? ⟨wr.heap.size, 0, none⟩ = some (.int .i64 x.kind) ∧ V.cell? ⟨bb, o + j * 3, none⟩ = some (.int .i64 z.kind)) [0, 0, 0, 0, 1, 0, 0, 0, 0, 0, 1, 0, 0] [0, 1, 2, 3, 4, 5, 6, 7, 8, 9, 10, 11, 12] (by kernel_rfl) (by kernel_rfl) ?_ ?_
          case refine_1 => exact ⟨cx, dj⟩
          (iterate 13 (refine plan_held rfl (by decide) (by rfl) (fun w1 hS => by (try (have hS := hS rfl; obtain hS := hS; repeat (obtain ⟨_, hS⟩ := hS))); go_simp; rfl) ?_; simp only [Act.put, List.setIfInBounds_toArray, List.set_cons_zero, List.set_cons_succ]))
          refine plan_done ?_
          go_wp2
          go_ret2
          exact ⟨rfl, belowA⟩
        · have HK2 : Hid (caE (some x.kind) (l.drop (k + 1)) = E) := Lib.hid (by rw [if_neg (by rintro ⟨q, hq, hq2⟩; injection hq with hq; omega)] at hK; exact hK)
          have hle2 : decide (x.kind ≤ z.kind) = false := decide_eq_false hle
          clear hcell hx hK hkz hj hz hpk
          go_wp2_with fail
          refine (bencode_any x _ hxd).mono ?_
          rw [HRx.out, HEx.out, HY.out]
          rintro e w5 ⟨rfl, hb5⟩
          have hB5 : Below w.heap.size w w5 := belowA
          have XB : w5.heap[wr.heap.size]? = some (.cells (blkC x).toArray 91 (0, 0)) := (hb5.block _ (by simp)).trans heap_new
          have dj : w5.cell? ⟨bb, o + j * 3, none⟩ = some (.int .i64 z.kind) := (hb5.cell (p := ⟨bb, _, none⟩) (by simp; omega)).trans ((World.cell?_alloc_lt _ _ _ hbr).trans d1)
          have cx : w5.cell? ⟨wr.heap.size, 0, none⟩ = some (.int .i64 x.kind) := cellB XB 0
          clear hb5 c1 c2 c3 d1
          go_wp2
          refine wp_region_plan (fun V => V.cell? ⟨wr.heap.size, 0, none⟩ = some (.int .i64 x.kind) ∧ V.cell? ⟨bb, o + j * 3, none⟩ = some (.int .i64 z.kind)) [0, 0, 0, 0, 1, 0, 0, 0, 0, 0, 1, 0, 0] [0, 1, 2, 3, 4, 5, 6, 7, 8, 9, 10, 11, 12] (by kernel_rfl) (by kernel_rfl) ?_ ?_
          case refine_1 => exact ⟨cx, dj⟩
          (iterate 13 (refine plan_held rfl (by decide) (by rfl) (fun w1 hS => by (try (have hS := hS rfl; obtain hS := hS; repeat (obtain ⟨_, hS⟩ := hS))); go_simp; rfl) ?_; simp only [Act.put, List.setIfInBounds_toArray, List.set_cons_zero, List.set_cons_succ]))
          refine plan_done ?_
          go_wp2
          go_roundw
          case rel => exact ⟨k + 1, _, by omega, by go_num, rfl, hout2, by rw [List.length_append]; omega, by rw [HPV.out]; exact HK2, belowA⟩
          case measure => simp [intOf]; omega
    · obtain rfl : k = l.length := by omega
      have hE0 : E = 0 := by have := HK.out; rw [List.drop_length, caE] at this; exact this.symm
      have hRR : R = out := by rw [← HR.out, HO.out]; unfold encAR encA; rw [if_pos (by rw [HE.out, hE0]), List.take_length]
      subst hE0 hRR
      go_wp2
      go_ret2
      exact ⟨rfl, hB⟩
end Go.Proofs.YtmknchdciblfjaaGreat

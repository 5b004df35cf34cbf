/- Joined by port.py: XBu XBv XBr -/
import Derived.Test.YtmknchdciblfjaaGreatJb
import Derived.Test.YtmknchdciblfjaaGreatProg
import Derived.Test.YtmknchdciblfjaaGreatJa
set_option linter.unusedVariables false
set_option linter.unusedSimpArgs false
/-! XBu -/
namespace Go.Proofs.YtmknchdciblfjaaGreat
open Go Go.RowKit
attribute [local go_sem] B_getElem B_size B_app B_extract B_get B_toList
theorem within_t (n lo hi : Int) (w : World) (h1 : lo ≤ n) (h2 : n ≤ hi) :
    Calls Tryz.prog 72 #[.int .i64 n, .int .i64 lo, .int .i64 hi] w fun e w' => e = .returned (.bool true) ∧ w' = w := by
  go_enter Tryz.func72, Tryz.ntmps72
  go_wp2
  go_ret
  exact ⟨rfl, rfl⟩
theorem within_f (n lo hi : Int) (w : World) (h : n < lo ∨ hi < n) :
    Calls Tryz.prog 72 #[.int .i64 n, .int .i64 lo, .int .i64 hi] w fun e w' => e = .returned (.bool false) ∧ w' = w := by
  by_cases h1 : n < lo
  · clear h
    go_enter Tryz.func72, Tryz.ntmps72
    go_wp2
    go_ret
    first | exact ⟨rfl, rfl⟩ | (refine ⟨?_, rfl⟩; simp; done) | (refine ⟨?_, rfl⟩; simp; omega)
  · have h2 : hi < n := by omega
    clear h
    go_enter Tryz.func72, Tryz.ntmps72
    go_wp2
    go_ret
    first | exact ⟨rfl, rfl⟩ | (refine ⟨?_, rfl⟩; simp; done) | (refine ⟨?_, rfl⟩; simp; omega)
theorem idE_of {b : Bun} {n : Int} (h : (idB b = true ∧ n = 0) ∨ (idB b = false ∧ n = 2)) : Ending.returned (.int .i64 n) = Ending.returned (.int .i64 (idE b)) := by
  rcases h with ⟨h, rfl⟩ | ⟨h, rfl⟩ <;> simp [idE, h]
set_option maxHeartbeats 1000000 in
theorem checkId_any (b : Bun) (w : World) :
    Calls Tryz.prog 70 #[.agg #[.int .i64 b.src, .int .i64 b.crt, .int .i64 b.seq, .int .i64 b.off, .int .i64 b.tot]] w fun r w' => r = .returned (.int .i64 (idE b)) ∧ Below w.heap.size w w' := by
  obtain ⟨E, hE⟩ : ∃ E, idE b = E := ⟨_, rfl⟩
  have HE : Hid (∀ n : Int, ((idB b = true ∧ n = 0) ∨ (idB b = false ∧ n = 2)) → Ending.returned (.int .i64 n) = Ending.returned (.int .i64 E)) := by
    subst hE; exact fun n h => idE_of h
  rw [hE]
  clear hE
  go_enter Tryz.func70, Tryz.ntmps70
  go_wp2
  all_goals
    go_ret
    (try simp only [Bool.not_eq_true', Bool.not_eq_false', decide_eq_true_eq, decide_eq_false_iff_not, beq_iff_eq, beq_eq_false_iff_ne, bne_iff_ne, bne_eq_false_iff_eq, ne_eq, Bool.and_eq_true, Bool.or_eq_true, Bool.and_eq_false_imp, Bool.or_eq_false_iff] at *)
    refine ⟨HE.out _ ?_, belowA⟩
    first | exact .inl ⟨decide_eq_true (by omega), rfl⟩ | exact .inr ⟨decide_eq_false (by omega), rfl⟩
set_option maxHeartbeats 1000000 in
theorem endpointCheck_any (k n : Int) (w : World) :
    Calls Tryz.prog 71 #[.agg #[.int .i64 k, .int .i64 n]] w fun r w' => r = .returned (.int .i64 (endE k n)) ∧ Below w.heap.size w w' := by
  obtain ⟨E, hE⟩ : ∃ E, endE k n = E := ⟨_, rfl⟩
  have HE := Lib.hid hE
  rw [hE]
  clear hE
  go_enter Tryz.func71, Tryz.ntmps71
  go_wp2
  all_goals
    go_ret
    refine ⟨ret_int ?_, belowA⟩
    rw [← HE.out]
    unfold endE
    (try simp only [Bool.not_eq_true', Bool.not_eq_false', decide_eq_true_eq, decide_eq_false_iff_not, beq_iff_eq, beq_eq_false_iff_ne, bne_iff_ne, bne_eq_false_iff_eq, ne_eq, Bool.and_eq_true, Bool.or_eq_true, Bool.and_eq_false_imp, Bool.or_eq_false_iff] at *)
    repeat' (first | omega | split)
set_option maxHeartbeats 1000000 in
theorem blockCheck_any (x : Blk) (w : World) (hl : x.data.length ≤ maxLen) :
    Calls Tryz.prog 135 #[.agg #[.int .i64 x.kind, .int .i64 x.flags, .string (B x.data)]] w fun r w' => r = .returned (.int .i64 (blkE x)) ∧ Below w.heap.size w w' := by
  obtain ⟨E, hE⟩ : ∃ E, blkE x = E := ⟨_, rfl⟩
  have HE := Lib.hid hE
  rw [hE]
  clear hE
  unfold maxLen at hl
  go_enter Tryz.func135, Tryz.ntmps135
  go_wp2
  all_goals
    go_ret
    refine ⟨ret_int ?_, belowA⟩
    rw [← HE.out]
    unfold blkE
    (try simp only [Bool.not_eq_true', Bool.not_eq_false', decide_eq_true_eq, decide_eq_false_iff_not, beq_iff_eq, beq_eq_false_iff_ne, bne_iff_ne, bne_eq_false_iff_eq, ne_eq, Bool.and_eq_true, Bool.or_eq_true, Bool.and_eq_false_imp, Bool.or_eq_false_iff] at *)
    repeat' (first | omega | split)
theorem and_flag (f : Int) (h1 : 0 ≤ f) (h2 : f ≤ 127) : (bits .and .i64 f 4 != 0) = hasF f 4 ∧ (bits .and .i64 f 64 != 0) = hasF f 64 ∧ (bits .and .i64 f 2 != 0) = hasF f 2 := by
  obtain ⟨n, rfl⟩ := Int.eq_ofNat_of_zero_le h1
  have h : ∀ n : Fin 128, (bits .and .i64 (n.val : Int) 4 != 0) = hasF (n.val : Int) 4 ∧ (bits .and .i64 (n.val : Int) 64 != 0) = hasF (n.val : Int) 64 ∧ (bits .and .i64 (n.val : Int) 2 != 0) = hasF (n.val : Int) 2 := by decide +kernel
  exact h ⟨n, by omega⟩
set_option maxHeartbeats 1000000 in
theorem checkFlags_any (b : Bun) (u : Value) (w : World) :
    Calls Tryz.prog 73 #[.agg (bunC b u).toArray] w fun r w' => r = .returned (.int .i64 (flE b)) ∧ Below w.heap.size w w' := by
  obtain ⟨E, hE⟩ : ∃ E, flE b = E := ⟨_, rfl⟩
  have HE := Lib.hid hE
  rw [hE]
  clear hE
  unfold bunC
  by_cases hf : 0 ≤ b.flags ∧ b.flags ≤ 127
  · obtain ⟨h1, h2⟩ := hf
    obtain ⟨a1, a2, a3⟩ := and_flag b.flags h1 h2
    obtain ⟨p, hp⟩ : ∃ p, hasF b.flags 4 = p := ⟨_, rfl⟩
    obtain ⟨q, hq⟩ : ∃ p, hasF b.flags 64 = p := ⟨_, rfl⟩
    obtain ⟨r, hr⟩ : ∃ p, hasF b.flags 2 = p := ⟨_, rfl⟩
    rw [hp] at a1
    rw [hq] at a2
    rw [hr] at a3
    have HP := Lib.hid hp
    have HQ := Lib.hid hq
    have HR := Lib.hid hr
    clear hp hq hr
    go_enter Tryz.func73, Tryz.ntmps73
    go_wp2
    all_goals
      go_ret
      refine ⟨ret_int ?_, belowA⟩
      rw [← HE.out]
      unfold flE flB
      rw [HP.out, HQ.out, HR.out]
      (try simp only [Bool.not_eq_true', Bool.not_eq_false', decide_eq_true_eq, decide_eq_false_iff_not, beq_iff_eq, beq_eq_false_iff_ne, bne_iff_ne, bne_eq_false_iff_eq, ne_eq, Bool.and_eq_true, Bool.or_eq_true, Bool.and_eq_false_imp, Bool.or_eq_false_iff] at *)
      simp [*]
      try omega
  · have h : E = 1 := by
      rw [← HE.out]; unfold flE flB
      rw [if_neg (by simp; intro h; omega)]
    subst h
    clear HE
    by_cases hf1 : 0 ≤ b.flags
    · have hf2 : 127 < b.flags := by omega
      clear hf
      go_enter Tryz.func73, Tryz.ntmps73
      go_wp2
      all_goals
        go_ret
        exact ⟨rfl, belowA⟩
    · have hf2 : b.flags < 0 := by omega
      clear hf hf1
      go_enter Tryz.func73, Tryz.ntmps73
      go_wp2
      all_goals
        go_ret
        exact ⟨rfl, belowA⟩
set_option maxHeartbeats 1000000 in
theorem checkPayload_any (b : Bun) (u : Value) (w : World) (hl : b.payload.length ≤ maxLen) (h : idB b = true) :
    Calls Tryz.prog 75 #[.agg (bunC b u).toArray] w fun r w' => r = .returned (.int .i64 (payE b)) ∧ Below w.heap.size w w' := by
  have hi : b.tot ≤ 4096 ∧ 0 ≤ b.tot ∧ 0 ≤ b.off ∧ b.off ≤ b.tot := by have := of_decide_eq_true h; omega
  obtain ⟨i1, i2, i3, i4⟩ := hi
  obtain ⟨E, hE⟩ : ∃ E, payE b = E := ⟨_, rfl⟩
  have HE := Lib.hid hE
  rw [hE]
  clear hE h
  unfold bunC
  unfold maxLen at hl
  go_enter Tryz.func75, Tryz.ntmps75
  go_wp2
  all_goals
    go_ret
    refine ⟨ret_int ?_, belowA⟩
    rw [← HE.out]
    unfold payE
    (try simp only [Bool.not_eq_true', Bool.not_eq_false', decide_eq_true_eq, decide_eq_false_iff_not, beq_iff_eq, beq_eq_false_iff_ne, bne_iff_ne, bne_eq_false_iff_eq, ne_eq, Bool.and_eq_true, Bool.or_eq_true, Bool.and_eq_false_imp, Bool.or_eq_false_iff] at *)
    repeat' (first | omega | split)
end Go.Proofs.YtmknchdciblfjaaGreat
/-! XBv -/
namespace Go.Proofs.YtmknchdciblfjaaGreat
open Go Go.RowKit
attribute [local go_sem] B_getElem B_size B_app B_extract B_get B_toList
theorem ordB_step (x y : Blk) (r : List Blk) : ordB (x :: y :: r) = (decide (x.kind < y.kind) && ordB (y :: r)) := rfl
set_option maxRecDepth 100000 in
set_option maxHeartbeats 1000000 in
theorem checkBlocks_any (l : List Blk) (v : Value) (w : World) (h : RBlks w w.heap.size v l) (hd : ∀ x ∈ l, x.data.length ≤ maxLen) :
    Calls Tryz.prog 74 #[v] w fun r w' => r = .returned (.int .i64 (blksE l)) ∧ Below w.heap.size w w' := by
  obtain ⟨a, c, rfl, h1, h2, h3, h4⟩ := h
  unfold maxLen at h2
  obtain ⟨E, hE⟩ : ∃ E, blksE l = E := ⟨_, rfl⟩
  rw [hE]
  have HE := Lib.hid hE
  have hlen : l.length ≤ 9223372036854775807 := by omega
  clear hE h3
  by_cases hb : 8 < l.length
  · have h : E = 4 := by rw [← HE.out]; unfold blksE; rw [if_pos hb]
    subst h
    clear h4 HE
    go_enter Tryz.func74, Tryz.ntmps74
    go_wp2
    go_ret
    exact ⟨rfl, belowA⟩
  have hb' : l.length ≤ 8 := by omega
  have HE2 : Hid (E = if firstE l ≠ 0 then firstE l else if ordB l = true then 0 else 9) := by
    have := HE.out; unfold blksE at this; rw [if_neg hb] at this; exact this.symm
  clear HE hb
  have H4 := Lib.hid h4
  clear h4
  go_enter Tryz.func74, Tryz.ntmps74
  go_wp2
  go_loopw [12] (fun i wr => ∃ k : Nat, k ≤ l.length ∧ i = .int .i64 k ∧ Hid (firstE (l.drop k) = firstE l) ∧ Below w.heap.size w wr) (fun i _ => l.length - (intOf i).toNat)
  case atStart => exact ⟨0, Nat.zero_le _, rfl, Lib.hid rfl, Below.refl _ _⟩
  case round =>
    obtain ⟨k, hk, rfl, HF, hB⟩ := hrel
    by_cases hlt : k < l.length
    · obtain ⟨b, o, rfl, hbn, hcell⟩ := H4.out (by omega)
      obtain ⟨x, hx⟩ : ∃ x, l[k]? = some x := ⟨_, List.getElem?_eq_getElem hlt⟩
      obtain ⟨c1, c2, c3⟩ := (hcell k x hx).keep (fun o => hB.cell (p := ⟨b, o, none⟩) hbn)
      have hxm : x ∈ l := List.mem_of_getElem? hx
      have hxd := hd x hxm
      have hdr : l.drop k = x :: l.drop (k + 1) := by
        rw [List.drop_eq_getElem_cons hlt]; congr 1; rw [List.getElem?_eq_getElem hlt] at hx; exact Option.some.inj hx
      have HD := Lib.hid hdr
      obtain ⟨F, hF⟩ : ∃ F, blkE x = F := ⟨_, rfl⟩
      have HFx := Lib.hid hF
      have hsz := hB.size
      clear hcell hx hdr hF
      go_wp2_with fail
      refine (blockCheck_any x _ hxd).mono ?_
      rintro e w1 ⟨rfl, hb1⟩
      rw [HFx.out]
      have hb2 : Below w.heap.size w w1 := belowA
      by_cases hz : F = 0
      · subst hz
        go_wp2
        go_roundw
        case rel => exact ⟨k + 1, by omega, by go_num, Lib.hid (by rw [← HF.out, HD.out, firstE, HFx.out]; simp), hb2⟩
        case measure => simp [intOf]; omega
      · have hz' : (F != 0) = true := by simpa using hz
        go_wp2
        go_ret
        refine ⟨ret_int ?_, hb2⟩
        have : firstE l = F := by rw [← HF.out, HD.out, firstE, HFx.out, if_pos hz]
        rw [HE2.out, this, if_pos hz]
    · obtain rfl : k = l.length := by omega
      have hf0 : firstE l = 0 := by rw [← HF.out, List.drop_length]; rfl
      have HE3 : Hid (E = if ordB l = true then 0 else 9) := by
        have h := HE2.out
        rw [hf0, if_neg (by simp)] at h
        exact h
      clear HE2 hf0 HF
      go_wp2
      go_loopw [6] (fun i w2 => ∃ k : Nat, (k = 0 ∨ k + 1 ≤ l.length) ∧ i = .int .i64 ((k : Int) + 1) ∧ Hid (ordB (l.drop k) = ordB l) ∧ Below w.heap.size w w2) (fun i _ => l.length + 1 - (intOf i).toNat)
      case atStart => exact ⟨0, .inl rfl, by go_num, Lib.hid rfl, hB⟩
      case round =>
        obtain ⟨k, hk, rfl, HO, hB2⟩ := hrel
        by_cases hlt : k + 1 < l.length
        · obtain ⟨b, o, rfl, hbn, hcell⟩ := H4.out (by omega)
          obtain ⟨x, hx⟩ : ∃ x, l[k]? = some x := ⟨_, List.getElem?_eq_getElem (by omega)⟩
          obtain ⟨y, hy⟩ : ∃ y, l[k + 1]? = some y := ⟨_, List.getElem?_eq_getElem hlt⟩
          obtain ⟨c1, _, _⟩ := (hcell k x hx).keep (fun o => hB2.cell (p := ⟨b, o, none⟩) hbn)
          obtain ⟨d1, _, _⟩ := (hcell (k + 1) y hy).keep (fun o => hB2.cell (p := ⟨b, o, none⟩) hbn)
          have hdr : ordB (l.drop k) = (decide (x.kind < y.kind) && ordB (l.drop (k + 1))) := by
            rw [List.drop_eq_getElem_cons (show k < l.length by omega), List.drop_eq_getElem_cons (show k + 1 < l.length by omega), ordB_step]
            rw [List.getElem?_eq_getElem (by omega)] at hx hy
            rw [Option.some.inj hx, Option.some.inj hy]
          have HD := Lib.hid hdr
          have e0 : ((k : Int) + 1).toNat = k + 1 := by omega
          have e1 : (0 : Int) ≤ (k : Int) + 1 := by omega
          have e2 : (k : Int) + 1 < (l.length : Int) := by omega
          have e3 : (k : Int) < (l.length : Int) := by omega
          have e4 : IntKind.i64.wrap ((k : Int) + 1 - 1) = (k : Int) := by rw [IntKind.wrap_i64]; omega
          clear hcell hx hy hdr
          by_cases ho : x.kind < y.kind
          · go_wp2
            go_quiet (fail)
            go_wp2
            go_roundw
            case rel => exact ⟨k + 1, by omega, by go_num, Lib.hid (by rw [← HO.out, HD.out, decide_eq_true ho]; simp), belowA⟩
            case measure => simp [intOf]; omega
          · have ho' : y.kind ≤ x.kind := by omega
            go_wp2
            go_quiet (fail)
            go_wp2
            go_ret
            refine ⟨ret_int ?_, belowA⟩
            rw [HE3.out, ← HO.out, HD.out, decide_eq_false (by omega)]
            simp
        · have ho : ordB l = true := by
            rw [← HO.out]
            rcases Nat.lt_or_ge k l.length with hk2 | hk2
            · rw [List.drop_eq_getElem_cons hk2, List.drop_eq_nil_of_le (by omega)]; rfl
            · rw [List.drop_eq_nil_of_le hk2]; rfl
          go_wp2
          go_ret
          refine ⟨ret_int ?_, belowA⟩
          rw [HE3.out, if_pos ho]
/-- the strings' lengths are of Go's -/
def Fits (b : Bun) : Prop := b.payload.length ≤ maxLen ∧ ∀ x ∈ b.blocks, x.data.length ≤ maxLen
theorem idE_zero {b : Bun} (h : idE b = 0) : idB b = true := by
  unfold idE at h
  cases hb : idB b with
  | true => rfl
  | false => rw [hb] at h; simp at h
theorem idB_crt {b : Bun} (h : idB b = true) : 0 ≤ b.crt ∧ b.crt ≤ 1099511627776 := by have := of_decide_eq_true h; omega
set_option maxRecDepth 100000 in
set_option maxHeartbeats 1000000 in
theorem check_any (b : Bun) (u : Value) (w : World) (h : RBlks w w.heap.size u b.blocks) (hf : Fits b) :
    Calls Tryz.prog 25 #[.agg (bunC b u).toArray] w fun r w' => r = .returned (.int .i64 (chkE b)) ∧ Below w.heap.size w w' := by
  obtain ⟨E, hE⟩ : ∃ E, chkE b = E := ⟨_, rfl⟩
  rw [hE]
  obtain ⟨e1, h1⟩ : ∃ E, idE b = E := ⟨_, rfl⟩
  obtain ⟨e2, h2⟩ : ∃ E, endE b.dk b.dn = E := ⟨_, rfl⟩
  obtain ⟨e3, h3⟩ : ∃ E, flE b = E := ⟨_, rfl⟩
  obtain ⟨e4, h4⟩ : ∃ E, blksE b.blocks = E := ⟨_, rfl⟩
  obtain ⟨e5, h5⟩ : ∃ E, payE b = E := ⟨_, rfl⟩
  have H1 := Lib.hid h1
  have H2 := Lib.hid h2
  have H3 := Lib.hid h3
  have H4 := Lib.hid h4
  have H5 := Lib.hid h5
  have HE : Hid (E = if e1 ≠ 0 then e1 else if e2 ≠ 0 then e2 else if b.life < 1 ∨ 1099511627776 - b.crt < b.life then 2 else if b.prio < 0 ∨ 2 < b.prio then 8
      else if e3 ≠ 0 then e3 else if e4 ≠ 0 then e4 else e5) := by
    rw [← h1, ← h2, ← h3, ← h4, ← h5, ← hE]; exact Lib.hid rfl
  have HR := Lib.hid h
  have HF := Lib.hid hf
  have hc : e1 = 0 → 0 ≤ b.crt ∧ b.crt ≤ 1099511627776 := fun z => idB_crt (idE_zero (h1.trans z))
  clear h h1 h2 h3 h4 h5 hE hf
  by_cases z1 : e1 = 0
  case neg =>
    have z1' : (e1 != 0) = true := by simpa using z1
    have : E = e1 := by rw [HE.out, if_pos z1]
    subst this
    clear HE hc z1
    go_enter Tryz.func25, Tryz.ntmps25
    simp only [bunC]
    go_wp2_with fail
    refine (checkId_any b _).mono ?_
    rintro e w1 ⟨rfl, hb1⟩
    rw [H1.out]
    go_wp2
    go_ret
    exact ⟨rfl, belowA⟩
  obtain ⟨hc1, hc2⟩ := hc z1
  clear hc
  subst z1
  by_cases z2 : e2 = 0
  case neg =>
    have z2' : (e2 != 0) = true := by simpa using z2
    have : E = e2 := by rw [HE.out, if_neg (by simp), if_pos z2]
    subst this
    clear HE z2
    go_enter Tryz.func25, Tryz.ntmps25
    simp only [bunC]
    go_wp2_with fail
    refine (checkId_any b _).mono ?_
    rintro e w1 ⟨rfl, hb1⟩
    rw [H1.out]
    obtain ⟨k1, f1⟩ := bcell hb1
    go_wp2_with fail
    refine (endpointCheck_any b.dk b.dn _).mono ?_
    rintro e w2 ⟨rfl, hb2⟩
    rw [H2.out]
    go_wp2
    go_ret
    exact ⟨rfl, belowA⟩
  subst z2
  by_cases z3 : b.life < 1
  case pos =>
    have : E = 2 := by rw [HE.out, if_neg (by simp), if_neg (by simp), if_pos (.inl z3)]
    subst this
    clear HE
    go_enter Tryz.func25, Tryz.ntmps25
    simp only [bunC]
    go_wp2_with fail
    refine (checkId_any b _).mono ?_; rintro e w1 ⟨rfl, hb1⟩; obtain ⟨k1, f1⟩ := bcell hb1; have z1 : w.heap.size < w1.heap.size := (by have := hb1.size; (try simp at this); omega)
    rw [H1.out]
    go_wp2_with fail
    refine (endpointCheck_any b.dk b.dn _).mono ?_; rintro e w2 ⟨rfl, hb2⟩; obtain ⟨k2, f2⟩ := bcell hb2; have z2 : w.heap.size < w2.heap.size := (by have := hb2.size; (try simp at this); omega)
    rw [H2.out]
    go_wp2
    go_ret
    exact ⟨rfl, belowA⟩
  have z3' : 1 ≤ b.life := by omega
  by_cases z4 : 1099511627776 - b.crt < b.life
  case pos =>
    have : E = 2 := by rw [HE.out, if_neg (by simp), if_neg (by simp), if_pos (.inr z4)]
    subst this
    clear HE
    go_enter Tryz.func25, Tryz.ntmps25
    simp only [bunC]
    go_wp2_with fail
    refine (checkId_any b _).mono ?_; rintro e w1 ⟨rfl, hb1⟩; obtain ⟨k1, f1⟩ := bcell hb1; have z1 : w.heap.size < w1.heap.size := (by have := hb1.size; (try simp at this); omega)
    rw [H1.out]
    go_wp2_with fail
    refine (endpointCheck_any b.dk b.dn _).mono ?_; rintro e w2 ⟨rfl, hb2⟩; obtain ⟨k2, f2⟩ := bcell hb2; have z2 : w.heap.size < w2.heap.size := (by have := hb2.size; (try simp at this); omega)
    rw [H2.out]
    go_wp2
    go_ret
    exact ⟨rfl, belowA⟩
  have z4' : b.life ≤ 1099511627776 - b.crt := by omega
  have HE1 : Hid (E = if b.prio < 0 ∨ 2 < b.prio then 8 else if e3 ≠ 0 then e3 else if e4 ≠ 0 then e4 else e5) := by
    have := HE.out; rw [if_neg (by simp), if_neg (by simp), if_neg (by omega)] at this; exact this
  clear HE z3 z4
  by_cases z5 : b.prio < 0 ∨ 2 < b.prio
  case pos =>
    have : E = 8 := by rw [HE1.out, if_pos z5]
    subst this
    clear HE1
    have Z5 := Lib.hid z5
    clear z5
    go_enter Tryz.func25, Tryz.ntmps25
    simp only [bunC]
    go_wp2_with fail
    refine (checkId_any b _).mono ?_; rintro e w1 ⟨rfl, hb1⟩; obtain ⟨k1, f1⟩ := bcell hb1; have z1 : w.heap.size < w1.heap.size := (by have := hb1.size; (try simp at this); omega)
    rw [H1.out]
    go_wp2_with fail
    refine (endpointCheck_any b.dk b.dn _).mono ?_; rintro e w2 ⟨rfl, hb2⟩; obtain ⟨k2, f2⟩ := bcell hb2; have z2 : w.heap.size < w2.heap.size := (by have := hb2.size; (try simp at this); omega)
    rw [H2.out]
    go_wp2_with fail
    refine (within_f _ _ _ _ Z5.out).mono ?_
    rintro e w' ⟨rfl, rfl⟩
    go_wp2
    go_ret
    exact ⟨rfl, belowA⟩
  have z5' : 0 ≤ b.prio ∧ b.prio ≤ 2 := by omega
  obtain ⟨y1, y2⟩ := z5'
  have HE2 : Hid (E = if e3 ≠ 0 then e3 else if e4 ≠ 0 then e4 else e5) := by
    have := HE1.out; rw [if_neg z5] at this; exact this
  clear HE1 z5
  by_cases z6 : e3 = 0
  case neg =>
    have z6' : (e3 != 0) = true := by simpa using z6
    have : E = e3 := by rw [HE2.out, if_pos z6]
    subst this
    clear HE2 z6
    go_enter Tryz.func25, Tryz.ntmps25
    simp only [bunC]
    go_wp2_with fail
    refine (checkId_any b _).mono ?_; rintro e w1 ⟨rfl, hb1⟩; obtain ⟨k1, f1⟩ := bcell hb1; have z1 : w.heap.size < w1.heap.size := (by have := hb1.size; (try simp at this); omega)
    rw [H1.out]
    go_wp2_with fail
    refine (endpointCheck_any b.dk b.dn _).mono ?_; rintro e w2 ⟨rfl, hb2⟩; obtain ⟨k2, f2⟩ := bcell hb2; have z2 : w.heap.size < w2.heap.size := (by have := hb2.size; (try simp at this); omega)
    rw [H2.out]
    go_wp2_with fail
    refine (within_t _ _ _ _ (by omega) (by omega)).mono ?_
    rintro e w' ⟨rfl, rfl⟩
    go_wp2_with fail
    refine (checkFlags_any b u _).mono ?_; rintro e w3 ⟨rfl, hb3⟩; obtain ⟨k3, f3⟩ := bcell hb3; have z3 : w.heap.size < w3.heap.size := (by have := hb3.size; (try simp at this); omega)
    rw [H3.out]
    go_wp2
    go_ret
    exact ⟨rfl, belowA⟩
  subst z6
  by_cases z7 : e4 = 0
  case neg =>
    have z7' : (e4 != 0) = true := by simpa using z7
    have : E = e4 := by rw [HE2.out, if_neg (by simp), if_pos z7]
    subst this
    clear HE2 z7
    go_enter Tryz.func25, Tryz.ntmps25
    simp only [bunC]
    go_wp2_with fail
    refine (checkId_any b _).mono ?_; rintro e w1 ⟨rfl, hb1⟩; obtain ⟨k1, f1⟩ := bcell hb1; have z1 : w.heap.size < w1.heap.size := (by have := hb1.size; (try simp at this); omega)
    rw [H1.out]
    go_wp2_with fail
    refine (endpointCheck_any b.dk b.dn _).mono ?_; rintro e w2 ⟨rfl, hb2⟩; obtain ⟨k2, f2⟩ := bcell hb2; have z2 : w.heap.size < w2.heap.size := (by have := hb2.size; (try simp at this); omega)
    rw [H2.out]
    go_wp2_with fail
    refine (within_t _ _ _ _ (by omega) (by omega)).mono ?_
    rintro e w' ⟨rfl, rfl⟩
    go_wp2_with fail
    refine (checkFlags_any b u _).mono ?_; rintro e w3 ⟨rfl, hb3⟩; obtain ⟨k3, f3⟩ := bcell hb3; have z3 : w.heap.size < w3.heap.size := (by have := hb3.size; (try simp at this); omega)
    rw [H3.out]
    go_wp2_with fail
    have hB3 : Below w.heap.size w w3 := belowA
    refine (checkBlocks_any b.blocks u _ (HR.out.below hB3 (Nat.le_refl _) hB3.size) HF.out.2).mono ?_; rintro e w4 ⟨rfl, hb4⟩; obtain ⟨k4, f4⟩ := bcell hb4; have z4 : w.heap.size < w4.heap.size := (by have := hb4.size; (try simp at this); omega)
    rw [H4.out]
    go_wp2
    go_ret
    exact ⟨rfl, belowA⟩
  subst z7
  have : E = e5 := by rw [HE2.out, if_neg (by simp), if_neg (by simp)]
  subst this
  clear HE2
  go_enter Tryz.func25, Tryz.ntmps25
  simp only [bunC]
  go_wp2_with fail
  refine (checkId_any b _).mono ?_; rintro e w1 ⟨rfl, hb1⟩; obtain ⟨k1, f1⟩ := bcell hb1; have z1 : w.heap.size < w1.heap.size := (by have := hb1.size; (try simp at this); omega)
  rw [H1.out]
  go_wp2_with fail
  refine (endpointCheck_any b.dk b.dn _).mono ?_; rintro e w2 ⟨rfl, hb2⟩; obtain ⟨k2, f2⟩ := bcell hb2; have z2 : w.heap.size < w2.heap.size := (by have := hb2.size; (try simp at this); omega)
  rw [H2.out]
  go_wp2_with fail
  refine (within_t _ _ _ _ (by omega) (by omega)).mono ?_
  rintro e w' ⟨rfl, rfl⟩
  go_wp2_with fail
  refine (checkFlags_any b u _).mono ?_; rintro e w3 ⟨rfl, hb3⟩; obtain ⟨k3, f3⟩ := bcell hb3; have z3 : w.heap.size < w3.heap.size := (by have := hb3.size; (try simp at this); omega)
  rw [H3.out]
  go_wp2_with fail
  have hB3 : Below w.heap.size w w3 := belowA
  refine (checkBlocks_any b.blocks u _ (HR.out.below hB3 (Nat.le_refl _) hB3.size) HF.out.2).mono ?_; rintro e w4 ⟨rfl, hb4⟩; obtain ⟨k4, f4⟩ := bcell hb4; have z4 : w.heap.size < w4.heap.size := (by have := hb4.size; (try simp at this); omega)
  rw [H4.out]
  go_wp2_with fail
  refine (checkPayload_any b u _ HF.out.1 (idE_zero H1.out)).mono ?_; rintro e w5 ⟨rfl, hb5⟩; obtain ⟨k5, f5⟩ := bcell hb5; have z5 : w.heap.size < w5.heap.size := (by have := hb5.size; (try simp at this); omega)
  rw [H5.out]
  go_wp2
  go_ret
  exact ⟨rfl, belowA⟩
end Go.Proofs.YtmknchdciblfjaaGreat

/- Joined by port.py: XSk -/
import Derived.BigQuiet
import Derived.BigRegion
import Derived.Deep.DeepCutAuto
import Derived.Deep.CutBlock
import Derived.Lib.LazyBuf
import Derived.Laws.IdiomCopy
import Derived.Test.YtmknchdciblfjaaGreatSj
import Derived.Test.YtmknchdciblfjaaGreatJa
import Derived.Test.YtmknchdciblfjaaGreatJb
import Derived.Test.YtmknchdciblfjaaGreatJd
import Derived.Test.YtmknchdciblfjaaGreatJe
import Derived.Test.YtmknchdciblfjaaGreatJh
import Derived.Test.YtmknchdciblfjaaGreatJo
import Derived.Test.YtmknchdciblfjaaGreatJp
import Derived.Test.YtmknchdciblfjaaGreatKaz
import Derived.Test.YtmknchdciblfjaaGreatSb
import Derived.Test.YtmknchdciblfjaaGreatSz
import Derived.Test.YtmknchdciblfjaaGreatSi
import Derived.Laws.AppendOwn
set_option linter.unusedVariables false
set_option linter.unusedSimpArgs false
/-! XSk -/
namespace Go.Proofs.YtmknchdciblfjaaGreat
open Go Go.RowKit Iv
attribute [local go_sem] Oper.semAt_some
attribute [local go_sem] B_getElem B_size B_app B_extract B_get B_toList
attribute [local go_sem] bunC
def spanB (b : Bun) : Sp := (b.off, b.off + b.payload.length)
set_option maxRecDepth 100000 in
set_option maxHeartbeats 4000000 in
theorem isfrag_any (b : Bun) (u : Value) (w : World) (h : RBlks w w.heap.size u b.blocks) :
    Calls Tryz.prog 79 #[.agg (bunC b u).toArray] w fun e w' => e = .returned (.bool (decide (b.tot > 0))) ∧ Below w.heap.size w w' := by
  obtain ⟨a, c, rfl, _⟩ := h
  go_enter Tryz.func79, Tryz.ntmps79
  go_wp2
  go_ret
  exact ⟨rfl, belowA⟩
set_option maxRecDepth 100000 in
set_option maxHeartbeats 4000000 in
theorem pspan_any (b : Bun) (u : Value) (w : World) (h : RBlks w w.heap.size u b.blocks) (h1 : 0 ≤ b.off) (h2 : b.off ≤ 100000) (h3 : b.payload.length ≤ 100000) :
    Calls Tryz.prog 80 #[.agg (bunC b u).toArray] w fun e w' => e = .returned (.agg #[.int .i64 (spanB b).1, .int .i64 (spanB b).2]) ∧ Below w.heap.size w w' := by
  obtain ⟨a, c, rfl, _⟩ := h
  go_enter Tryz.func80, Tryz.ntmps80
  go_wp2
  refine bodyPost_ret (v := .agg #[.int .i64 b.off, .int .i64 (b.off + b.payload.length)]) (by simp [results, Tryz.results80, go_sem]) rfl ?_
  exact ⟨rfl, belowA⟩
def writeS (d : List UInt8) (b : Bun) : List UInt8 := d.take b.off.toNat ++ b.payload ++ d.drop (b.off.toNat + b.payload.length)
theorem writeS_len {d : List UInt8} {b : Bun} (h0 : 0 ≤ b.off) (h1 : b.off + b.payload.length ≤ d.length) : (writeS d b).length = d.length := by
  unfold writeS
  simp
  omega
theorem writeS_at {d : List UInt8} {b : Bun} {k j : Nat} (hk : b.off = k) (h1 : k + b.payload.length ≤ d.length) : (writeS d b)[j]? = if k ≤ j ∧ j < k + b.payload.length then b.payload[j - k]? else d[j]? := by
  unfold writeS
  rw [hk, Int.toNat_natCast]
  by_cases c1 : j < k
  · rw [List.append_assoc, List.getElem?_append_left (by simp; omega), if_neg (by omega), List.getElem?_take, if_pos c1]
  · rw [List.append_assoc, List.getElem?_append_right (by simp; omega)]
    rw [List.length_take, Nat.min_eq_left (by omega)]
    by_cases c2 : j < k + b.payload.length
    · rw [if_pos ⟨by omega, c2⟩, List.getElem?_append_left (by omega)]
    · rw [if_neg (by omega), List.getElem?_append_right (by omega), List.getElem?_drop]
      congr 1
      omega
abbrev bytesV (l : List UInt8) : List Value := l.map fun x => Value.int .u8 (x.toNat : Int)
theorem wp_copy_runK {P : Program} (w : World) {o : Oper} {a : Act} {K : Act → World → Prop} {Q : Exit → Act → World → Prop} (d s : Operand) (t t' : TypeId)
    (ho : o.op = .call { callee := .builtin .copy, args := #[d, s], argTypes := #[t, t'] }) (v u : Value) (hd : a.eval d = v) (hs : a.eval s = u) {v' : Value} {w' : World}
    (hr : (Builtin.copy_ #[t, t'] o.type #[v, u]).run P w = .ok v' w') (h : K (a.put o.dst v') w') : o.wp P a w K Q := by
  unfold Oper.wp execOp
  simp only [ho, resolve, invoke, builtin, Sem.run_bind, Sem.run_pure, Result.andThen_ok, List.map_toArray, List.map_cons, List.map_nil, hd, hs, hr]
  exact h
theorem brow_at {d : List UInt8} {cap j : Nat} (h : j < d.length) : (bytesRow (B d) cap)[j]? = some (.int .u8 (d[j].toNat : Int)) := by
  unfold bytesRow
  rw [Array.getElem?_append_left (by simp [B]; omega)]
  simp [B, h]
theorem brow_size (d : List UInt8) (cap : Nat) : d.length ≤ (bytesRow (B d) cap).size := by unfold bytesRow; simp [B]
theorem brow_cell {W : World} {g cap j : Nat} {d : List UInt8} {t : TypeId} (hg : W.heap[g]? = some (.cells (bytesRow (B d) cap) t ((bytesRow (B d) cap).size, (bytesRow (B d) cap).size + 1))) (h : j < d.length) : W.cell? ⟨g, j, none⟩ = some (.int .u8 (d[j].toNat : Int)) := by
  unfold World.cell?
  rw [hg]
  exact brow_at h
theorem brow_frozen {W : World} {g cap j : Nat} {d : List UInt8} {t : TypeId} (hg : W.heap[g]? = some (.cells (bytesRow (B d) cap) t ((bytesRow (B d) cap).size, (bytesRow (B d) cap).size + 1))) (h : j < d.length) : W.frozen? ⟨g, j, none⟩ = false := by
  have := brow_size d cap
  simp [World.frozen?, hg]
  omega
theorem brow_write {W : World} {g cap k : Nat} {d : List UInt8} {b : Bun} {t : TypeId} (hg : W.heap[g]? = some (.cells (bytesRow (B d) cap) t ((bytesRow (B d) cap).size, (bytesRow (B d) cap).size + 1))) (hk : b.off = k) (h1 : k + b.payload.length ≤ d.length) (j : Nat) (hj : j < (writeS d b).length) :
    (W.setCells g k (bytesV b.payload)).cell? ⟨g, j, none⟩ = some (.int .u8 ((writeS d b)[j].toNat : Int)) := by
  have hl := writeS_len (d := d) (b := b) (by omega) (by omega)
  have ha := writeS_at (j := j) hk h1
  rw [List.getElem?_eq_getElem hj] at ha
  by_cases c : k ≤ j ∧ j < k + b.payload.length
  · rw [if_pos c, List.getElem?_eq_getElem (by omega)] at ha
    have := World.cell?_setCells_in g (bytesV b.payload) k W (fun i hi => by rw [brow_cell hg (by simp at hi; omega)]; rfl) (j - k) (by simp; omega)
    rw [show k + (j - k) = j by omega] at this
    rw [this, Option.some.inj ha]
    simp
  · rw [if_neg c, List.getElem?_eq_getElem (by omega)] at ha
    rw [World.cell?_setCells_out g (bytesV b.payload) k W ⟨g, j, none⟩ (fun _ _ => by simp; omega), brow_cell hg (by omega), Option.some.inj ha]
set_option maxRecDepth 100000 in
set_option maxHeartbeats 4000000 in
theorem write_any (d : List UInt8) (b : Bun) (u : Value) (w : World) (h : RBlks w w.heap.size u b.blocks) (hd : d.length ≤ 100000) (h0 : 0 ≤ b.off) (h1 : b.off + b.payload.length ≤ d.length) (hp : 0 < b.payload.length) :
    Calls Tryz.prog 81 #[.string (B d), .agg (bunC b u).toArray] w fun e w' => e = .returned (.string (B (writeS d b))) ∧ Below w.heap.size w w' := by
  obtain ⟨a, c, rfl, _⟩ := h
  obtain ⟨k, hk⟩ := Int.eq_ofNat_of_zero_le h0
  have HK := Lib.hid hk
  have hk1 : k + b.payload.length ≤ d.length := by omega
  have k0 : (0 : Int) ≤ (k : Int) := by omega
  have k1 : (k : Int) ≤ (d.length : Int) := by omega
  obtain ⟨S, hS⟩ : ∃ q, writeS d b = q := ⟨_, rfl⟩
  have hSl : S.length = d.length := by rw [← hS]; exact writeS_len h0 h1
  have HSl := Lib.hid hSl
  have HS := Lib.hid hS
  clear hS h0 h1 hSl
  rw [HS.out]
  go_enter Tryz.func81, Tryz.ntmps81
  simp only [bunC, hk]
  clear hk
  go_upto_region 2 with fail
  rw [run_bytes_of_string _ 9 23 5 (B d) Tryz.underlying9 Tryz.underlying23 Tryz.underlying5]
  obtain ⟨w1, hw1⟩ : ∃ q, w.alloc (.cells #[.int .i64 b.src, .int .i64 b.crt, .int .i64 b.seq, .int .i64 (k : Int), .int .i64 b.tot, .int .i64 b.dk, .int .i64 b.dn, .int .i64 b.life, .int .i64 b.prio, .int .i64 b.flags, .slice a b.blocks.length c, .string (B b.payload)] 32) = q := ⟨_, rfl⟩
  have hn1 : w1.heap[w.heap.size]? = some (.cells #[.int .i64 b.src, .int .i64 b.crt, .int .i64 b.seq, .int .i64 (k : Int), .int .i64 b.tot, .int .i64 b.dk, .int .i64 b.dn, .int .i64 b.life, .int .i64 b.prio, .int .i64 b.flags, .slice a b.blocks.length c, .string (B b.payload)] 32 (0, 0)) := by rw [← hw1]; exact heap_new
  have hb1 : Below w.heap.size w w1 := by rw [← hw1]; exact balloc0 (Below.refl _ _)
  rw [hw1]
  obtain ⟨cap, hcap⟩ : ∃ q, grownCap w1 (B d).size 0 5 = q := ⟨_, rfl⟩
  have hcd : d.length ≤ cap := by rw [← hcap]; have := grownCap_ge w1 (B d).size 0 5; rwa [B_size] at this ⊢
  have hck : ¬ cap = k := by omega
  rw [hcap]
  obtain ⟨w2, hw2⟩ : ∃ q, w1.drew.alloc (.cells (bytesRow (B d) cap) 5 ((bytesRow (B d) cap).size, (bytesRow (B d) cap).size + 1)) = q := ⟨_, rfl⟩
  have hn2 : w2.heap[w1.heap.size]? = some (.cells (bytesRow (B d) cap) 5 ((bytesRow (B d) cap).size, (bytesRow (B d) cap).size + 1)) := by rw [← hw2]; exact World.alloc_heap_new w1.drew _
  have hb2 : Below w1.heap.size w1 w2 := by rw [← hw2]; exact balloc0 (bdrew (Below.refl _ _))
  rw [hw2]
  clear hw1 hw2 hcap
  have z1 : w.heap.size < w1.heap.size := (Array.getElem?_eq_some_iff.1 hn1).1
  have cb := cellB ((hb2.block _ z1).trans hn1)
  have cb3 := cb 3
  have cb11 := cb 11
  clear cb
  have HN2 := Lib.hid hn2
  have HB1 := Lib.hid hb1
  have HB2 := Lib.hid hb2
  obtain ⟨g, hg⟩ : ∃ q, w1.heap.size = q := ⟨_, rfl⟩
  rw [hg] at HN2 ⊢
  have hgz : w.heap.size < g := by omega
  clear hn1 hn2 hb1 hb2 hg z1
  go_simp
  go_upto_region 2 with fail
  refine wp_region_plan (fun V => V.cell? ⟨w.heap.size, 3, none⟩ = some (.int .i64 (k : Int)) ∧ V.cell? ⟨w.heap.size, 11, none⟩ = some (.string (B b.payload))) [0, 0, 0, 1, 0, 0, 1, 3] [0, 1, 2, 3, 4, 5, 6, 7] (by kernel_rfl) (by kernel_rfl) ?_ ?_
  · exact ⟨cb3, cb11⟩
  (iterate 7 (refine plan_held rfl (by decide) (by rfl) (fun w1 hS => by (try (have hS := hS rfl; obtain hS := hS; repeat (obtain ⟨_, hS⟩ := hS))); go_simp; rfl) ?_; simp only [Act.put, List.setIfInBounds_toArray, List.set_cons_zero, List.set_cons_succ]))
  clear cb3 cb11
  have hn3 : w2.drew.heap[g]? = some (.cells (bytesRow (B d) cap) 5 ((bytesRow (B d) cap).size, (bytesRow (B d) cap).size + 1)) := HN2.out
  refine plan_late rfl rfl (by rfl) (fun K hK => ?_)
  refine wp_copy_runK _ _ _ _ _ rfl _ _ rfl rfl (run_copy_string _ _ _ _ 5 g k _ _ (B b.payload) Tryz.underlying23 (fun w => by rfl) (by rw [B_size]; omega) (fun j hj => by rw [B_size] at hj; rw [brow_cell hn3 (by omega)]; rfl) (fun j hj => by rw [B_size] at hj; exact brow_frozen hn3 (by omega))) ?_
  refine hK _ _ ?_
  clear hK K
  (try simp only [Act.put, List.setIfInBounds_toArray, List.set_cons_zero, List.set_cons_succ])
  refine plan_done ?_
  have hcell := fun j hj => brow_write hn3 HK.out hk1 j hj
  rw [HS.out] at hcell
  obtain ⟨w3, hw3⟩ : ∃ q, w2.drew.setCells g k (bytesV b.payload) = q := ⟨_, rfl⟩
  have hb3 : Below w.heap.size w w3 := by
    rw [← hw3]
    exact below_setCells (by omega) _ _ _ (bdrew (btrans0 HB1.out HB2.out))
  rw [show (w2.drew.setCells g k (List.map (fun x => Value.int .u8 (x.toNat : Int)) (B b.payload).data.toList)) = w3 from hw3]
  rw [hw3] at hcell
  clear hn3 hw3
  go_upto_region 3 with fail
  go_wp2_with fail
  rw [conv_bytes w3 23 9 5 (some ⟨g, 0, none⟩) d.length cap S Tryz.underlying23 Tryz.underlying5 Tryz.underlying9 HSl.out (fun ad had j hj => by cases had; rw [addN, Nat.zero_add]; exact hcell j hj) (fun h => by cases h)]
  go_simp
  go_wp2
  go_ret
  exact ⟨rfl, hb3⟩
end Go.Proofs.YtmknchdciblfjaaGreat
/- Joined by port.py: XSl -/
set_option linter.unusedVariables false
set_option linter.unusedSimpArgs false
/-! XSl -/
namespace Go.Proofs.YtmknchdciblfjaaGreat
open Go Go.RowKit Iv
attribute [local go_sem] Oper.semAt_some
attribute [local go_sem] B_getElem B_size B_app B_extract B_get B_toList
def copyB (l : List Blk) : List Blk := l.filter keepC
theorem copy_len (l : List Blk) : (copyB l).length ≤ l.length := List.length_filter_le _ _
theorem copy_take {l : List Blk} {k : Nat} {x : Blk} (h : l[k]? = some x) : copyB (l.take (k + 1)) = copyB (l.take k) ++ if keepC x = true then [x] else [] := by
  unfold copyB
  rw [List.take_add_one, h, List.filter_append]
  simp only [Option.toList]
  by_cases c : keepC x = true
  · rw [if_pos c, List.filter_cons_of_pos c]; rfl
  · rw [if_neg c, List.filter_cons_of_neg c]; rfl
theorem keep_and {x : Blk} (h1 : 0 ≤ x.flags) (h2 : x.flags ≤ 15) : (bits .and .i64 x.flags 1 != 0) = keepC x := by
  obtain ⟨n, hn⟩ := Int.eq_ofNat_of_zero_le h1
  unfold keepC
  rw [hn]
  have h : ∀ n : Fin 16, (bits .and .i64 (n.val : Int) 1 != 0) = ((n.val : Int) % 2 == 1) := by decide +kernel
  exact h ⟨n, by omega⟩
set_option maxRecDepth 100000 in
set_option maxHeartbeats 4000000 in
theorem copied_any (l : List Blk) (v : Value) (w : World) (h : RBlks w w.heap.size v l) (hf : ∀ x ∈ l, 0 ≤ x.flags ∧ x.flags ≤ 15) (hl : l.length ≤ 1000) :
    Calls Tryz.prog 83 #[v] w fun e w' => ∃ r, e = .returned r ∧ RBlks w' w'.heap.size r (copyB l) ∧ RFrom w.heap.size r ∧ Below w.heap.size w w' := by
  obtain ⟨a, c, rfl, h1, h2, h3, h4⟩ := h
  unfold maxLen at h2
  have hlen : l.length ≤ 9223372036854775807 := by omega
  have H4 := Lib.hid h4
  have HF := Lib.hid hf
  obtain ⟨i0, hin, hz0, hz1, hz2⟩ := info_parts infoBlk
  clear h3 h4 hf
  go_enter Tryz.func83, Tryz.ntmps83
  go_wp2
  go_loopw [3, 8] (fun ov iv wr => ∃ k : Nat, k ≤ l.length ∧ iv = .int .i64 k ∧ Hid (wr.ownsRow w.heap.size 91 3 ov (copyB (l.take k)).length ((copyB (l.take k)).flatMap blkC)) ∧ Below w.heap.size w wr) (fun _ iv _ => l.length - (intOf iv).toNat)
  case atStart => exact ⟨0, Nat.zero_le _, rfl, Lib.hid (World.ownsRow_nil _ _ _ _), Below.refl _ _⟩
  case round =>
    obtain ⟨k, hk, rfl, HO, hB⟩ := hrel
    by_cases hlt : k < l.length
    · skip
      obtain ⟨bb, o, rfl, hbn, hcell⟩ := H4.out (by omega)
      obtain ⟨x, hx⟩ : ∃ x, l[k]? = some x := ⟨_, List.getElem?_eq_getElem (by omega)⟩
      obtain ⟨q0, q1, q2⟩ := hcell k x hx
      have q0 := (hB.cell (p := ⟨bb, o + k * 3, none⟩) hbn).trans q0
      have q1 := (hB.cell (p := ⟨bb, o + k * 3 + 1, none⟩) hbn).trans q1
      have q2 := (hB.cell (p := ⟨bb, o + k * 3 + 2, none⟩) hbn).trans q2
      have k0 : (0 : Int) ≤ (k : Int) := by omega
      have k1 : (k : Int) < (l.length : Int) := by omega
      obtain ⟨f1, f2⟩ := HF.out x (List.mem_of_getElem? hx)
      have zb : bb < wr.heap.size := by have := hB.size; omega
      have HSN := Lib.hid (copy_take hx)
      clear hcell hx
      obtain ⟨L, hL⟩ : ∃ q, copyB (l.take k) = q := ⟨_, rfl⟩
      have hLl : L.length ≤ 1000 := by rw [← hL]; exact Nat.le_trans (copy_len _) (by rw [List.length_take]; omega)
      rw [hL] at HO HSN
      obtain ⟨va, vc, rfl⟩ := own_shape HO.out
      clear hL
      obtain ⟨E, hE⟩ : ∃ q, keepC x = q := ⟨_, rfl⟩
      have HE := Lib.hid hE
      have hka := keep_and f1 f2
      rw [hE] at hka
      clear hE
      cases E with
      | true =>
        have HN : Hid (copyB (l.take (k + 1)) = L ++ [x]) := Lib.hid (by rw [HSN.out, HE.out]; rfl)
        go_wp2_with (at_builtin; go_loud (refine wpList_append_F _ rfl _ _ _ rfl w.heap.size 91 i0 _ 3 32 Tryz.underlying30 hin hz0 hz1 hz2 rfl (by omega) (.slice va L.length vc) L.length (L.flatMap blkC) rfl (own_kept1 HO.out (fun q hq => (by exact belowA : Below wr.heap.size wr _).block q (HO.out.lt q hq).2)) ⟨wr.heap.size + 1, 0, none⟩ 1 1 (blkC x) rfl rfl (news_one (t := 91) (by exact heap_new' (by simp))) (by simp [blkC, Value.oneCell']) (by simp only [maxLen]; omega) (by omega) (by simp; have := hB.size; omega) (by omega) ?_); intro vo w9 ho9 hg9 hf9)
        have HO9 : Hid (w9.ownsRow w.heap.size 91 3 vo (copyB (l.take (k + 1))).length ((copyB (l.take (k + 1))).flatMap blkC)) := Lib.hid (by
          rw [HN.out, List.length_append, List.flatMap_append]
          simpa using ho9)
        have hB9 : Below w.heap.size w w9 := Below.grown (by exact belowA) hg9 (by simp; have := hB.size; omega) (fun q hq => (HO.out.lt q hq).1)
        clear ho9 hg9 hf9
        go_wp2
        refine ⟨⟨k + 1, by omega, by go_num, HO9, hB9⟩, by simp [intOf]; omega⟩
      | false =>
        have HN : Hid (copyB (l.take (k + 1)) = L) := Lib.hid (by rw [HSN.out, HE.out]; simp)
        go_wp2
        refine ⟨⟨k + 1, by omega, by go_num, Lib.hid (by rw [HN.out]; exact own_kept1 HO.out (fun q hq => (by exact belowA : Below wr.heap.size wr _).block q (HO.out.lt q hq).2)), belowA⟩, by simp [intOf]; omega⟩
    · obtain rfl : k = l.length := by omega
      have HO2 : Hid (wr.ownsRow w.heap.size 91 3 _ (copyB l).length ((copyB l).flatMap blkC)) := Lib.hid (by have := HO.out; rwa [List.take_length] at this)
      go_wp2
      go_ret
      exact ⟨_, rfl, RBlks.of_own HO2.out, own_from HO2.out, hB⟩
end Go.Proofs.YtmknchdciblfjaaGreat

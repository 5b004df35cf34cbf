/- Walk of layer 17 (fragment), the reference: cut. -/
import Derived.Test.YtibfchdhppdccaaFc
import Derived.Test.YtibfchdhppdccaaR
set_option linter.unusedVariables false
set_option linter.unusedSimpArgs false
namespace Go.Proofs.Ytibfchdhppdccaa
open Go Go.RowKit
attribute [local go_sem] B_getElem B_size B_app B_extract B_get B_toList

/-- the cells of the reference's out -/
def outC (b : Bun) (f T : Int) (va : Option Addr) (n c : Nat) (p : List UInt8) : Array Value :=
  #[.int .i64 b.src, .int .i64 b.crt, .int .i64 b.seq, .int .i64 f, .int .i64 T, .int .i64 b.dk, .int .i64 b.dn, .int .i64 b.life, .int .i64 b.prio, .int .i64 b.flags, .slice va n c, .string (B p)]
theorem cellB {w : World} {g : Nat} {t : TypeId} {cs : Array Value} (h : w.heap[g]? = some (.cells cs t (0, 0))) (o : Nat) : w.cell? ⟨g, o, none⟩ = cs[o]? := cell_of_row w g o cs t (0, 0) h
theorem frozenB {w : World} {g : Nat} {t : TypeId} {cs : Array Value} (h : w.heap[g]? = some (.cells cs t (0, 0))) (o : Nat) : w.frozen? ⟨g, o, none⟩ = false := by simp [World.frozen?, h]
theorem setB {w : World} {g : Nat} {t : TypeId} {cs : Array Value} (h : w.heap[g]? = some (.cells cs t (0, 0))) (o : Nat) (u : Value) : (w.setCell ⟨g, o, none⟩ u).heap[g]? = some (.cells (cs.setIfInBounds o u) t (0, 0)) := by
  simp [World.setCell, Array.getElem?_modify, h]

set_option maxRecDepth 100000 in
set_option maxHeartbeats 1000000 in
theorem rcut_any (b : Bun) (u : Value) (f t : Int) (N : Nat) (w : World) (hN : N ≤ w.heap.size) (h : RBlks w N u b.blocks) (h0 : 0 ≤ b.off) (h1 : b.off ≤ f) (h2 : f ≤ t) (h3 : t ≤ b.off + b.payload.length) (h4 : b.off ≤ 100000) (h5 : b.payload.length ≤ 100000)
    (hf : ∀ x ∈ b.blocks, 0 ≤ x.flags ∧ x.flags ≤ 15) (hl : b.blocks.length ≤ 1000) :
    Calls Try.prog 35 #[.agg (bunC b u).toArray, .int .i64 f, .int .i64 t] w (BunPost N (cutS b f t) w) := by
  obtain ⟨i, hi⟩ : ∃ i : Nat, f - b.off = i := ⟨(f - b.off).toNat, by omega⟩
  obtain ⟨j, hj⟩ : ∃ j : Nat, t - b.off = j := ⟨(t - b.off).toNat, by omega⟩
  have i1 : i ≤ j := by omega
  have i2 : j ≤ b.payload.length := by omega
  have hP : (cutS b f t).payload = (b.payload.drop i).take (j - i) := by
    unfold cutS
    show (b.payload.drop (f - b.off).toNat).take (t - f).toNat = _
    rw [show (f - b.off).toNat = i by omega, show (t - f).toNat = j - i by omega]
  have HP := Lib.hid hP
  obtain ⟨ua, uc, rfl, huc, hum, _, hcell⟩ := id h
  have HR := Lib.hid h
  have HF := Lib.hid hf
  have HCL := Lib.hid hcell
  clear hP h hf hcell
  unfold maxLen at hum
  have i3 : (0 : Int) ≤ (i : Int) := by omega
  have i4 : (i : Int) ≤ (j : Int) := by omega
  have i5 : (j : Int) ≤ (b.payload.length : Int) := by omega
  obtain ⟨T, hT⟩ : ∃ T : Int, T = if b.tot = 0 then (b.payload.length : Int) else b.tot := ⟨_, rfl⟩
  have HT : Hid ((cutS b f t).tot = T) := Lib.hid (by rw [hT]; rfl)
  obtain ⟨P, hPd⟩ : ∃ P : Blk → Bool, P = fun x => decide (f = 0) || keepC x := ⟨_, rfl⟩
  have HB : Hid ((cutS b f t).blocks = b.blocks.filter P) := Lib.hid (by
    rw [hPd]; unfold cutS
    by_cases z : f = 0
    · subst z; simp only [decide_true, Bool.true_or]; rw [List.filter_eq_self.2 (fun _ _ => rfl)]; rfl
    · simp [z, show 0 < f by omega])
  have HPd := Lib.hid hPd
  clear hPd
  have HTd := Lib.hid hT
  clear hT
  obtain ⟨p, hp⟩ : ∃ p, (b.payload.drop i).take (j - i) = p := ⟨_, rfl⟩
  obtain ⟨i0, hin, hz0, hz1, hz2⟩ := info_parts infoBlk
  have hf2 : 0 ≤ f := by omega
  by_cases zf : f = 0
  case neg =>
    have HPk : Hid (∀ x, P x = keepC x) := Lib.hid (fun x => by rw [HPd.out]; simp [zf])
    have zf' : (f == 0) = false := beq_eq_false_iff_ne.2 zf
    by_cases z : b.tot = 0
    · have Z := Lib.hid z
      have z' : (b.tot == 0) = true := beq_iff_eq.2 z
      have hT : T = (b.payload.length : Int) := by rw [HTd.out, if_pos z]
      clear z
      subst hT
      go_enter Try.func35, Try.ntmps35
      simp only [bunC]
      go_wp2
      go_loopw [8] (fun c wr => ∃ (k n vc : Nat) (va : Option Addr), k ≤ b.blocks.length ∧ c = .int .i64 k ∧ n ≤ k ∧ Hid (wr.heap[w.heap.size + 1 + 1]? = some (.cells (outC b f (b.payload.length : Int) va n vc p) 28 (0, 0))) ∧
        Hid (wr.heap[w.heap.size]? = some (.cells (bunC b (.slice ua b.blocks.length uc)).toArray 28 (0, 0))) ∧ Hid (wr.heap[w.heap.size + 1]? = some (.cells bun0 28 (0, 0))) ∧
        wr.ownsRow (w.heap.size + 1 + 1 + 1) 40 3 (.slice va n vc) n (((b.blocks.take k).filter P).flatMap blkC) ∧ Below w.heap.size w wr ∧ w.heap.size + 1 + 1 + 1 < wr.heap.size) (fun c _ => b.blocks.length - (intOf c).toNat)
      case atStart =>
        refine ⟨0, 0, 0, some ⟨w.heap.size + 1 + 1 + 1, 0, none⟩, Nat.zero_le _, rfl, Nat.le_refl _, Lib.hid ?_, Lib.hid ?_, Lib.hid ?_, ?_, (by repeat' (first | (with_reducible refine bset ?_ ?_) | (with_reducible exact Below.refl _ _) | (with_reducible assumption) | (with_reducible refine bdrewN ?_ _) | (with_reducible refine bdrew ?_) | (with_reducible refine balloc0 ?_) | (with_reducible refine balloc ?_ ?_) | (with_reducible apply btrans0; rotate_left; with_reducible assumption) | (with_reducible apply btrans; rotate_left; with_reducible assumption) | exact Below.refl _ _ | assumption | (apply btrans0; rotate_left; assumption) | (apply btrans; rotate_left; assumption) | (simp; done) | omega | (simp; omega))), by simp⟩
        · exact (by repeat (first | exact heap_new' (by first | rfl | (simp; done)) | refine (Below.heap_alloc _ _ _ (by first | (simp; done) | (simp; omega))).trans ?_))
        · exact (by repeat (first | exact heap_new' (by first | rfl | (simp; done)) | refine (Below.heap_alloc _ _ _ (by first | (simp; done) | (simp; omega))).trans ?_))
        · exact (by repeat (first | exact heap_new' (by first | rfl | (simp; done)) | refine (Below.heap_alloc _ _ _ (by first | (simp; done) | (simp; omega))).trans ?_))
        · exact ownsRow_new (by simp) (Nat.le_refl _)
      case round =>
        obtain ⟨k, n, vc, va, hk, rfl, hn, H7, H3, H6, hown, hB, hsz⟩ := hrel
        have h7 : wr.cell? ⟨w.heap.size + 1 + 1, 10, none⟩ = some (.slice va n vc) := cellB H7.out 10
        have h3' : wr.cell? ⟨w.heap.size, 10, none⟩ = some (.slice ua b.blocks.length uc) := cellB H3.out 10
        have hs0 : w.heap.size < wr.heap.size := by omega
        have hs1 : w.heap.size + 1 < wr.heap.size := by omega
        have hs2 : w.heap.size + 1 + 1 < wr.heap.size := by omega
        by_cases hlt : k < b.blocks.length
        · obtain ⟨bb, o, rfl, hbn, hcell⟩ := HCL.out (by omega)
          obtain ⟨x, hx⟩ : ∃ x, b.blocks[k]? = some x := ⟨_, List.getElem?_eq_getElem hlt⟩
          obtain ⟨c1, c2, c3⟩ := (hcell k x hx).keep (fun o => hB.cell (p := ⟨bb, o, none⟩) (by show bb < _; omega))
          have hbr : bb < wr.heap.size := by omega
          have HX := Lib.hid hx
          have k1 : (k : Int) < (b.blocks.length : Int) := by omega
          obtain ⟨f1, f2⟩ := HF.out x (List.mem_of_getElem? hx)
          obtain ⟨q, hq⟩ : ∃ q, keepC x = q := ⟨_, rfl⟩
          have HQ := Lib.hid hq
          unfold keepC at hq
          clear hcell hx
          cases q with
          | false =>
            go_wp2
            go_roundw
            case rel => exact ⟨k + 1, n, vc, va, by omega, by go_num, by omega, H7, H3, H6, by rw [flat_skip HX.out ((HPk.out x).trans HQ.out)]; exact hown, hB, hsz⟩
            case measure => simp [intOf]; omega
          | true =>
            go_wp2
            refine wp_region_plan (fun W => W.cell? ⟨w.heap.size + 1 + 1, 10, none⟩ = some (.slice va n vc) ∧ W.cell? ⟨w.heap.size, 10, none⟩ = some (.slice (some ⟨bb, o, none⟩) b.blocks.length uc) ∧ W.cell? ⟨bb, o + k * 3, none⟩ = some (.int .i64 x.kind) ∧ W.cell? ⟨bb, o + k * 3 + 1, none⟩ = some (.int .i64 x.flags) ∧ W.cell? ⟨bb, o + k * 3 + 2, none⟩ = some (.string (B x.data))) [0, 1, 0, 1, 0, 0, 1, 2, 3, 0, 3] [0, 1, 2, 3, 4, 5, 6, 7, 8, 9, 10] (by kernel_rfl) (by kernel_rfl) ?_ ?_
            · go_simp
            (iterate 7 (refine plan_held rfl (by decide) (by rfl) (fun w1 hS => by (try (have hS := hS rfl; obtain hS := hS; repeat (obtain ⟨_, hS⟩ := hS))); go_simp; rfl) ?_; simp only [Act.put, List.setIfInBounds_toArray, List.set_cons_zero, List.set_cons_succ]))
            (refine plan_keep rfl rfl (by rfl) (fun K hK => ?_); go_simp)
            (refine hK _ _ (by go_simp) ?_; clear hK K; (try simp only [Act.put, List.setIfInBounds_toArray, List.set_cons_zero, List.set_cons_succ]))
            have hownW : ∀ W : World, W.heap = (wr.alloc (.cells #[.int .i64 x.kind, .int .i64 x.flags, .string (B x.data)] 40)).heap → W.ownsRow (w.heap.size + 1 + 1 + 1) 40 3 (.slice va n vc) n (((b.blocks.take k).filter P).flatMap blkC) := fun W hW => by
              unfold World.ownsRow; rw [hW]; exact hown.alloc _
            have hnew : ∀ W : World, W.heap = (wr.alloc (.cells #[.int .i64 x.kind, .int .i64 x.flags, .string (B x.data)] 40)).heap → W.heap[wr.heap.size]? = some (.cells (blkC x).toArray 40 (0, 0)) := fun W hW => by
              rw [hW]; exact heap_new
            refine plan_late rfl rfl (by rfl) (fun K hK => ?_)
            refine wp_append_lies _ _ _ _ rfl (w.heap.size + 1 + 1 + 1) 40 i0 _ 3 32 Try.underlying26 hin hz0 hz1 hz2 rfl (by omega) (.slice va n vc) n _ (by rfl) (hownW _ rfl) ⟨wr.heap.size, 0, none⟩ 1 1 (blkC x) (by rfl) rfl (news_one (hnew _ rfl)) (blkC_one x) (by omega) (by simp only [maxLen]; omega) (by omega) (by simp; omega) (wr.heap.size + 1) (by simp) ?_
            intro g cap w1 hown1 hg1 hat hlt1
            have hvb : ∀ q, (Value.slice va n vc).ownBlock = some q → w.heap.size + 1 + 1 + 1 ≤ q := fun q hq => (hown.lt q hq).1
            have hkeep : ∀ q, q < w.heap.size + 1 + 1 + 1 → w1.heap[q]? = wr.heap[q]? := fun q hq => (hg1.block q (by simp; omega) (fun e => by have := hvb q e.symm; omega)).trans (Below.heap_alloc _ _ _ (by omega))
            have g7 : w1.heap[w.heap.size + 1 + 1]? = _ := (hkeep _ (by omega)).trans H7.out
            have g3 : w1.heap[w.heap.size]? = _ := (hkeep _ (by omega)).trans H3.out
            have g6 : w1.heap[w.heap.size + 1]? = _ := (hkeep _ (by omega)).trans H6.out
            have G7 := Lib.hid g7
            have G3 := Lib.hid g3
            have G6 := Lib.hid g6
            have c7 := cellB g7 10
            have f7 := frozenB g7 10
            simp only [outC] at c7
            have hBw : Below w.heap.size w w1 := (bdrew (balloc hB (by omega))).grown hg1 (by simp; omega) (fun q hq => by have := hvb q hq; omega)
            have HO := Lib.hid hown1
            have hsz1 : w.heap.size + 1 + 1 + 1 < w1.heap.size := by have := hg1.size; simp at this; omega
            clear g7 g3 g6 hkeep hvb hown1 hg1 hownW hnew
            refine hK _ _ ?_
            clear hK K
            simp only [Act.put, List.setIfInBounds_toArray, List.set_cons_zero, List.set_cons_succ]
            (iterate 1 (refine plan_held rfl (by decide) (by rfl) (fun w1 hS => by (try (have hS := hS rfl; obtain hS := hS; repeat (obtain ⟨_, hS⟩ := hS))); go_simp; rfl) ?_; simp only [Act.put, List.setIfInBounds_toArray, List.set_cons_zero, List.set_cons_succ]))
            (refine plan_late rfl rfl (by rfl) (fun K hK => ?_); go_simp)
            (refine hK _ _ ?_; clear hK K; (try simp only [Act.put, List.setIfInBounds_toArray, List.set_cons_zero, List.set_cons_succ]))
            refine plan_done ?_
            go_wp2
            go_roundw
            case rel =>
              refine ⟨k + 1, n + 1, cap, some ⟨g, 0, none⟩, by omega, by go_num, by omega, Lib.hid (by simpa [outC] using setB G7.out 10 _), Lib.hid ?_, Lib.hid ?_, ?_, (by repeat' (first | (with_reducible refine bset ?_ ?_) | (with_reducible exact Below.refl _ _) | (with_reducible assumption) | (with_reducible refine bdrewN ?_ _) | (with_reducible refine bdrew ?_) | (with_reducible refine balloc0 ?_) | (with_reducible refine balloc ?_ ?_) | (with_reducible apply btrans0; rotate_left; with_reducible assumption) | (with_reducible apply btrans; rotate_left; with_reducible assumption) | exact Below.refl _ _ | assumption | (apply btrans0; rotate_left; assumption) | (apply btrans; rotate_left; assumption) | (simp; done) | omega | (simp; omega))), by simp; omega⟩
              · rw [Below.heap_setCell _ _ _ _ (by first | (simp; done) | (simp; omega))]; exact G3.out
              · rw [Below.heap_setCell _ _ _ _ (by first | (simp; done) | (simp; omega))]; exact G6.out
              · rw [flat_snoc HX.out ((HPk.out x).trans HQ.out)]
                exact own_keep HO.out fun q hq => Below.heap_setCell _ _ _ _ (by simp; omega)
            case measure => simp [intOf]; omega
        · obtain rfl : k = b.blocks.length := by omega
          have a7 := fun o => cellB H7.out o
          have a6 := fun o => cellB H6.out o
          have f6 := fun o => frozenB H6.out o
          simp only [outC] at a7
          simp only [bun0] at a6
          go_wp2
          refine bodyPost_ret (v := .agg #[.int .i64 b.src, .int .i64 b.crt, .int .i64 b.seq, .int .i64 f, .int .i64 (b.payload.length : Int), .int .i64 b.dk, .int .i64 b.dn, .int .i64 b.life, .int .i64 b.prio, .int .i64 b.flags, .slice va n vc, .string (B p)]) (by simp [results, Try.results35, go_sem, World.cell?_setCell_same', a6]) rfl ?_
          have hl2 : n = (b.blocks.filter P).length := by have := hown.1; rw [flat_len blkC 3 blkC_len, List.take_length] at this; omega
          refine ⟨.slice va n vc, ?_, ?_, (by repeat' (first | (with_reducible refine bset ?_ ?_) | (with_reducible exact Below.refl _ _) | (with_reducible assumption) | (with_reducible refine bdrewN ?_ _) | (with_reducible refine bdrew ?_) | (with_reducible refine balloc0 ?_) | (with_reducible refine balloc ?_ ?_) | (with_reducible apply btrans0; rotate_left; with_reducible assumption) | (with_reducible apply btrans; rotate_left; with_reducible assumption) | exact Below.refl _ _ | assumption | (apply btrans0; rotate_left; assumption) | (apply btrans; rotate_left; assumption) | (simp; done) | omega | (simp; omega)))⟩
          · unfold bunC
            rw [HP.out, HT.out, hp]
            rfl
          · rw [HB.out]
            have h1 := RBlks.of_own hown
            rw [List.take_length] at h1
            refine RBlksD.new_ h1 (L := w.heap.size + 1 + 1 + 1) (fun a n' c' e => by injection e with e; subst e; exact (hown.lt a.block rfl).1) (fun q o hq _ => ?_) (by omega) (by simp)
            simp (disch := (simp; omega)) only [World.cell?_setCell_far]
    · have Z := Lib.hid z
      have z' : (b.tot == 0) = false := beq_eq_false_iff_ne.2 z
      have hT : T = b.tot := by rw [HTd.out, if_neg z]
      clear z
      subst hT
      go_enter Try.func35, Try.ntmps35
      simp only [bunC]
      go_wp2
      go_loopw [8] (fun c wr => ∃ (k n vc : Nat) (va : Option Addr), k ≤ b.blocks.length ∧ c = .int .i64 k ∧ n ≤ k ∧ Hid (wr.heap[w.heap.size + 1 + 1]? = some (.cells (outC b f b.tot va n vc p) 28 (0, 0))) ∧
        Hid (wr.heap[w.heap.size]? = some (.cells (bunC b (.slice ua b.blocks.length uc)).toArray 28 (0, 0))) ∧ Hid (wr.heap[w.heap.size + 1]? = some (.cells bun0 28 (0, 0))) ∧
        wr.ownsRow (w.heap.size + 1 + 1 + 1) 40 3 (.slice va n vc) n (((b.blocks.take k).filter P).flatMap blkC) ∧ Below w.heap.size w wr ∧ w.heap.size + 1 + 1 + 1 < wr.heap.size) (fun c _ => b.blocks.length - (intOf c).toNat)
      case atStart =>
        refine ⟨0, 0, 0, some ⟨w.heap.size + 1 + 1 + 1, 0, none⟩, Nat.zero_le _, rfl, Nat.le_refl _, Lib.hid ?_, Lib.hid ?_, Lib.hid ?_, ?_, (by repeat' (first | (with_reducible refine bset ?_ ?_) | (with_reducible exact Below.refl _ _) | (with_reducible assumption) | (with_reducible refine bdrewN ?_ _) | (with_reducible refine bdrew ?_) | (with_reducible refine balloc0 ?_) | (with_reducible refine balloc ?_ ?_) | (with_reducible apply btrans0; rotate_left; with_reducible assumption) | (with_reducible apply btrans; rotate_left; with_reducible assumption) | exact Below.refl _ _ | assumption | (apply btrans0; rotate_left; assumption) | (apply btrans; rotate_left; assumption) | (simp; done) | omega | (simp; omega))), by simp⟩
        · exact (by repeat (first | exact heap_new' (by first | rfl | (simp; done)) | refine (Below.heap_alloc _ _ _ (by first | (simp; done) | (simp; omega))).trans ?_))
        · exact (by repeat (first | exact heap_new' (by first | rfl | (simp; done)) | refine (Below.heap_alloc _ _ _ (by first | (simp; done) | (simp; omega))).trans ?_))
        · exact (by repeat (first | exact heap_new' (by first | rfl | (simp; done)) | refine (Below.heap_alloc _ _ _ (by first | (simp; done) | (simp; omega))).trans ?_))
        · exact ownsRow_new (by simp) (Nat.le_refl _)
      case round =>
        obtain ⟨k, n, vc, va, hk, rfl, hn, H7, H3, H6, hown, hB, hsz⟩ := hrel
        have h7 : wr.cell? ⟨w.heap.size + 1 + 1, 10, none⟩ = some (.slice va n vc) := cellB H7.out 10
        have h3' : wr.cell? ⟨w.heap.size, 10, none⟩ = some (.slice ua b.blocks.length uc) := cellB H3.out 10
        have hs0 : w.heap.size < wr.heap.size := by omega
        have hs1 : w.heap.size + 1 < wr.heap.size := by omega
        have hs2 : w.heap.size + 1 + 1 < wr.heap.size := by omega
        by_cases hlt : k < b.blocks.length
        · obtain ⟨bb, o, rfl, hbn, hcell⟩ := HCL.out (by omega)
          obtain ⟨x, hx⟩ : ∃ x, b.blocks[k]? = some x := ⟨_, List.getElem?_eq_getElem hlt⟩
          obtain ⟨c1, c2, c3⟩ := (hcell k x hx).keep (fun o => hB.cell (p := ⟨bb, o, none⟩) (by show bb < _; omega))
          have hbr : bb < wr.heap.size := by omega
          have HX := Lib.hid hx
          have k1 : (k : Int) < (b.blocks.length : Int) := by omega
          obtain ⟨f1, f2⟩ := HF.out x (List.mem_of_getElem? hx)
          obtain ⟨q, hq⟩ : ∃ q, keepC x = q := ⟨_, rfl⟩
          have HQ := Lib.hid hq
          unfold keepC at hq
          clear hcell hx
          cases q with
          | false =>
            go_wp2
            go_roundw
            case rel => exact ⟨k + 1, n, vc, va, by omega, by go_num, by omega, H7, H3, H6, by rw [flat_skip HX.out ((HPk.out x).trans HQ.out)]; exact hown, hB, hsz⟩
            case measure => simp [intOf]; omega
          | true =>
            go_wp2
            refine wp_region_plan (fun W => W.cell? ⟨w.heap.size + 1 + 1, 10, none⟩ = some (.slice va n vc) ∧ W.cell? ⟨w.heap.size, 10, none⟩ = some (.slice (some ⟨bb, o, none⟩) b.blocks.length uc) ∧ W.cell? ⟨bb, o + k * 3, none⟩ = some (.int .i64 x.kind) ∧ W.cell? ⟨bb, o + k * 3 + 1, none⟩ = some (.int .i64 x.flags) ∧ W.cell? ⟨bb, o + k * 3 + 2, none⟩ = some (.string (B x.data))) [0, 1, 0, 1, 0, 0, 1, 2, 3, 0, 3] [0, 1, 2, 3, 4, 5, 6, 7, 8, 9, 10] (by kernel_rfl) (by kernel_rfl) ?_ ?_
            · go_simp
            (iterate 7 (refine plan_held rfl (by decide) (by rfl) (fun w1 hS => by (try (have hS := hS rfl; obtain hS := hS; repeat (obtain ⟨_, hS⟩ := hS))); go_simp; rfl) ?_; simp only [Act.put, List.setIfInBounds_toArray, List.set_cons_zero, List.set_cons_succ]))
            (refine plan_keep rfl rfl (by rfl) (fun K hK => ?_); go_simp)
            (refine hK _ _ (by go_simp) ?_; clear hK K; (try simp only [Act.put, List.setIfInBounds_toArray, List.set_cons_zero, List.set_cons_succ]))
            have hownW : ∀ W : World, W.heap = (wr.alloc (.cells #[.int .i64 x.kind, .int .i64 x.flags, .string (B x.data)] 40)).heap → W.ownsRow (w.heap.size + 1 + 1 + 1) 40 3 (.slice va n vc) n (((b.blocks.take k).filter P).flatMap blkC) := fun W hW => by
              unfold World.ownsRow; rw [hW]; exact hown.alloc _
            have hnew : ∀ W : World, W.heap = (wr.alloc (.cells #[.int .i64 x.kind, .int .i64 x.flags, .string (B x.data)] 40)).heap → W.heap[wr.heap.size]? = some (.cells (blkC x).toArray 40 (0, 0)) := fun W hW => by
              rw [hW]; exact heap_new
            refine plan_late rfl rfl (by rfl) (fun K hK => ?_)
            refine wp_append_lies _ _ _ _ rfl (w.heap.size + 1 + 1 + 1) 40 i0 _ 3 32 Try.underlying26 hin hz0 hz1 hz2 rfl (by omega) (.slice va n vc) n _ (by rfl) (hownW _ rfl) ⟨wr.heap.size, 0, none⟩ 1 1 (blkC x) (by rfl) rfl (news_one (hnew _ rfl)) (blkC_one x) (by omega) (by simp only [maxLen]; omega) (by omega) (by simp; omega) (wr.heap.size + 1) (by simp) ?_
            intro g cap w1 hown1 hg1 hat hlt1
            have hvb : ∀ q, (Value.slice va n vc).ownBlock = some q → w.heap.size + 1 + 1 + 1 ≤ q := fun q hq => (hown.lt q hq).1
            have hkeep : ∀ q, q < w.heap.size + 1 + 1 + 1 → w1.heap[q]? = wr.heap[q]? := fun q hq => (hg1.block q (by simp; omega) (fun e => by have := hvb q e.symm; omega)).trans (Below.heap_alloc _ _ _ (by omega))
            have g7 : w1.heap[w.heap.size + 1 + 1]? = _ := (hkeep _ (by omega)).trans H7.out
            have g3 : w1.heap[w.heap.size]? = _ := (hkeep _ (by omega)).trans H3.out
            have g6 : w1.heap[w.heap.size + 1]? = _ := (hkeep _ (by omega)).trans H6.out
            have G7 := Lib.hid g7
            have G3 := Lib.hid g3
            have G6 := Lib.hid g6
            have c7 := cellB g7 10
            have f7 := frozenB g7 10
            simp only [outC] at c7
            have hBw : Below w.heap.size w w1 := (bdrew (balloc hB (by omega))).grown hg1 (by simp; omega) (fun q hq => by have := hvb q hq; omega)
            have HO := Lib.hid hown1
            have hsz1 : w.heap.size + 1 + 1 + 1 < w1.heap.size := by have := hg1.size; simp at this; omega
            clear g7 g3 g6 hkeep hvb hown1 hg1 hownW hnew
            refine hK _ _ ?_
            clear hK K
            simp only [Act.put, List.setIfInBounds_toArray, List.set_cons_zero, List.set_cons_succ]
            (iterate 1 (refine plan_held rfl (by decide) (by rfl) (fun w1 hS => by (try (have hS := hS rfl; obtain hS := hS; repeat (obtain ⟨_, hS⟩ := hS))); go_simp; rfl) ?_; simp only [Act.put, List.setIfInBounds_toArray, List.set_cons_zero, List.set_cons_succ]))
            (refine plan_late rfl rfl (by rfl) (fun K hK => ?_); go_simp)
            (refine hK _ _ ?_; clear hK K; (try simp only [Act.put, List.setIfInBounds_toArray, List.set_cons_zero, List.set_cons_succ]))
            refine plan_done ?_
            go_wp2
            go_roundw
            case rel =>
              refine ⟨k + 1, n + 1, cap, some ⟨g, 0, none⟩, by omega, by go_num, by omega, Lib.hid (by simpa [outC] using setB G7.out 10 _), Lib.hid ?_, Lib.hid ?_, ?_, (by repeat' (first | (with_reducible refine bset ?_ ?_) | (with_reducible exact Below.refl _ _) | (with_reducible assumption) | (with_reducible refine bdrewN ?_ _) | (with_reducible refine bdrew ?_) | (with_reducible refine balloc0 ?_) | (with_reducible refine balloc ?_ ?_) | (with_reducible apply btrans0; rotate_left; with_reducible assumption) | (with_reducible apply btrans; rotate_left; with_reducible assumption) | exact Below.refl _ _ | assumption | (apply btrans0; rotate_left; assumption) | (apply btrans; rotate_left; assumption) | (simp; done) | omega | (simp; omega))), by simp; omega⟩
              · rw [Below.heap_setCell _ _ _ _ (by first | (simp; done) | (simp; omega))]; exact G3.out
              · rw [Below.heap_setCell _ _ _ _ (by first | (simp; done) | (simp; omega))]; exact G6.out
              · rw [flat_snoc HX.out ((HPk.out x).trans HQ.out)]
                exact own_keep HO.out fun q hq => Below.heap_setCell _ _ _ _ (by simp; omega)
            case measure => simp [intOf]; omega
        · obtain rfl : k = b.blocks.length := by omega
          have a7 := fun o => cellB H7.out o
          have a6 := fun o => cellB H6.out o
          have f6 := fun o => frozenB H6.out o
          simp only [outC] at a7
          simp only [bun0] at a6
          go_wp2
          refine bodyPost_ret (v := .agg #[.int .i64 b.src, .int .i64 b.crt, .int .i64 b.seq, .int .i64 f, .int .i64 b.tot, .int .i64 b.dk, .int .i64 b.dn, .int .i64 b.life, .int .i64 b.prio, .int .i64 b.flags, .slice va n vc, .string (B p)]) (by simp [results, Try.results35, go_sem, World.cell?_setCell_same', a6]) rfl ?_
          have hl2 : n = (b.blocks.filter P).length := by have := hown.1; rw [flat_len blkC 3 blkC_len, List.take_length] at this; omega
          refine ⟨.slice va n vc, ?_, ?_, (by repeat' (first | (with_reducible refine bset ?_ ?_) | (with_reducible exact Below.refl _ _) | (with_reducible assumption) | (with_reducible refine bdrewN ?_ _) | (with_reducible refine bdrew ?_) | (with_reducible refine balloc0 ?_) | (with_reducible refine balloc ?_ ?_) | (with_reducible apply btrans0; rotate_left; with_reducible assumption) | (with_reducible apply btrans; rotate_left; with_reducible assumption) | exact Below.refl _ _ | assumption | (apply btrans0; rotate_left; assumption) | (apply btrans; rotate_left; assumption) | (simp; done) | omega | (simp; omega)))⟩
          · unfold bunC
            rw [HP.out, HT.out, hp]
            rfl
          · rw [HB.out]
            have h1 := RBlks.of_own hown
            rw [List.take_length] at h1
            refine RBlksD.new_ h1 (L := w.heap.size + 1 + 1 + 1) (fun a n' c' e => by injection e with e; subst e; exact (hown.lt a.block rfl).1) (fun q o hq _ => ?_) (by omega) (by simp)
            simp (disch := (simp; omega)) only [World.cell?_setCell_far]
  have ZF := Lib.hid zf
  have hPt : ∀ x, P x = true := fun x => by rw [HPd.out]; simp [zf]
  have HPt := Lib.hid hPt
  have zf' : (f == 0) = true := beq_iff_eq.2 zf
  clear zf hPt
  by_cases z : b.tot = 0
  · have Z := Lib.hid z
    have z' : (b.tot == 0) = true := beq_iff_eq.2 z
    have hT : T = (b.payload.length : Int) := by rw [HTd.out, if_pos z]
    clear z
    subst hT
    go_enter Try.func35, Try.ntmps35
    simp only [bunC]
    go_wp2
    go_loopw [8] (fun c wr => ∃ (k n vc : Nat) (va : Option Addr), k ≤ b.blocks.length ∧ c = .int .i64 k ∧ n ≤ k ∧ Hid (wr.heap[w.heap.size + 1 + 1]? = some (.cells (outC b f (b.payload.length : Int) va n vc p) 28 (0, 0))) ∧
      Hid (wr.heap[w.heap.size]? = some (.cells (bunC b (.slice ua b.blocks.length uc)).toArray 28 (0, 0))) ∧ Hid (wr.heap[w.heap.size + 1]? = some (.cells bun0 28 (0, 0))) ∧
      wr.ownsRow (w.heap.size + 1 + 1 + 1) 40 3 (.slice va n vc) n (((b.blocks.take k).filter P).flatMap blkC) ∧ Below w.heap.size w wr ∧ w.heap.size + 1 + 1 + 1 < wr.heap.size) (fun c _ => b.blocks.length - (intOf c).toNat)
    case atStart =>
      refine ⟨0, 0, 0, some ⟨w.heap.size + 1 + 1 + 1, 0, none⟩, Nat.zero_le _, rfl, Nat.le_refl _, Lib.hid ?_, Lib.hid ?_, Lib.hid ?_, ?_, (by repeat' (first | (with_reducible refine bset ?_ ?_) | (with_reducible exact Below.refl _ _) | (with_reducible assumption) | (with_reducible refine bdrewN ?_ _) | (with_reducible refine bdrew ?_) | (with_reducible refine balloc0 ?_) | (with_reducible refine balloc ?_ ?_) | (with_reducible apply btrans0; rotate_left; with_reducible assumption) | (with_reducible apply btrans; rotate_left; with_reducible assumption) | exact Below.refl _ _ | assumption | (apply btrans0; rotate_left; assumption) | (apply btrans; rotate_left; assumption) | (simp; done) | omega | (simp; omega))), by simp⟩
      · exact (by repeat (first | exact heap_new' (by first | rfl | (simp; done)) | refine (Below.heap_alloc _ _ _ (by first | (simp; done) | (simp; omega))).trans ?_))
      · exact (by repeat (first | exact heap_new' (by first | rfl | (simp; done)) | refine (Below.heap_alloc _ _ _ (by first | (simp; done) | (simp; omega))).trans ?_))
      · exact (by repeat (first | exact heap_new' (by first | rfl | (simp; done)) | refine (Below.heap_alloc _ _ _ (by first | (simp; done) | (simp; omega))).trans ?_))
      · exact ownsRow_new (by simp) (Nat.le_refl _)
    case round =>
      obtain ⟨k, n, vc, va, hk, rfl, hn, H7, H3, H6, hown, hB, hsz⟩ := hrel
      have h7 : wr.cell? ⟨w.heap.size + 1 + 1, 10, none⟩ = some (.slice va n vc) := cellB H7.out 10
      have h3' : wr.cell? ⟨w.heap.size, 10, none⟩ = some (.slice ua b.blocks.length uc) := cellB H3.out 10
      have hs0 : w.heap.size < wr.heap.size := by omega
      have hs1 : w.heap.size + 1 < wr.heap.size := by omega
      have hs2 : w.heap.size + 1 + 1 < wr.heap.size := by omega
      by_cases hlt : k < b.blocks.length
      · obtain ⟨bb, o, rfl, hbn, hcell⟩ := HCL.out (by omega)
        obtain ⟨x, hx⟩ : ∃ x, b.blocks[k]? = some x := ⟨_, List.getElem?_eq_getElem hlt⟩
        obtain ⟨c1, c2, c3⟩ := (hcell k x hx).keep (fun o => hB.cell (p := ⟨bb, o, none⟩) (by show bb < _; omega))
        have hbr : bb < wr.heap.size := by omega
        have HX := Lib.hid hx
        have k1 : (k : Int) < (b.blocks.length : Int) := by omega
        clear hcell hx
        go_wp2
        refine wp_region_plan (fun W => W.cell? ⟨w.heap.size + 1 + 1, 10, none⟩ = some (.slice va n vc) ∧ W.cell? ⟨w.heap.size, 10, none⟩ = some (.slice (some ⟨bb, o, none⟩) b.blocks.length uc) ∧ W.cell? ⟨bb, o + k * 3, none⟩ = some (.int .i64 x.kind) ∧ W.cell? ⟨bb, o + k * 3 + 1, none⟩ = some (.int .i64 x.flags) ∧ W.cell? ⟨bb, o + k * 3 + 2, none⟩ = some (.string (B x.data))) [0, 1, 0, 1, 0, 0, 1, 2, 3, 0, 3] [0, 1, 2, 3, 4, 5, 6, 7, 8, 9, 10] (by kernel_rfl) (by kernel_rfl) ?_ ?_
        · go_simp
        (iterate 7 (refine plan_held rfl (by decide) (by rfl) (fun w1 hS => by (try (have hS := hS rfl; obtain hS := hS; repeat (obtain ⟨_, hS⟩ := hS))); go_simp; rfl) ?_; simp only [Act.put, List.setIfInBounds_toArray, List.set_cons_zero, List.set_cons_succ]))
        (refine plan_keep rfl rfl (by rfl) (fun K hK => ?_); go_simp)
        (refine hK _ _ (by go_simp) ?_; clear hK K; (try simp only [Act.put, List.setIfInBounds_toArray, List.set_cons_zero, List.set_cons_succ]))
        have hownW : ∀ W : World, W.heap = (wr.alloc (.cells #[.int .i64 x.kind, .int .i64 x.flags, .string (B x.data)] 40)).heap → W.ownsRow (w.heap.size + 1 + 1 + 1) 40 3 (.slice va n vc) n (((b.blocks.take k).filter P).flatMap blkC) := fun W hW => by
          unfold World.ownsRow; rw [hW]; exact hown.alloc _
        have hnew : ∀ W : World, W.heap = (wr.alloc (.cells #[.int .i64 x.kind, .int .i64 x.flags, .string (B x.data)] 40)).heap → W.heap[wr.heap.size]? = some (.cells (blkC x).toArray 40 (0, 0)) := fun W hW => by
          rw [hW]; exact heap_new
        refine plan_late rfl rfl (by rfl) (fun K hK => ?_)
        refine wp_append_lies _ _ _ _ rfl (w.heap.size + 1 + 1 + 1) 40 i0 _ 3 32 Try.underlying26 hin hz0 hz1 hz2 rfl (by omega) (.slice va n vc) n _ (by rfl) (hownW _ rfl) ⟨wr.heap.size, 0, none⟩ 1 1 (blkC x) (by rfl) rfl (news_one (hnew _ rfl)) (blkC_one x) (by omega) (by simp only [maxLen]; omega) (by omega) (by simp; omega) (wr.heap.size + 1) (by simp) ?_
        intro g cap w1 hown1 hg1 hat hlt1
        have hvb : ∀ q, (Value.slice va n vc).ownBlock = some q → w.heap.size + 1 + 1 + 1 ≤ q := fun q hq => (hown.lt q hq).1
        have hkeep : ∀ q, q < w.heap.size + 1 + 1 + 1 → w1.heap[q]? = wr.heap[q]? := fun q hq => (hg1.block q (by simp; omega) (fun e => by have := hvb q e.symm; omega)).trans (Below.heap_alloc _ _ _ (by omega))
        have g7 : w1.heap[w.heap.size + 1 + 1]? = _ := (hkeep _ (by omega)).trans H7.out
        have g3 : w1.heap[w.heap.size]? = _ := (hkeep _ (by omega)).trans H3.out
        have g6 : w1.heap[w.heap.size + 1]? = _ := (hkeep _ (by omega)).trans H6.out
        have G7 := Lib.hid g7
        have G3 := Lib.hid g3
        have G6 := Lib.hid g6
        have c7 := cellB g7 10
        have f7 := frozenB g7 10
        simp only [outC] at c7
        have hBw : Below w.heap.size w w1 := (bdrew (balloc hB (by omega))).grown hg1 (by simp; omega) (fun q hq => by have := hvb q hq; omega)
        have HO := Lib.hid hown1
        have hsz1 : w.heap.size + 1 + 1 + 1 < w1.heap.size := by have := hg1.size; simp at this; omega
        clear g7 g3 g6 hkeep hvb hown1 hg1 hownW hnew
        refine hK _ _ ?_
        clear hK K
        simp only [Act.put, List.setIfInBounds_toArray, List.set_cons_zero, List.set_cons_succ]
        (iterate 1 (refine plan_held rfl (by decide) (by rfl) (fun w1 hS => by (try (have hS := hS rfl; obtain hS := hS; repeat (obtain ⟨_, hS⟩ := hS))); go_simp; rfl) ?_; simp only [Act.put, List.setIfInBounds_toArray, List.set_cons_zero, List.set_cons_succ]))
        (refine plan_late rfl rfl (by rfl) (fun K hK => ?_); go_simp)
        (refine hK _ _ ?_; clear hK K; (try simp only [Act.put, List.setIfInBounds_toArray, List.set_cons_zero, List.set_cons_succ]))
        refine plan_done ?_
        go_wp2
        go_roundw
        case rel =>
          refine ⟨k + 1, n + 1, cap, some ⟨g, 0, none⟩, by omega, by go_num, by omega, Lib.hid (by simpa [outC] using setB G7.out 10 _), Lib.hid ?_, Lib.hid ?_, ?_, (by repeat' (first | (with_reducible refine bset ?_ ?_) | (with_reducible exact Below.refl _ _) | (with_reducible assumption) | (with_reducible refine bdrewN ?_ _) | (with_reducible refine bdrew ?_) | (with_reducible refine balloc0 ?_) | (with_reducible refine balloc ?_ ?_) | (with_reducible apply btrans0; rotate_left; with_reducible assumption) | (with_reducible apply btrans; rotate_left; with_reducible assumption) | exact Below.refl _ _ | assumption | (apply btrans0; rotate_left; assumption) | (apply btrans; rotate_left; assumption) | (simp; done) | omega | (simp; omega))), by simp; omega⟩
          · rw [Below.heap_setCell _ _ _ _ (by first | (simp; done) | (simp; omega))]; exact G3.out
          · rw [Below.heap_setCell _ _ _ _ (by first | (simp; done) | (simp; omega))]; exact G6.out
          · rw [flat_snoc HX.out (HPt.out x)]
            exact own_keep HO.out fun q hq => Below.heap_setCell _ _ _ _ (by simp; omega)
        case measure => simp [intOf]; omega
      · obtain rfl : k = b.blocks.length := by omega
        have a7 := fun o => cellB H7.out o
        have a6 := fun o => cellB H6.out o
        have f6 := fun o => frozenB H6.out o
        simp only [outC] at a7
        simp only [bun0] at a6
        go_wp2
        refine bodyPost_ret (v := .agg #[.int .i64 b.src, .int .i64 b.crt, .int .i64 b.seq, .int .i64 f, .int .i64 (b.payload.length : Int), .int .i64 b.dk, .int .i64 b.dn, .int .i64 b.life, .int .i64 b.prio, .int .i64 b.flags, .slice va n vc, .string (B p)]) (by simp [results, Try.results35, go_sem, World.cell?_setCell_same', a6]) rfl ?_
        have hl2 : n = (b.blocks.filter P).length := by have := hown.1; rw [flat_len blkC 3 blkC_len, List.take_length] at this; omega
        refine ⟨.slice va n vc, ?_, ?_, (by repeat' (first | (with_reducible refine bset ?_ ?_) | (with_reducible exact Below.refl _ _) | (with_reducible assumption) | (with_reducible refine bdrewN ?_ _) | (with_reducible refine bdrew ?_) | (with_reducible refine balloc0 ?_) | (with_reducible refine balloc ?_ ?_) | (with_reducible apply btrans0; rotate_left; with_reducible assumption) | (with_reducible apply btrans; rotate_left; with_reducible assumption) | exact Below.refl _ _ | assumption | (apply btrans0; rotate_left; assumption) | (apply btrans; rotate_left; assumption) | (simp; done) | omega | (simp; omega)))⟩
        · unfold bunC
          rw [HP.out, HT.out, hp]
          rfl
        · rw [HB.out]
          have h1 := RBlks.of_own hown
          rw [List.take_length] at h1
          refine RBlksD.new_ h1 (L := w.heap.size + 1 + 1 + 1) (fun a n' c' e => by injection e with e; subst e; exact (hown.lt a.block rfl).1) (fun q o hq _ => ?_) (by omega) (by simp)
          simp (disch := (simp; omega)) only [World.cell?_setCell_far]
  · have Z := Lib.hid z
    have z' : (b.tot == 0) = false := beq_eq_false_iff_ne.2 z
    have hT : T = b.tot := by rw [HTd.out, if_neg z]
    clear z
    subst hT
    go_enter Try.func35, Try.ntmps35
    simp only [bunC]
    go_wp2
    go_loopw [8] (fun c wr => ∃ (k n vc : Nat) (va : Option Addr), k ≤ b.blocks.length ∧ c = .int .i64 k ∧ n ≤ k ∧ Hid (wr.heap[w.heap.size + 1 + 1]? = some (.cells (outC b f b.tot va n vc p) 28 (0, 0))) ∧
      Hid (wr.heap[w.heap.size]? = some (.cells (bunC b (.slice ua b.blocks.length uc)).toArray 28 (0, 0))) ∧ Hid (wr.heap[w.heap.size + 1]? = some (.cells bun0 28 (0, 0))) ∧
      wr.ownsRow (w.heap.size + 1 + 1 + 1) 40 3 (.slice va n vc) n (((b.blocks.take k).filter P).flatMap blkC) ∧ Below w.heap.size w wr ∧ w.heap.size + 1 + 1 + 1 < wr.heap.size) (fun c _ => b.blocks.length - (intOf c).toNat)
    case atStart =>
      refine ⟨0, 0, 0, some ⟨w.heap.size + 1 + 1 + 1, 0, none⟩, Nat.zero_le _, rfl, Nat.le_refl _, Lib.hid ?_, Lib.hid ?_, Lib.hid ?_, ?_, (by repeat' (first | (with_reducible refine bset ?_ ?_) | (with_reducible exact Below.refl _ _) | (with_reducible assumption) | (with_reducible refine bdrewN ?_ _) | (with_reducible refine bdrew ?_) | (with_reducible refine balloc0 ?_) | (with_reducible refine balloc ?_ ?_) | (with_reducible apply btrans0; rotate_left; with_reducible assumption) | (with_reducible apply btrans; rotate_left; with_reducible assumption) | exact Below.refl _ _ | assumption | (apply btrans0; rotate_left; assumption) | (apply btrans; rotate_left; assumption) | (simp; done) | omega | (simp; omega))), by simp⟩
      · exact (by repeat (first | exact heap_new' (by first | rfl | (simp; done)) | refine (Below.heap_alloc _ _ _ (by first | (simp; done) | (simp; omega))).trans ?_))
      · exact (by repeat (first | exact heap_new' (by first | rfl | (simp; done)) | refine (Below.heap_alloc _ _ _ (by first | (simp; done) | (simp; omega))).trans ?_))
      · exact (by repeat (first | exact heap_new' (by first | rfl | (simp; done)) | refine (Below.heap_alloc _ _ _ (by first | (simp; done) | (simp; omega))).trans ?_))
      · exact ownsRow_new (by simp) (Nat.le_refl _)
    case round =>
      obtain ⟨k, n, vc, va, hk, rfl, hn, H7, H3, H6, hown, hB, hsz⟩ := hrel
      have h7 : wr.cell? ⟨w.heap.size + 1 + 1, 10, none⟩ = some (.slice va n vc) := cellB H7.out 10
      have h3' : wr.cell? ⟨w.heap.size, 10, none⟩ = some (.slice ua b.blocks.length uc) := cellB H3.out 10
      have hs0 : w.heap.size < wr.heap.size := by omega
      have hs1 : w.heap.size + 1 < wr.heap.size := by omega
      have hs2 : w.heap.size + 1 + 1 < wr.heap.size := by omega
      by_cases hlt : k < b.blocks.length
      · obtain ⟨bb, o, rfl, hbn, hcell⟩ := HCL.out (by omega)
        obtain ⟨x, hx⟩ : ∃ x, b.blocks[k]? = some x := ⟨_, List.getElem?_eq_getElem hlt⟩
        obtain ⟨c1, c2, c3⟩ := (hcell k x hx).keep (fun o => hB.cell (p := ⟨bb, o, none⟩) (by show bb < _; omega))
        have hbr : bb < wr.heap.size := by omega
        have HX := Lib.hid hx
        have k1 : (k : Int) < (b.blocks.length : Int) := by omega
        clear hcell hx
        go_wp2
        refine wp_region_plan (fun W => W.cell? ⟨w.heap.size + 1 + 1, 10, none⟩ = some (.slice va n vc) ∧ W.cell? ⟨w.heap.size, 10, none⟩ = some (.slice (some ⟨bb, o, none⟩) b.blocks.length uc) ∧ W.cell? ⟨bb, o + k * 3, none⟩ = some (.int .i64 x.kind) ∧ W.cell? ⟨bb, o + k * 3 + 1, none⟩ = some (.int .i64 x.flags) ∧ W.cell? ⟨bb, o + k * 3 + 2, none⟩ = some (.string (B x.data))) [0, 1, 0, 1, 0, 0, 1, 2, 3, 0, 3] [0, 1, 2, 3, 4, 5, 6, 7, 8, 9, 10] (by kernel_rfl) (by kernel_rfl) ?_ ?_
        · go_simp
        (iterate 7 (refine plan_held rfl (by decide) (by rfl) (fun w1 hS => by (try (have hS := hS rfl; obtain hS := hS; repeat (obtain ⟨_, hS⟩ := hS))); go_simp; rfl) ?_; simp only [Act.put, List.setIfInBounds_toArray, List.set_cons_zero, List.set_cons_succ]))
        (refine plan_keep rfl rfl (by rfl) (fun K hK => ?_); go_simp)
        (refine hK _ _ (by go_simp) ?_; clear hK K; (try simp only [Act.put, List.setIfInBounds_toArray, List.set_cons_zero, List.set_cons_succ]))
        have hownW : ∀ W : World, W.heap = (wr.alloc (.cells #[.int .i64 x.kind, .int .i64 x.flags, .string (B x.data)] 40)).heap → W.ownsRow (w.heap.size + 1 + 1 + 1) 40 3 (.slice va n vc) n (((b.blocks.take k).filter P).flatMap blkC) := fun W hW => by
          unfold World.ownsRow; rw [hW]; exact hown.alloc _
        have hnew : ∀ W : World, W.heap = (wr.alloc (.cells #[.int .i64 x.kind, .int .i64 x.flags, .string (B x.data)] 40)).heap → W.heap[wr.heap.size]? = some (.cells (blkC x).toArray 40 (0, 0)) := fun W hW => by
          rw [hW]; exact heap_new
        refine plan_late rfl rfl (by rfl) (fun K hK => ?_)
        refine wp_append_lies _ _ _ _ rfl (w.heap.size + 1 + 1 + 1) 40 i0 _ 3 32 Try.underlying26 hin hz0 hz1 hz2 rfl (by omega) (.slice va n vc) n _ (by rfl) (hownW _ rfl) ⟨wr.heap.size, 0, none⟩ 1 1 (blkC x) (by rfl) rfl (news_one (hnew _ rfl)) (blkC_one x) (by omega) (by simp only [maxLen]; omega) (by omega) (by simp; omega) (wr.heap.size + 1) (by simp) ?_
        intro g cap w1 hown1 hg1 hat hlt1
        have hvb : ∀ q, (Value.slice va n vc).ownBlock = some q → w.heap.size + 1 + 1 + 1 ≤ q := fun q hq => (hown.lt q hq).1
        have hkeep : ∀ q, q < w.heap.size + 1 + 1 + 1 → w1.heap[q]? = wr.heap[q]? := fun q hq => (hg1.block q (by simp; omega) (fun e => by have := hvb q e.symm; omega)).trans (Below.heap_alloc _ _ _ (by omega))
        have g7 : w1.heap[w.heap.size + 1 + 1]? = _ := (hkeep _ (by omega)).trans H7.out
        have g3 : w1.heap[w.heap.size]? = _ := (hkeep _ (by omega)).trans H3.out
        have g6 : w1.heap[w.heap.size + 1]? = _ := (hkeep _ (by omega)).trans H6.out
        have G7 := Lib.hid g7
        have G3 := Lib.hid g3
        have G6 := Lib.hid g6
        have c7 := cellB g7 10
        have f7 := frozenB g7 10
        simp only [outC] at c7
        have hBw : Below w.heap.size w w1 := (bdrew (balloc hB (by omega))).grown hg1 (by simp; omega) (fun q hq => by have := hvb q hq; omega)
        have HO := Lib.hid hown1
        have hsz1 : w.heap.size + 1 + 1 + 1 < w1.heap.size := by have := hg1.size; simp at this; omega
        clear g7 g3 g6 hkeep hvb hown1 hg1 hownW hnew
        refine hK _ _ ?_
        clear hK K
        simp only [Act.put, List.setIfInBounds_toArray, List.set_cons_zero, List.set_cons_succ]
        (iterate 1 (refine plan_held rfl (by decide) (by rfl) (fun w1 hS => by (try (have hS := hS rfl; obtain hS := hS; repeat (obtain ⟨_, hS⟩ := hS))); go_simp; rfl) ?_; simp only [Act.put, List.setIfInBounds_toArray, List.set_cons_zero, List.set_cons_succ]))
        (refine plan_late rfl rfl (by rfl) (fun K hK => ?_); go_simp)
        (refine hK _ _ ?_; clear hK K; (try simp only [Act.put, List.setIfInBounds_toArray, List.set_cons_zero, List.set_cons_succ]))
        refine plan_done ?_
        go_wp2
        go_roundw
        case rel =>
          refine ⟨k + 1, n + 1, cap, some ⟨g, 0, none⟩, by omega, by go_num, by omega, Lib.hid (by simpa [outC] using setB G7.out 10 _), Lib.hid ?_, Lib.hid ?_, ?_, (by repeat' (first | (with_reducible refine bset ?_ ?_) | (with_reducible exact Below.refl _ _) | (with_reducible assumption) | (with_reducible refine bdrewN ?_ _) | (with_reducible refine bdrew ?_) | (with_reducible refine balloc0 ?_) | (with_reducible refine balloc ?_ ?_) | (with_reducible apply btrans0; rotate_left; with_reducible assumption) | (with_reducible apply btrans; rotate_left; with_reducible assumption) | exact Below.refl _ _ | assumption | (apply btrans0; rotate_left; assumption) | (apply btrans; rotate_left; assumption) | (simp; done) | omega | (simp; omega))), by simp; omega⟩
          · rw [Below.heap_setCell _ _ _ _ (by first | (simp; done) | (simp; omega))]; exact G3.out
          · rw [Below.heap_setCell _ _ _ _ (by first | (simp; done) | (simp; omega))]; exact G6.out
          · rw [flat_snoc HX.out (HPt.out x)]
            exact own_keep HO.out fun q hq => Below.heap_setCell _ _ _ _ (by simp; omega)
        case measure => simp [intOf]; omega
      · obtain rfl : k = b.blocks.length := by omega
        have a7 := fun o => cellB H7.out o
        have a6 := fun o => cellB H6.out o
        have f6 := fun o => frozenB H6.out o
        simp only [outC] at a7
        simp only [bun0] at a6
        go_wp2
        refine bodyPost_ret (v := .agg #[.int .i64 b.src, .int .i64 b.crt, .int .i64 b.seq, .int .i64 f, .int .i64 b.tot, .int .i64 b.dk, .int .i64 b.dn, .int .i64 b.life, .int .i64 b.prio, .int .i64 b.flags, .slice va n vc, .string (B p)]) (by simp [results, Try.results35, go_sem, World.cell?_setCell_same', a6]) rfl ?_
        have hl2 : n = (b.blocks.filter P).length := by have := hown.1; rw [flat_len blkC 3 blkC_len, List.take_length] at this; omega
        refine ⟨.slice va n vc, ?_, ?_, (by repeat' (first | (with_reducible refine bset ?_ ?_) | (with_reducible exact Below.refl _ _) | (with_reducible assumption) | (with_reducible refine bdrewN ?_ _) | (with_reducible refine bdrew ?_) | (with_reducible refine balloc0 ?_) | (with_reducible refine balloc ?_ ?_) | (with_reducible apply btrans0; rotate_left; with_reducible assumption) | (with_reducible apply btrans; rotate_left; with_reducible assumption) | exact Below.refl _ _ | assumption | (apply btrans0; rotate_left; assumption) | (apply btrans; rotate_left; assumption) | (simp; done) | omega | (simp; omega)))⟩
        · unfold bunC
          rw [HP.out, HT.out, hp]
          rfl
        · rw [HB.out]
          have h1 := RBlks.of_own hown
          rw [List.take_length] at h1
          refine RBlksD.new_ h1 (L := w.heap.size + 1 + 1 + 1) (fun a n' c' e => by injection e with e; subst e; exact (hown.lt a.block rfl).1) (fun q o hq _ => ?_) (by omega) (by simp)
          simp (disch := (simp; omega)) only [World.cell?_setCell_far]
end Go.Proofs.Ytibfchdhppdccaa

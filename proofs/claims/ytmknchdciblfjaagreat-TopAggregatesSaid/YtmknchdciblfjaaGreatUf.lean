/- Joined by port.py: XUf -/
import Derived.BigQuiet
import Derived.BigRegion
import Derived.Deep.DeepCutAuto
import Derived.Deep.CutBlock
import Derived.Test.YtmknchdciblfjaaGreatSn
import Derived.Test.YtmknchdciblfjaaGreatSy
import Derived.Test.YtmknchdciblfjaaGreatUaz
import Derived.Test.YtmknchdciblfjaaGreatJt
import Derived.Test.YtmknchdciblfjaaGreatJa
import Derived.Test.YtmknchdciblfjaaGreatJb
import Derived.Test.YtmknchdciblfjaaGreatJc
import Derived.Test.YtmknchdciblfjaaGreatJe
import Derived.Test.YtmknchdciblfjaaGreatJh
import Derived.Test.YtmknchdciblfjaaGreatJm
import Derived.Test.YtmknchdciblfjaaGreatJo
import Derived.Test.YtmknchdciblfjaaGreatJs
import Derived.Test.YtmknchdciblfjaaGreatJp
import Derived.Test.YtmknchdciblfjaaGreatKaz
import Derived.Test.YtmknchdciblfjaaGreatJw
import Derived.Test.YtmknchdciblfjaaGreatKd
import Derived.Test.YtmknchdciblfjaaGreatKe
import Derived.Test.YtmknchdciblfjaaGreatSb
import Derived.Test.YtmknchdciblfjaaGreatSz
import Derived.Test.YtmknchdciblfjaaGreatSh
import Derived.Test.YtmknchdciblfjaaGreatSi
import Derived.Test.YtmknchdciblfjaaGreatSm
import Derived.Test.YtmknchdciblfjaaGreatRT
set_option linter.unusedVariables false
set_option linter.unusedSimpArgs false
/-! XUf -/
namespace Go.Proofs.YtmknchdciblfjaaGreat
open Go Go.RowKit Iv
attribute [local go_sem] Oper.semAt_some
attribute [local go_sem] B_getElem B_size B_app B_extract B_get B_toList
/-- a bundle and an error -/
def AllPost (r : Bun × Int) (w : World) (e : Ending) (w' : World) : Prop := ∃ u, e = .returned (.tuple #[.agg (bunC r.1 u).toArray, .int .i64 r.2]) ∧ RBlks w' w'.heap.size u r.1.blocks ∧ Below w.heap.size w w'
theorem addAll_at {r : List Bun} {k : Nat} {x : Bun} {p : Par} (h : r[k]? = some x) : addAll (r.drop k) (p, 0) = addAll (r.drop (k + 1)) (addP p x) := by
  have hk : k < r.length := (List.getElem?_eq_some_iff.1 h).1
  rw [List.drop_eq_getElem_cons hk]
  rw [List.getElem?_eq_getElem hk] at h
  rw [Option.some.inj h]
  conv => lhs; unfold addAll
  exact if_neg (by simp)
theorem addAll_stop : ∀ {r : List Bun} {p : Par} {E : Int}, E ≠ 0 → addAll r (p, E) = (p, E)
  | [], p, E, h => rfl
  | x :: r, p, E, h => by unfold addAll; rw [if_pos h]
theorem allP_bad {b : Bun} {r : List Bun} {p : Par} {E : Int} (h : addAll r (newP b) = (p, E)) (hE : E ≠ 0) : allP (b :: r) = (zBun, E) := by
  show (if (addAll r (newP b)).2 ≠ 0 then (zBun, (addAll r (newP b)).2) else resP (addAll r (newP b)).1) = _
  rw [h, if_pos hE]
theorem allP_good {b : Bun} {r : List Bun} {p : Par} (h : addAll r (newP b) = (p, 0)) : allP (b :: r) = resP p := by
  show (if (addAll r (newP b)).2 ≠ 0 then (zBun, (addAll r (newP b)).2) else resP (addAll r (newP b)).1) = _
  rw [h, if_neg (by simp)]
theorem RBlksD.of_eq {w w' : World} {D D' : Nat → Prop} {N : Nat} {v : Value} {l m : List Blk} (h : RBlks w' N v m) (hd : RBlksD w D v l) (k : ∀ b, D b → D' b) : RBlksD w' D' v m := by
  obtain ⟨a, c, e, h1, h2, h3, h4⟩ := h
  obtain ⟨a', c', e', _, _, _, h4'⟩ := hd
  subst e
  injection e' with e1 e2 e3
  have hl : m.length = l.length := by simpa using e2
  refine ⟨a, c, rfl, h1, h2, h3, fun hp => ?_⟩
  obtain ⟨b, o, rfl, _, hc⟩ := h4 hp
  obtain ⟨b', o', e4, hD, _⟩ := h4' (by omega)
  rw [← e1] at e4
  cases e4
  exact ⟨b, o, rfl, k _ hD, hc⟩
theorem rblks_nil_eq {w : World} {N n c : Nat} {a : Option Addr} {m : List Blk} (h : RBlks w N (.slice none 0 0) m) : m = [] := by
  obtain ⟨a, c, e, _⟩ := h
  injection e with e1 e2 e3
  exact List.eq_nil_of_length_eq_zero (by simpa using e2.symm)
theorem rblks_pick {w w' : World} {D : Nat → Prop} {N : Nat} {v u1 u2 : Value} {m l1 l2 : List Blk} (h : v = .slice none 0 0 ∨ v = u1 ∨ v = u2) (hr : RBlks w' N v m) (h1 : RBlksD w D u1 l1) (h2 : RBlksD w D u2 l2) : RBlksD w' D v m := by
  rcases h with rfl | rfl | rfl
  · have := rblks_nil_eq (n := 0) (c := 0) (a := none) hr
    subst this
    exact RBlksD.nil _ _
  · exact RBlksD.of_eq hr h1 (fun _ h => h)
  · exact RBlksD.of_eq hr h2 (fun _ h => h)
/-- a row that does not lie in the block g -/
def RNe (g : Nat) (v : Value) : Prop := ∀ a n c, v = .slice (some a) n c → a.block ≠ g
theorem RNe.from {g L : Nat} {v : Value} (h : RFrom L v) (k : g < L) : RNe g v := fun a n c e => by have := h a n c e; omega
theorem RNe.bnd {g N : Nat} {w : World} {v : Value} {l : List Sp} (h : RSps w N v l) (k : N ≤ g) (hl : 0 < l.length) : RNe g v := fun a n c e => by
  obtain ⟨a', c', e', _, _, _, h4⟩ := h
  obtain ⟨b, o, rfl, hb, _⟩ := h4 hl
  rw [e'] at e
  injection e with e1 _ _
  injection e1 with e1
  subst e1
  show b ≠ g
  omega
theorem RSps.keepNe {w w' : World} {M M' g : Nat} {v : Value} {l : List Sp} (h : RSps w M v l) (hv : RNe g v) (k : ∀ b, b ≠ g → w'.heap[b]? = w.heap[b]?) (hM : M ≤ M') : RSps w' M' v l := by
  obtain ⟨a, c, rfl, h1, h2, h3, h4⟩ := h
  refine ⟨a, c, rfl, h1, h2, h3, fun hp => ?_⟩
  obtain ⟨b, o, rfl, hb, hc⟩ := h4 hp
  exact ⟨b, o, rfl, by omega, fun j u hu => (World.cell?_of_block (k b (hv _ _ _ rfl))).trans (hc j u hu)⟩
def AllD (z g : Nat) (b : Nat) : Prop := b ≠ z ∧ b < g
def AllI (w wr : World) (G : Nat) (p : Par) (ub uk : Value) : Prop :=
  wr.heap[G]? = some (.cells (parC p ub uk).toArray 81 (0, 0)) ∧ RBlksD wr (AllD w.heap.size G) ub p.head.blocks ∧ RSps wr wr.heap.size uk p.known ∧ (RNe G uk ∨ p.known = []) ∧ (Fits p.head ∧ p.data.length ≤ maxLen) ∧ wr.heap[w.heap.size]? = some (.cells #[.int .i64 0, .int .i64 0, .int .i64 0, .int .i64 0, .int .i64 0, .int .i64 0, .int .i64 0, .int .i64 0, .int .i64 0, .int .i64 0, .slice none 0 0, .string ⟨#[]⟩] 32 (0, 0)) ∧ w.heap.size < G ∧ Below w.heap.size w wr
theorem AllI.bel {w wr : World} {G : Nat} {p : Par} {ub uk : Value} (h : AllI w wr G p ub uk) : Below w.heap.size w wr := h.2.2.2.2.2.2.2
theorem AllI.step {w wr w' W : World} {G : Nat} {p p' : Par} {ub uk ub' uk' : Value} (h : AllI w wr G p ub uk) (hb : Below wr.heap.size wr w') (hR : RBlksD w' (AllD w.heap.size G) ub' p'.head.blocks) (hK : RSps w' w'.heap.size uk' p'.known) (hN : RNe G uk') (hF : Fits p'.head ∧ p'.data.length ≤ maxLen)
    (hW : W.heap[G]? = some (.cells (parC p' ub' uk').toArray 81 (0, 0))) (hbW : ∀ B, B ≤ G → Below B w' W) (hsW : W.heap.size = w'.heap.size) (hoW : ∀ q, q ≠ G → W.heap[q]? = w'.heap[q]?) : AllI w W G p' ub' uk' := by
  obtain ⟨h1, h2, h3, h4, h5, h6, h7, h8⟩ := h
  have hG : G < wr.heap.size := (Array.getElem?_eq_some_iff.1 h1).1
  refine ⟨hW, hR.keep (fun b o hD => World.cell?_of_block (hoW b (by have := hD.2; omega))) (fun _ h => h), hK.keepNe hN hoW (by omega), .inl hN, hF, ?_, h7, ?_⟩
  · exact (hoW _ (by omega)).trans ((hb.block _ (by omega)).trans h6)
  · exact (btrans0 h8 hb).trans (hbW _ (by omega))
set_option maxRecDepth 100000 in
set_option maxHeartbeats 32000000 in
theorem all_any (l : List Bun) (u : Value) (w : World) (h : RBuns w w.heap.size u l) (hf : ∀ b ∈ l, Fits b) :
    Calls Tryz.prog 8 #[u] w (AllPost (allP l) w) := by
  cases l with
  | nil =>
    obtain ⟨a, c, rfl, _⟩ := h
    have hb0 : Below w.heap.size w w := Below.refl _ _
    simp only [List.length_nil]
    go_enter Tryz.func8, Tryz.ntmps8
    go_upto_region 1 with fail
    obtain ⟨w1, hw1⟩ : ∃ q, w.alloc (.cells #[.int .i64 0, .int .i64 0, .int .i64 0, .int .i64 0, .int .i64 0, .int .i64 0, .int .i64 0, .int .i64 0, .int .i64 0, .int .i64 0, .slice none 0 0, .string ⟨#[]⟩] 32 (0, 0)) = q := ⟨_, rfl⟩
    rw [hw1]
    have b1 : Below w.heap.size w w1 := by rw [← hw1]; exact belowA
    have z1 : w.heap.size < w1.heap.size := by rw [← hw1]; simp
    have R1 : Hid (w1.heap[w.heap.size]? = some (.cells #[.int .i64 0, .int .i64 0, .int .i64 0, .int .i64 0, .int .i64 0, .int .i64 0, .int .i64 0, .int .i64 0, .int .i64 0, .int .i64 0, .slice none 0 0, .string ⟨#[]⟩] 32 (0, 0))) := Lib.hid (by rw [← hw1]; exact heap_new)
    clear hw1
    have cr := fun o => cellB R1.out o
    have fr := fun o => frozenB R1.out o
    go_wp2
    refine bodyPost_ret (v := .tuple #[.agg #[.int .i64 0, .int .i64 0, .int .i64 0, .int .i64 0, .int .i64 0, .int .i64 0, .int .i64 0, .int .i64 0, .int .i64 0, .int .i64 0, .slice none 0 0, .string ⟨#[]⟩], .int .i64 20]) (by simp [results, Tryz.results8, go_sem, World.cell?_setCell_same', cr, z1]) rfl ?_
    exact ⟨_, rfl, RBlks.nil _ _, belowA⟩
  | cons b r =>
    obtain ⟨a, c, rfl, h1, h2, h3, h4⟩ := h
    obtain ⟨bb, o, rfl, hbn, hcell⟩ := h4 (by simp)
    unfold maxLen at h2
    obtain ⟨n, hn⟩ : ∃ q, (b :: r).length = q := ⟨_, rfl⟩
    have hrn : r.length + 1 = n := by rw [← hn]; simp
    rw [hn] at h1 ⊢
    clear hn h3 h4
    obtain ⟨V, hV⟩ : ∃ q, allP (b :: r) = q := ⟨_, rfl⟩
    have HVV := Lib.hid hV
    rw [hV]
    obtain ⟨FIN, hFIN⟩ : ∃ q, addAll r (newP b) = q := ⟨_, rfl⟩
    have HFIN := Lib.hid hFIN
    obtain ⟨u0, c0, r0⟩ := hcell 0 b rfl
    have HU0 := Lib.hid r0
    have HCE := Lib.hid hcell
    have HF0 := Lib.hid (hf b (by simp))
    have HFR : Hid (∀ x ∈ r, Fits x) := Lib.hid (fun x hx => hf x (by simp [hx]))
    simp only [Nat.zero_mul, Nat.add_zero] at c0
    have c0_0 : w.cell? ⟨bb, o, none⟩ = some (.int .i64 b.src) := c0 0 _ rfl
    have c0_1 : w.cell? ⟨bb, o + 1, none⟩ = some (.int .i64 b.crt) := c0 1 _ rfl
    have c0_2 : w.cell? ⟨bb, o + 2, none⟩ = some (.int .i64 b.seq) := c0 2 _ rfl
    have c0_3 : w.cell? ⟨bb, o + 3, none⟩ = some (.int .i64 b.off) := c0 3 _ rfl
    have c0_4 : w.cell? ⟨bb, o + 4, none⟩ = some (.int .i64 b.tot) := c0 4 _ rfl
    have c0_5 : w.cell? ⟨bb, o + 5, none⟩ = some (.int .i64 b.dk) := c0 5 _ rfl
    have c0_6 : w.cell? ⟨bb, o + 6, none⟩ = some (.int .i64 b.dn) := c0 6 _ rfl
    have c0_7 : w.cell? ⟨bb, o + 7, none⟩ = some (.int .i64 b.life) := c0 7 _ rfl
    have c0_8 : w.cell? ⟨bb, o + 8, none⟩ = some (.int .i64 b.prio) := c0 8 _ rfl
    have c0_9 : w.cell? ⟨bb, o + 9, none⟩ = some (.int .i64 b.flags) := c0 9 _ rfl
    have c0_10 : w.cell? ⟨bb, o + 10, none⟩ = some (u0) := c0 10 _ rfl
    have c0_11 : w.cell? ⟨bb, o + 11, none⟩ = some (.string (B b.payload)) := c0 11 _ rfl
    clear hcell c0 r0 hV hFIN hf
    obtain ⟨va, vc, rfl, -⟩ := id HU0.out
    have n0 : (0 : Int) < (n : Int) := by omega
    have n0' : 0 < n := by omega
    have n1 : ((n : Int) == 0) = false := by rw [beq_eq_false_iff_ne]; omega
    have n2 : (1 : Int) ≤ (n : Int) := by omega
    have n3 : 1 ≤ n := by omega
    have HRN := Lib.hid hrn
    clear hrn
    go_enter Tryz.func8, Tryz.ntmps8
    go_upto_region 1 with fail
    obtain ⟨w1, hw1⟩ : ∃ q, w.alloc (.cells #[.int .i64 0, .int .i64 0, .int .i64 0, .int .i64 0, .int .i64 0, .int .i64 0, .int .i64 0, .int .i64 0, .int .i64 0, .int .i64 0, .slice none 0 0, .string ⟨#[]⟩] 32 (0, 0)) = q := ⟨_, rfl⟩
    rw [hw1]
    have b1 : Below w.heap.size w w1 := by rw [← hw1]; exact belowA
    have s1 : w.heap.size < w1.heap.size := by rw [← hw1]; simp
    have R1 : Hid (w1.heap[w.heap.size]? = some (.cells #[.int .i64 0, .int .i64 0, .int .i64 0, .int .i64 0, .int .i64 0, .int .i64 0, .int .i64 0, .int .i64 0, .int .i64 0, .int .i64 0, .slice none 0 0, .string ⟨#[]⟩] 32 (0, 0))) := Lib.hid (by rw [← hw1]; exact heap_new)
    clear hw1
    have c1_0 : w1.cell? ⟨bb, o, none⟩ = some (.int .i64 b.src) := (b1.cell (p := ⟨bb, o, none⟩) hbn).trans c0_0
    have c1_1 : w1.cell? ⟨bb, o + 1, none⟩ = some (.int .i64 b.crt) := (b1.cell (p := ⟨bb, o + 1, none⟩) hbn).trans c0_1
    have c1_2 : w1.cell? ⟨bb, o + 2, none⟩ = some (.int .i64 b.seq) := (b1.cell (p := ⟨bb, o + 2, none⟩) hbn).trans c0_2
    have c1_3 : w1.cell? ⟨bb, o + 3, none⟩ = some (.int .i64 b.off) := (b1.cell (p := ⟨bb, o + 3, none⟩) hbn).trans c0_3
    have c1_4 : w1.cell? ⟨bb, o + 4, none⟩ = some (.int .i64 b.tot) := (b1.cell (p := ⟨bb, o + 4, none⟩) hbn).trans c0_4
    have c1_5 : w1.cell? ⟨bb, o + 5, none⟩ = some (.int .i64 b.dk) := (b1.cell (p := ⟨bb, o + 5, none⟩) hbn).trans c0_5
    have c1_6 : w1.cell? ⟨bb, o + 6, none⟩ = some (.int .i64 b.dn) := (b1.cell (p := ⟨bb, o + 6, none⟩) hbn).trans c0_6
    have c1_7 : w1.cell? ⟨bb, o + 7, none⟩ = some (.int .i64 b.life) := (b1.cell (p := ⟨bb, o + 7, none⟩) hbn).trans c0_7
    have c1_8 : w1.cell? ⟨bb, o + 8, none⟩ = some (.int .i64 b.prio) := (b1.cell (p := ⟨bb, o + 8, none⟩) hbn).trans c0_8
    have c1_9 : w1.cell? ⟨bb, o + 9, none⟩ = some (.int .i64 b.flags) := (b1.cell (p := ⟨bb, o + 9, none⟩) hbn).trans c0_9
    have c1_10 : w1.cell? ⟨bb, o + 10, none⟩ = some (.slice va b.blocks.length vc) := (b1.cell (p := ⟨bb, o + 10, none⟩) hbn).trans c0_10
    have c1_11 : w1.cell? ⟨bb, o + 11, none⟩ = some (.string (B b.payload)) := (b1.cell (p := ⟨bb, o + 11, none⟩) hbn).trans c0_11
    clear c0_0 c0_1 c0_2 c0_3 c0_4 c0_5 c0_6 c0_7 c0_8 c0_9 c0_10 c0_11
    obtain ⟨⟨⟨g, kn, dt⟩, E0⟩, hQ⟩ : ∃ q, newP b = q := ⟨_, rfl⟩
    have HQ := Lib.hid hQ
    go_wp2_with fail
    refine (new_any b _ w.heap.size _ (by omega) (HU0.out.below (C := w.heap.size) b1 (Nat.le_refl _) (Nat.le_refl _)) HF0.out).mono ?_
    rw [hQ]
    clear hQ
    rintro e w2 ⟨ub, uk, rfl, hrb, hk, hkf, hb2⟩
    simp only at hrb hk
    obtain ⟨ua, uc, rfl, -⟩ := id hrb
    obtain ⟨ka, kc, rfl, -⟩ := id hk
    simp only [parC, bunC, List.cons_append, List.nil_append]
    have HRB := Lib.hid hrb
    have HK := Lib.hid hk
    have b2 : Below w.heap.size w w2 := btrans0 b1 hb2
    have s2 : w.heap.size < w2.heap.size := by have := hb2.size; omega
    have R2 := Lib.hid ((hb2.block _ (by omega)).trans R1.out)
    have fit2 : Fits g ∧ dt.length ≤ maxLen := by have := newP_fits b; rw [HQ.out] at this; exact this
    have HFT := Lib.hid fit2
    have hg2 : w1.heap.size ≤ w2.heap.size := hb2.size
    clear hrb hk hb2 fit2 hkf c1_0 c1_1 c1_2 c1_3 c1_4 c1_5 c1_6 c1_7 c1_8 c1_9 c1_10 c1_11
    go_upto_region 5 with fail
    case' inl => obtain ⟨AO, hAO, hAR⟩ : ∃ q : Nat, q = o ∧ (0 < r.length → q = o + 12) := ⟨o, rfl, fun z => by have := HRN.out; omega⟩
    case' inr => obtain ⟨AO, hAO, hAR⟩ : ∃ q : Nat, q = o + 12 ∧ (0 < r.length → q = o + 12) := ⟨o + 12, rfl, fun z => rfl⟩
    all_goals
      rw [← hAO]
      have nb : n ≤ 9223372036854775807 := by omega
      clear hAO h1 h2
      as_aux_lemma =>
        obtain ⟨w3, hw3⟩ : ∃ q, w2.alloc (.cells #[.int .i64 g.src, .int .i64 g.crt, .int .i64 g.seq, .int .i64 g.off, .int .i64 g.tot, .int .i64 g.dk, .int .i64 g.dn, .int .i64 g.life, .int .i64 g.prio, .int .i64 g.flags, .slice ua g.blocks.length uc, .string (B g.payload), .slice ka kn.length kc, .string (B dt)] 81 (0, 0)) = q := ⟨_, rfl⟩
        rw [hw3]
        have HI : Hid (AllI w w3 w2.heap.size ⟨g, kn, dt⟩ (.slice ua g.blocks.length uc) (.slice ka kn.length kc)) := by
          have hW : w3.heap[w2.heap.size]? = some (.cells #[.int .i64 g.src, .int .i64 g.crt, .int .i64 g.seq, .int .i64 g.off, .int .i64 g.tot, .int .i64 g.dk, .int .i64 g.dn, .int .i64 g.life, .int .i64 g.prio, .int .i64 g.flags, .slice ua g.blocks.length uc, .string (B g.payload), .slice ka kn.length kc, .string (B dt)] 81 (0, 0)) := by rw [← hw3]; exact heap_new
          have hoW : ∀ q, q < w2.heap.size → w3.heap[q]? = w2.heap[q]? := fun q hq => by rw [← hw3]; exact Below.heap_alloc _ _ _ hq
          have hsW : w2.heap.size ≤ w3.heap.size := by rw [← hw3]; simp
          have hbW : Below w2.heap.size w2 w3 := by rw [← hw3]; exact (Below.refl _ _).alloc (Nat.le_refl _) _
          refine Lib.hid ⟨hW, HRB.out.keep (fun q o hD => World.cell?_of_block (hoW q (by rcases hD with hD | hD <;> omega))) (fun q hD => ⟨by rcases hD with hD | hD <;> omega, by rcases hD with hD | hD <;> omega⟩), HK.out.keep (fun q o hq => World.cell?_of_block (hoW q (by omega))) hsW, ?_, HFT.out, (hoW _ (by omega)).trans R2.out, s2, btrans0 b2 hbW⟩
          rcases Nat.eq_zero_or_pos kn.length with z | z
          · exact .inr (List.eq_nil_of_length_eq_zero z)
          · exact .inl (RNe.bnd HK.out (Nat.le_refl _) z)
        clear hw3 HRB HK HFT R2 R1 b1 b2
        go_loopw [5, 22] (fun ev iv wr => ∃ (k : Nat) (p : Par) (E : Int) (ub uk : Value), k ≤ r.length ∧ ev = .int .i64 E ∧ iv = .int .i64 k ∧ Hid (addAll (r.drop k) (p, E) = FIN) ∧ Hid (AllI w wr w2.heap.size p ub uk) ∧ Below w.heap.size w wr) (fun _ iv _ => r.length - (intOf iv).toNat)
        case atStart => exact ⟨0, ⟨g, kn, dt⟩, E0, _, _, Nat.zero_le _, rfl, rfl, Lib.hid (by rw [List.drop_zero, ← HQ.out]; exact HFIN.out), HI, HI.out.2.2.2.2.2.2.2⟩
        case round =>
          obtain ⟨k, p, E, ub, uk, hk, rfl, rfl, HA, HJ, _⟩ := hrel
          obtain ⟨f, kn, dt⟩ := p
          obtain ⟨i1, i2, i3, i4, i5, i6, i7, i8⟩ := id HJ.out
          simp only at i2 i3 i5
          obtain ⟨ua, uc, rfl, -⟩ := id i2
          obtain ⟨ka, kc, rfl, -⟩ := id i3
          have zG : w2.heap.size < wr.heap.size := (Array.getElem?_eq_some_iff.1 i1).1
          have I1 : Hid (wr.heap[w2.heap.size]? = some (.cells #[.int .i64 f.src, .int .i64 f.crt, .int .i64 f.seq, .int .i64 f.off, .int .i64 f.tot, .int .i64 f.dk, .int .i64 f.dn, .int .i64 f.life, .int .i64 f.prio, .int .i64 f.flags, .slice ua f.blocks.length uc, .string (B f.payload), .slice ka kn.length kc, .string (B dt)] 81 (0, 0))) := Lib.hid i1
          have RI := Lib.hid i6
          have HRB := Lib.hid i2
          have HKN := Lib.hid i3
          have HFT := Lib.hid i5
          have zw : w.heap.size < w2.heap.size := i7
          have bR : Below w.heap.size w wr := i8
          clear i1 i2 i3 i4 i5 i6 i7 i8 HI
          have cg := fun o => cellB I1.out o
          by_cases hlt : k < r.length
          · obtain ⟨x, hx⟩ : ∃ x, r[k]? = some x := ⟨_, List.getElem?_eq_getElem hlt⟩
            obtain ⟨ux, cx, rx⟩ := (HCE.out (k + 1) x (by simpa using hx)).keep (M := w.heap.size) hbn (fun b o hb => bR.cell (p := ⟨b, o, none⟩) hb) (Nat.le_refl _)
            have e12 : o + (k + 1) * 12 = AO + k * 12 := by rw [hAR (by omega)]; omega
            rw [e12] at cx
            obtain ⟨xa, xc, rfl, -⟩ := id rx
            have q0 : wr.cell? ⟨bb, AO + k * 12, none⟩ = some (.int .i64 x.src) := cx 0 _ rfl
            have q1 : wr.cell? ⟨bb, AO + k * 12 + 1, none⟩ = some (.int .i64 x.crt) := cx 1 _ rfl
            have q2 : wr.cell? ⟨bb, AO + k * 12 + 2, none⟩ = some (.int .i64 x.seq) := cx 2 _ rfl
            have q3 : wr.cell? ⟨bb, AO + k * 12 + 3, none⟩ = some (.int .i64 x.off) := cx 3 _ rfl
            have q4 : wr.cell? ⟨bb, AO + k * 12 + 4, none⟩ = some (.int .i64 x.tot) := cx 4 _ rfl
            have q5 : wr.cell? ⟨bb, AO + k * 12 + 5, none⟩ = some (.int .i64 x.dk) := cx 5 _ rfl
            have q6 : wr.cell? ⟨bb, AO + k * 12 + 6, none⟩ = some (.int .i64 x.dn) := cx 6 _ rfl
            have q7 : wr.cell? ⟨bb, AO + k * 12 + 7, none⟩ = some (.int .i64 x.life) := cx 7 _ rfl
            have q8 : wr.cell? ⟨bb, AO + k * 12 + 8, none⟩ = some (.int .i64 x.prio) := cx 8 _ rfl
            have q9 : wr.cell? ⟨bb, AO + k * 12 + 9, none⟩ = some (.int .i64 x.flags) := cx 9 _ rfl
            have q10 : wr.cell? ⟨bb, AO + k * 12 + 10, none⟩ = some (.slice xa x.blocks.length xc) := cx 10 _ rfl
            have q11 : wr.cell? ⟨bb, AO + k * 12 + 11, none⟩ = some (.string (B x.payload)) := cx 11 _ rfl
            have HX := Lib.hid hx
            have HRX := Lib.hid rx
            have k0 : (0 : Int) ≤ (k : Int) := by omega
            have k1 : (k : Int) < ((n - 1 : Nat) : Int) := by have := HRN.out; omega
            clear e12 cx rx hx hAR
            go_upto_region 7 with fail
            obtain ⟨w5, hw5⟩ : ∃ q, wr.alloc (.cells #[.int .i64 x.src, .int .i64 x.crt, .int .i64 x.seq, .int .i64 x.off, .int .i64 x.tot, .int .i64 x.dk, .int .i64 x.dn, .int .i64 x.life, .int .i64 x.prio, .int .i64 x.flags, .slice xa x.blocks.length xc, .string (B x.payload)] 32 (0, 0)) = q := ⟨_, rfl⟩
            rw [hw5]
            have b5 : Below wr.heap.size wr w5 := by rw [← hw5]; exact (Below.refl _ _).alloc (Nat.le_refl _) _
            have s5 : wr.heap.size < w5.heap.size := by rw [← hw5]; simp
            have x5 : w5.heap[wr.heap.size]? = some (.cells #[.int .i64 x.src, .int .i64 x.crt, .int .i64 x.seq, .int .i64 x.off, .int .i64 x.tot, .int .i64 x.dk, .int .i64 x.dn, .int .i64 x.life, .int .i64 x.prio, .int .i64 x.flags, .slice xa x.blocks.length xc, .string (B x.payload)] 32 (0, 0)) := by rw [← hw5]; exact heap_new
            have G5 := Lib.hid ((b5.block _ zG).trans I1.out)
            have R5 := Lib.hid ((b5.block _ (by omega)).trans RI.out)
            have X5 := Lib.hid x5
            have B5 := Lib.hid b5
            have bw5 : Below w.heap.size w w5 := btrans0 bR b5
            have zw5 : w.heap.size < w5.heap.size := by omega
            clear hw5 cg x5 q0 q1 q2 q3 q4 q5 q6 q7 q8 q9 q10 q11
            have cg := fun o => cellB G5.out o
            have cr := fun o => cellB R5.out o
            have fr := fun o => frozenB R5.out o
            by_cases e0 : E = 0
            case neg =>
              have e1 : (E != 0) = true := by rw [bne_iff_ne]; exact e0
              have HV : Hid (V = (zBun, E)) := Lib.hid (by rw [← HVV.out]; exact allP_bad (HFIN.out.trans (HA.out.symm.trans (addAll_stop e0))) e0)
              clear e0 b5
              as_aux_lemma =>
                go_wp2_with (refine wpList_store_block rfl 32 _ _ rfl w.heap.size #[.int .i64 0, .int .i64 0, .int .i64 0, .int .i64 0, .int .i64 0, .int .i64 0, .int .i64 0, .int .i64 0, .int .i64 0, .int .i64 0, .slice none 0 0, .string ⟨#[]⟩] _ 32 rfl rfl R5.out rfl (by kernel_rfl) (by simp [Value.oneCell']) ?_; intro wF hW hbW hsW hoW; have bF : Below w.heap.size w wF := bw5.trans (hbW _ (Nat.le_refl _)); have zF : w.heap.size < wF.heap.size := (by rw [hsW]; exact zw5); have cF := fun o => cellB hW o; clear hW hbW hsW hoW)
                refine bodyPost_ret (v := .tuple #[.agg #[.int .i64 0, .int .i64 0, .int .i64 0, .int .i64 0, .int .i64 0, .int .i64 0, .int .i64 0, .int .i64 0, .int .i64 0, .int .i64 0, .slice none 0 0, .string ⟨#[]⟩], .int .i64 E]) (by simp [results, Tryz.results8, go_sem, World.cell?_setCell_same', cF, zF]) rfl ?_
                rw [HV.out]
                exact ⟨_, rfl, RBlks.nil _ _, bF⟩
            subst e0
            obtain ⟨⟨⟨f2, kn2, dt2⟩, E2⟩, hAP⟩ : ∃ q, addP ⟨f, kn, dt⟩ x = q := ⟨_, rfl⟩
            have HA2 : Hid (addAll (r.drop (k + 1)) (⟨f2, kn2, dt2⟩, E2) = FIN) := Lib.hid (by rw [← hAP, ← addAll_at HX.out]; exact HA.out)
            have HF2 : Hid (Fits f2 ∧ dt2.length ≤ maxLen) := Lib.hid (by have := addP_fits ⟨f, kn, dt⟩ x; rw [hAP] at this; exact this)
            have HFX := Lib.hid (HFR.out x (List.mem_of_getElem? HX.out))
            have HRB5 : Hid (RBlksD w5 (AllD w.heap.size w2.heap.size) (.slice ua f.blocks.length uc) f.blocks) := Lib.hid (HRB.out.keep (fun q o hD => b5.cell (p := ⟨q, o, none⟩) (by have := hD.2; show q < wr.heap.size; omega)) (fun _ h => h))
            have HRX5 : Hid (RBlks w5 w.heap.size (.slice xa x.blocks.length xc) x.blocks) := Lib.hid (HRX.out.keep (fun q o hq => b5.cell (p := ⟨q, o, none⟩) (by show q < wr.heap.size; omega)) (Nat.le_refl _))
            have HK5 := Lib.hid (HKN.out.below' b5)
            have cx := fun o => cellB X5.out o
            clear b5
            as_aux_lemma =>
              go_wp2_with fail
              refine (add_any ⟨f, kn, dt⟩ x _ _ _ w2.heap.size _ (by omega) (HRB5.out.to (fun q hD => hD.2)) HK5.out (HRX5.out.wide (by omega)) HFT.out.1 HFT.out.2 HFX.out).mono ?_
              rw [hAP]
              clear hAP
              rintro e w6 ⟨ub2, uk2, rfl, hpick, hrb, hkn, hkf, hb6⟩
              simp only at hrb hkn
              have HD2 := Lib.hid (rblks_pick hpick hrb HRB5.out ((RBlksD.of HRX5.out).keep (fun _ _ _ => rfl) (D' := AllD w.heap.size w2.heap.size) (fun q hq => ⟨by omega, by omega⟩)))
              obtain ⟨ua2, uc2, rfl, -⟩ := id hrb
              obtain ⟨ka2, kc2, rfl, -⟩ := id hkn
              simp only [parC, bunC, List.cons_append, List.nil_append]
              have G6 := Lib.hid ((hb6.block _ (by omega)).trans G5.out)
              have z6 : w2.heap.size < w6.heap.size := by have := hb6.size; omega
              have HNE := Lib.hid (RNe.from (g := w2.heap.size) hkf (by omega))
              have HKN2 := Lib.hid hkn
              have B6 : Hid (Below wr.heap.size wr w6) := Lib.hid (btrans0 B5.out hb6)
              clear hpick hrb hkn hkf hb6 cg cr fr cx G5 R5 X5 B5 I1 RI
              as_aux_lemma =>
                have cg := fun o => cellB G6.out o
                have fg := fun o => frozenB G6.out o
                have HX7 : Hid (∀ w7 : World, w7.heap[w2.heap.size]? = some (.cells #[.int .i64 f2.src, .int .i64 f2.crt, .int .i64 f2.seq, .int .i64 f2.off, .int .i64 f2.tot, .int .i64 f2.dk, .int .i64 f2.dn, .int .i64 f2.life, .int .i64 f2.prio, .int .i64 f2.flags, .slice ua2 f2.blocks.length uc2, .string (B f2.payload), .slice ka2 kn2.length kc2, .string (B dt2)] 81 (0, 0)) → (∀ B, B ≤ w2.heap.size → Below B w6 w7) → w7.heap.size = w6.heap.size → (∀ q, q ≠ w2.heap.size → w7.heap[q]? = w6.heap[q]?) → Hid (AllI w w7 w2.heap.size ⟨f2, kn2, dt2⟩ (.slice ua2 f2.blocks.length uc2) (.slice ka2 kn2.length kc2))) := Lib.hid (fun w7 hW hbW hsW hoW => Lib.hid (AllI.step HJ.out B6.out HD2.out HKN2.out HNE.out HF2.out hW hbW hsW hoW))
                go_wp2_with (refine wpList_store_block rfl 81 _ _ rfl w2.heap.size #[.int .i64 f2.src, .int .i64 f2.crt, .int .i64 f2.seq, .int .i64 f2.off, .int .i64 f2.tot, .int .i64 f2.dk, .int .i64 f2.dn, .int .i64 f2.life, .int .i64 f2.prio, .int .i64 f2.flags, .slice ua2 f2.blocks.length uc2, .string (B f2.payload), .slice ka2 kn2.length kc2, .string (B dt2)] _ 81 rfl rfl G6.out rfl (by kernel_rfl) (by simp [Value.oneCell']) ?_; intro w7 hW hbW hsW hoW; have H7 := HX7.out w7 hW hbW hsW hoW; clear hW hbW hsW hoW cg fg HX7)
                refine ⟨⟨k + 1, ⟨f2, kn2, dt2⟩, E2, .slice ua2 f2.blocks.length uc2, .slice ka2 kn2.length kc2, ?_, ?_, ?_, HA2, H7, ?_⟩, ?_⟩
                · exact hlt
                · exact rfl
                · go_num
                · exact AllI.bel H7.out
                · simp [intOf]
                  omega
          · obtain rfl : k = r.length := by omega
            have HA2 : Hid (addAll r (newP b) = (⟨f, kn, dt⟩, E)) := Lib.hid (by have := HA.out; rw [List.drop_length] at this; exact HFIN.out.trans this.symm)
            have n9 : ((n - 1 : Nat) : Int) = (r.length : Int) := by have := HRN.out; omega
            have cr := fun o => cellB RI.out o
            have fr := fun o => frozenB RI.out o
            have zw9 : w.heap.size < wr.heap.size := by omega
            by_cases e0 : E = 0
            case neg =>
              have e1 : (E != 0) = true := by rw [bne_iff_ne]; exact e0
              have HV : Hid (V = (zBun, E)) := Lib.hid (by rw [← HVV.out]; exact allP_bad HA2.out e0)
              clear e0
              as_aux_lemma =>
                go_wp2_with (refine wpList_store_block rfl 32 _ _ rfl w.heap.size #[.int .i64 0, .int .i64 0, .int .i64 0, .int .i64 0, .int .i64 0, .int .i64 0, .int .i64 0, .int .i64 0, .int .i64 0, .int .i64 0, .slice none 0 0, .string ⟨#[]⟩] _ 32 rfl rfl RI.out rfl (by kernel_rfl) (by simp [Value.oneCell']) ?_; intro wF hW hbW hsW hoW; have bF : Below w.heap.size w wF := bR.trans (hbW _ (Nat.le_refl _)); have zF : w.heap.size < wF.heap.size := (by rw [hsW]; exact zw9); have cF := fun o => cellB hW o; clear hW hbW hsW hoW)
                refine bodyPost_ret (v := .tuple #[.agg #[.int .i64 0, .int .i64 0, .int .i64 0, .int .i64 0, .int .i64 0, .int .i64 0, .int .i64 0, .int .i64 0, .int .i64 0, .int .i64 0, .slice none 0 0, .string ⟨#[]⟩], .int .i64 E]) (by simp [results, Tryz.results8, go_sem, World.cell?_setCell_same', cF, zF]) rfl ?_
                rw [HV.out]
                exact ⟨_, rfl, RBlks.nil _ _, bF⟩
            subst e0
            have hRP : resP ⟨f, kn, dt⟩ = V := (allP_good HA2.out).symm.trans HVV.out
            obtain ⟨VB, VE⟩ := V
            as_aux_lemma =>
              go_wp2_with fail
              refine (res_any ⟨f, kn, dt⟩ _ _ w2.heap.size _ (by omega) (HRB.out.to (fun q hD => hD.2)) HKN.out HFT.out.1 HFT.out.2).mono ?_
              rw [hRP]
              clear hRP
              rintro e w4 ⟨u4, rfl, hpick, hr4, hb4⟩
              simp only at hr4
              have D4 := Lib.hid (rblks_pick (by rcases hpick with h | h; exact .inl h; exact .inr (.inl h)) hr4 HRB.out HRB.out)
              obtain ⟨a4, c4, rfl, -⟩ := id hr4
              simp only [bunC]
              have b4 : Below w.heap.size w w4 := btrans0 bR hb4
              have z4 : w.heap.size < w4.heap.size := by have := hb4.size; omega
              have y4 : w2.heap.size ≤ w4.heap.size := by have := hb4.size; omega
              have R4 := Lib.hid ((hb4.block _ (by omega)).trans RI.out)
              clear hpick hr4 hb4 cg cr fr
              have cr := fun o => cellB R4.out o
              have fr := fun o => frozenB R4.out o
              go_wp2_with (refine wpList_store_block rfl 32 _ _ rfl w.heap.size #[.int .i64 VB.src, .int .i64 VB.crt, .int .i64 VB.seq, .int .i64 VB.off, .int .i64 VB.tot, .int .i64 VB.dk, .int .i64 VB.dn, .int .i64 VB.life, .int .i64 VB.prio, .int .i64 VB.flags, .slice a4 VB.blocks.length c4, .string (B VB.payload)] _ 32 rfl rfl R4.out rfl (by kernel_rfl) (by simp [Value.oneCell']) ?_; intro wF hW hbW hsW hoW; have bF : Below w.heap.size w wF := b4.trans (hbW _ (Nat.le_refl _)); have zF : w.heap.size < wF.heap.size := (by rw [hsW]; exact z4); have DF : Hid (RBlks wF wF.heap.size (.slice a4 VB.blocks.length c4) VB.blocks) := Lib.hid (RBlksD.to (D := AllD w.heap.size w2.heap.size) (D4.out.keep (fun q o hD => World.cell?_of_block (hoW q hD.1)) (fun _ h => h)) (fun q hD => by have := hD.2; rw [hsW]; omega)); have cF := fun o => cellB hW o; clear hW hbW hsW hoW)
              refine bodyPost_ret (v := .tuple #[.agg #[.int .i64 VB.src, .int .i64 VB.crt, .int .i64 VB.seq, .int .i64 VB.off, .int .i64 VB.tot, .int .i64 VB.dk, .int .i64 VB.dn, .int .i64 VB.life, .int .i64 VB.prio, .int .i64 VB.flags, .slice a4 VB.blocks.length c4, .string (B VB.payload)], .int .i64 VE]) (by simp [results, Tryz.results8, go_sem, World.cell?_setCell_same', cF, zF]) rfl ?_
              exact ⟨_, rfl, DF.out, bF⟩
end Go.Proofs.YtmknchdciblfjaaGreat

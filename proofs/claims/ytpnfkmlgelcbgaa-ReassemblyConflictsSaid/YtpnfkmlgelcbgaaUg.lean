/- Chapter 18: the reference: All. -/
import Derived.BigQuiet
import Derived.BigRegion
import Derived.Deep.DeepCutAuto
import Derived.Deep.CutBlock
import Derived.Test.YtpnfkmlgelcbgaaSo
import Derived.Test.YtpnfkmlgelcbgaaSz
import Derived.Test.YtpnfkmlgelcbgaaUb
import Derived.Test.YtpnfkmlgelcbgaaUf
set_option linter.unusedVariables false
set_option linter.unusedSimpArgs false
namespace Go.Proofs.Ytpnfkmlgelcbgaa
open Go Go.RowKit Iv
attribute [local go_sem] Oper.semAt_some
attribute [local go_sem] B_getElem B_size B_app B_extract B_get B_toList
set_option maxRecDepth 100000 in
set_option maxHeartbeats 32000000 in
theorem rall_any (l : List Bun) (u : Value) (w : World) (h : RBuns w w.heap.size u l) (hf : ∀ b ∈ l, Fits b) :
    Calls Try.prog 27 #[u] w (AllPost (allP l) w) := by
  cases l with
  | nil =>
    obtain ⟨a, c, rfl, _⟩ := h
    have hb0 : Below w.heap.size w w := Below.refl _ _
    simp only [List.length_nil]
    go_enter Try.func27, Try.ntmps27
    go_upto_region 1 with fail
    obtain ⟨w1, hw1⟩ : ∃ q, w.alloc (.cells #[.int .i64 0, .int .i64 0, .int .i64 0, .int .i64 0, .int .i64 0, .int .i64 0, .int .i64 0, .int .i64 0, .int .i64 0, .int .i64 0, .slice none 0 0, .string ⟨#[]⟩] 28 (0, 0)) = q := ⟨_, rfl⟩
    rw [hw1]
    have b1 : Below w.heap.size w w1 := by rw [← hw1]; exact belowA
    have z1 : w.heap.size < w1.heap.size := by rw [← hw1]; simp
    have R1 : Hid (w1.heap[w.heap.size]? = some (.cells #[.int .i64 0, .int .i64 0, .int .i64 0, .int .i64 0, .int .i64 0, .int .i64 0, .int .i64 0, .int .i64 0, .int .i64 0, .int .i64 0, .slice none 0 0, .string ⟨#[]⟩] 28 (0, 0))) := Lib.hid (by rw [← hw1]; exact heap_new)
    clear hw1
    have cr := fun o => cellB R1.out o
    have fr := fun o => frozenB R1.out o
    go_wp2
    refine bodyPost_ret (v := .tuple #[.agg #[.int .i64 0, .int .i64 0, .int .i64 0, .int .i64 0, .int .i64 0, .int .i64 0, .int .i64 0, .int .i64 0, .int .i64 0, .int .i64 0, .slice none 0 0, .string ⟨#[]⟩], .int .i64 20]) (by simp [results, Try.results27, go_sem, World.cell?_setCell_same', cr, z1]) rfl ?_
    exact ⟨_, rfl, RBlks.nil _ _, belowA⟩
  | cons b r =>
    obtain ⟨a, c, rfl, h1, h2, h3, h4⟩ := h
    obtain ⟨bb, o, rfl, hbn, hcell⟩ := h4 (by simp)
    unfold maxLen at h2
    obtain ⟨n, hn⟩ : ∃ q, (b :: r).length = q := ⟨_, rfl⟩
    have hrn : r.length + 1 = n := by rw [← hn]; simp
    rw [hn] at h1 ⊢
    clear hn h3 h4
    obtain ⟨V, hV⟩ : ∃ q, allP (b :: r) = q := ⟨_, rfl⟩
    have HVV := Lib.hid hV
    rw [hV]
    obtain ⟨FIN, hFIN⟩ : ∃ q, addAll r (newP b) = q := ⟨_, rfl⟩
    have HFIN := Lib.hid hFIN
    obtain ⟨u0, c0, r0⟩ := hcell 0 b rfl
    have HU0 := Lib.hid r0
    have HCE := Lib.hid hcell
    have HF0 := Lib.hid (hf b (by simp))
    have HFR : Hid (∀ x ∈ r, Fits x) := Lib.hid (fun x hx => hf x (by simp [hx]))
    simp only [Nat.zero_mul, Nat.add_zero] at c0
    have c0_0 : w.cell? ⟨bb, o, none⟩ = some (.int .i64 b.src) := c0 0 _ rfl
    have c0_1 : w.cell? ⟨bb, o + 1, none⟩ = some (.int .i64 b.crt) := c0 1 _ rfl
    have c0_2 : w.cell? ⟨bb, o + 2, none⟩ = some (.int .i64 b.seq) := c0 2 _ rfl
    have c0_3 : w.cell? ⟨bb, o + 3, none⟩ = some (.int .i64 b.off) := c0 3 _ rfl
    have c0_4 : w.cell? ⟨bb, o + 4, none⟩ = some (.int .i64 b.tot) := c0 4 _ rfl
    have c0_5 : w.cell? ⟨bb, o + 5, none⟩ = some (.int .i64 b.dk) := c0 5 _ rfl
    have c0_6 : w.cell? ⟨bb, o + 6, none⟩ = some (.int .i64 b.dn) := c0 6 _ rfl
    have c0_7 : w.cell? ⟨bb, o + 7, none⟩ = some (.int .i64 b.life) := c0 7 _ rfl
    have c0_8 : w.cell? ⟨bb, o + 8, none⟩ = some (.int .i64 b.prio) := c0 8 _ rfl
    have c0_9 : w.cell? ⟨bb, o + 9, none⟩ = some (.int .i64 b.flags) := c0 9 _ rfl
    have c0_10 : w.cell? ⟨bb, o + 10, none⟩ = some (u0) := c0 10 _ rfl
    have c0_11 : w.cell? ⟨bb, o + 11, none⟩ = some (.string (B b.payload)) := c0 11 _ rfl
    clear hcell c0 r0 hV hFIN hf
    obtain ⟨va, vc, rfl, -⟩ := id HU0.out
    have n0 : (0 : Int) < (n : Int) := by omega
    have n0' : 0 < n := by omega
    have n1 : ((n : Int) == 0) = false := by rw [beq_eq_false_iff_ne]; omega
    have n2 : (1 : Int) ≤ (n : Int) := by omega
    have n3 : 1 ≤ n := by omega
    have HRN := Lib.hid hrn
    clear hrn
    go_enter Try.func27, Try.ntmps27
    go_upto_region 1 with fail
    obtain ⟨w1, hw1⟩ : ∃ q, w.alloc (.cells #[.int .i64 0, .int .i64 0, .int .i64 0, .int .i64 0, .int .i64 0, .int .i64 0, .int .i64 0, .int .i64 0, .int .i64 0, .int .i64 0, .slice none 0 0, .string ⟨#[]⟩] 28 (0, 0)) = q := ⟨_, rfl⟩
    rw [hw1]
    have b1 : Below w.heap.size w w1 := by rw [← hw1]; exact belowA
    have s1 : w.heap.size < w1.heap.size := by rw [← hw1]; simp
    have R1 : Hid (w1.heap[w.heap.size]? = some (.cells #[.int .i64 0, .int .i64 0, .int .i64 0, .int .i64 0, .int .i64 0, .int .i64 0, .int .i64 0, .int .i64 0, .int .i64 0, .int .i64 0, .slice none 0 0, .string ⟨#[]⟩] 28 (0, 0))) := Lib.hid (by rw [← hw1]; exact heap_new)
    clear hw1
    have c1_0 : w1.cell? ⟨bb, o, none⟩ = some (.int .i64 b.src) := (b1.cell (p := ⟨bb, o, none⟩) hbn).trans c0_0
    have c1_1 : w1.cell? ⟨bb, o + 1, none⟩ = some (.int .i64 b.crt) := (b1.cell (p := ⟨bb, o + 1, none⟩) hbn).trans c0_1
    have c1_2 : w1.cell? ⟨bb, o + 2, none⟩ = some (.int .i64 b.seq) := (b1.cell (p := ⟨bb, o + 2, none⟩) hbn).trans c0_2
    have c1_3 : w1.cell? ⟨bb, o + 3, none⟩ = some (.int .i64 b.off) := (b1.cell (p := ⟨bb, o + 3, none⟩) hbn).trans c0_3
    have c1_4 : w1.cell? ⟨bb, o + 4, none⟩ = some (.int .i64 b.tot) := (b1.cell (p := ⟨bb, o + 4, none⟩) hbn).trans c0_4
    have c1_5 : w1.cell? ⟨bb, o + 5, none⟩ = some (.int .i64 b.dk) := (b1.cell (p := ⟨bb, o + 5, none⟩) hbn).trans c0_5
    have c1_6 : w1.cell? ⟨bb, o + 6, none⟩ = some (.int .i64 b.dn) := (b1.cell (p := ⟨bb, o + 6, none⟩) hbn).trans c0_6
    have c1_7 : w1.cell? ⟨bb, o + 7, none⟩ = some (.int .i64 b.life) := (b1.cell (p := ⟨bb, o + 7, none⟩) hbn).trans c0_7
    have c1_8 : w1.cell? ⟨bb, o + 8, none⟩ = some (.int .i64 b.prio) := (b1.cell (p := ⟨bb, o + 8, none⟩) hbn).trans c0_8
    have c1_9 : w1.cell? ⟨bb, o + 9, none⟩ = some (.int .i64 b.flags) := (b1.cell (p := ⟨bb, o + 9, none⟩) hbn).trans c0_9
    have c1_10 : w1.cell? ⟨bb, o + 10, none⟩ = some (.slice va b.blocks.length vc) := (b1.cell (p := ⟨bb, o + 10, none⟩) hbn).trans c0_10
    have c1_11 : w1.cell? ⟨bb, o + 11, none⟩ = some (.string (B b.payload)) := (b1.cell (p := ⟨bb, o + 11, none⟩) hbn).trans c0_11
    clear c0_0 c0_1 c0_2 c0_3 c0_4 c0_5 c0_6 c0_7 c0_8 c0_9 c0_10 c0_11
    obtain ⟨⟨⟨g, kn, dt⟩, E0⟩, hQ⟩ : ∃ q, newP b = q := ⟨_, rfl⟩
    have HQ := Lib.hid hQ
    go_wp2_with fail
    refine (rnew_any b _ w.heap.size _ (by omega) (HU0.out.below (C := w.heap.size) b1 (Nat.le_refl _) (Nat.le_refl _)) HF0.out).mono ?_
    rw [hQ]
    clear hQ
    rintro e w2 ⟨ub, uk, rfl, hrb, hk, hkf, hb2⟩
    simp only at hrb hk
    obtain ⟨ua, uc, rfl, -⟩ := id hrb
    obtain ⟨ka, kc, rfl, -⟩ := id hk
    simp only [parC, bunC, List.cons_append, List.nil_append]
    have HRB := Lib.hid hrb
    have HK := Lib.hid hk
    have b2 : Below w.heap.size w w2 := btrans0 b1 hb2
    have s2 : w.heap.size < w2.heap.size := by have := hb2.size; omega
    have R2 := Lib.hid ((hb2.block _ (by omega)).trans R1.out)
    have fit2 : Fits g ∧ dt.length ≤ maxLen := by have := newP_fits b; rw [HQ.out] at this; exact this
    have HFT := Lib.hid fit2
    have hg2 : w1.heap.size ≤ w2.heap.size := hb2.size
    clear hrb hk hb2 fit2 hkf c1_0 c1_1 c1_2 c1_3 c1_4 c1_5 c1_6 c1_7 c1_8 c1_9 c1_10 c1_11
    go_upto_region 5 with fail
    have nb : n ≤ 9223372036854775807 := by omega
    clear h1 h2
    as_aux_lemma =>
      obtain ⟨w3, hw3⟩ : ∃ q, w2.alloc (.cells #[.int .i64 g.src, .int .i64 g.crt, .int .i64 g.seq, .int .i64 g.off, .int .i64 g.tot, .int .i64 g.dk, .int .i64 g.dn, .int .i64 g.life, .int .i64 g.prio, .int .i64 g.flags, .slice ua g.blocks.length uc, .string (B g.payload), .slice ka kn.length kc, .string (B dt)] 31 (0, 0)) = q := ⟨_, rfl⟩
      rw [hw3]
      have HI : Hid (AllI w w3 w2.heap.size ⟨g, kn, dt⟩ (.slice ua g.blocks.length uc) (.slice ka kn.length kc)) := by
        have hW : w3.heap[w2.heap.size]? = some (.cells #[.int .i64 g.src, .int .i64 g.crt, .int .i64 g.seq, .int .i64 g.off, .int .i64 g.tot, .int .i64 g.dk, .int .i64 g.dn, .int .i64 g.life, .int .i64 g.prio, .int .i64 g.flags, .slice ua g.blocks.length uc, .string (B g.payload), .slice ka kn.length kc, .string (B dt)] 31 (0, 0)) := by rw [← hw3]; exact heap_new
        have hoW : ∀ q, q < w2.heap.size → w3.heap[q]? = w2.heap[q]? := fun q hq => by rw [← hw3]; exact Below.heap_alloc _ _ _ hq
        have hsW : w2.heap.size ≤ w3.heap.size := by rw [← hw3]; simp
        have hbW : Below w2.heap.size w2 w3 := by rw [← hw3]; exact (Below.refl _ _).alloc (Nat.le_refl _) _
        refine Lib.hid ⟨hW, HRB.out.keep (fun q o hD => World.cell?_of_block (hoW q (by rcases hD with hD | hD <;> omega))) (fun q hD => ⟨by rcases hD with hD | hD <;> omega, by rcases hD with hD | hD <;> omega⟩), HK.out.keep (fun q o hq => World.cell?_of_block (hoW q (by omega))) hsW, ?_, HFT.out, (hoW _ (by omega)).trans R2.out, s2, btrans0 b2 hbW⟩
        rcases Nat.eq_zero_or_pos kn.length with z | z
        · exact .inr (List.eq_nil_of_length_eq_zero z)
        · exact .inl (RNe.bnd HK.out (Nat.le_refl _) z)
      clear hw3 HRB HK HFT R2 R1 b1 b2
      go_loopw [5, 6] (fun ev iv wr => ∃ (j : Nat) (p : Par) (E : Int) (ub uk : Value), 1 ≤ j ∧ j ≤ n ∧ ev = .int .i64 E ∧ iv = .int .i64 j ∧ Hid (addAll (r.drop (j - 1)) (p, E) = FIN) ∧ Hid (AllI w wr w2.heap.size p ub uk) ∧ Below w.heap.size w wr) (fun _ iv _ => n - (intOf iv).toNat)
      case atStart => exact ⟨1, ⟨g, kn, dt⟩, E0, _, _, Nat.le_refl _, n3, rfl, rfl, Lib.hid (by rw [Nat.sub_self, List.drop_zero, ← HQ.out]; exact HFIN.out), HI, HI.out.2.2.2.2.2.2.2⟩
      case round =>
        obtain ⟨j, p, E, ub, uk, hj1, hj, rfl, rfl, HA, HJ, _⟩ := hrel
        obtain ⟨f, kn, dt⟩ := p
        obtain ⟨i1, i2, i3, i4, i5, i6, i7, i8⟩ := id HJ.out
        simp only at i2 i3 i5
        obtain ⟨ua, uc, rfl, -⟩ := id i2
        obtain ⟨ka, kc, rfl, -⟩ := id i3
        have zG : w2.heap.size < wr.heap.size := (Array.getElem?_eq_some_iff.1 i1).1
        have I1 : Hid (wr.heap[w2.heap.size]? = some (.cells #[.int .i64 f.src, .int .i64 f.crt, .int .i64 f.seq, .int .i64 f.off, .int .i64 f.tot, .int .i64 f.dk, .int .i64 f.dn, .int .i64 f.life, .int .i64 f.prio, .int .i64 f.flags, .slice ua f.blocks.length uc, .string (B f.payload), .slice ka kn.length kc, .string (B dt)] 31 (0, 0))) := Lib.hid i1
        have RI := Lib.hid i6
        have HRB := Lib.hid i2
        have HKN := Lib.hid i3
        have HFT := Lib.hid i5
        have zw : w.heap.size < w2.heap.size := i7
        have bR : Below w.heap.size w wr := i8
        have zwr : w.heap.size < wr.heap.size := by omega
        have zbb : bb < wr.heap.size := by omega
        clear i1 i2 i3 i4 i5 i6 i7 i8 HI
        by_cases hlt : j < n
        · have k1 : (j : Int) < (n : Int) := by omega
          by_cases e0 : E = 0
          case neg =>
            have e1 : (E != 0) = true := by rw [bne_iff_ne]; exact e0
            have e2 : (E == 0) = false := by rw [beq_eq_false_iff_ne]; exact e0
            have HV : Hid (V = (zBun, E)) := Lib.hid (by rw [← HVV.out]; exact allP_bad (HFIN.out.trans (HA.out.symm.trans (addAll_stop e0))) e0)
            clear e0
            as_aux_lemma =>
              go_wp2_with (refine wpList_store_block rfl 28 _ _ rfl w.heap.size #[.int .i64 0, .int .i64 0, .int .i64 0, .int .i64 0, .int .i64 0, .int .i64 0, .int .i64 0, .int .i64 0, .int .i64 0, .int .i64 0, .slice none 0 0, .string ⟨#[]⟩] _ 28 rfl rfl RI.out rfl (by kernel_rfl) (by simp [Value.oneCell']) ?_; intro wF hW hbW hsW hoW; have bF : Below w.heap.size w wF := bR.trans (hbW _ (Nat.le_refl _)); have zF : w.heap.size < wF.heap.size := (by rw [hsW]; exact zwr); have cF := fun o => cellB hW o; clear hW hbW hsW hoW)
              refine bodyPost_ret (v := .tuple #[.agg #[.int .i64 0, .int .i64 0, .int .i64 0, .int .i64 0, .int .i64 0, .int .i64 0, .int .i64 0, .int .i64 0, .int .i64 0, .int .i64 0, .slice none 0 0, .string ⟨#[]⟩], .int .i64 E]) (by simp [results, Try.results27, go_sem, World.cell?_setCell_same', cF, zF]) rfl ?_
              rw [HV.out]
              exact ⟨_, rfl, RBlks.nil _ _, bF⟩
          subst e0
          obtain ⟨x, hx⟩ : ∃ x, r[j - 1]? = some x := ⟨_, List.getElem?_eq_getElem (by have := HRN.out; omega)⟩
          have hx1 : (b :: r)[j]? = some x := by
            obtain ⟨k, rfl⟩ : ∃ k, j = k + 1 := ⟨j - 1, by omega⟩
            simpa using hx
          obtain ⟨ux, cx, rx⟩ := (HCE.out j x hx1).keep (M := w.heap.size) hbn (fun b o hb => bR.cell (p := ⟨b, o, none⟩) hb) (Nat.le_refl _)
          obtain ⟨xa, xc, rfl, -⟩ := id rx
          have q0 : wr.cell? ⟨bb, o + j * 12, none⟩ = some (.int .i64 x.src) := cx 0 _ rfl
          have q1 : wr.cell? ⟨bb, o + j * 12 + 1, none⟩ = some (.int .i64 x.crt) := cx 1 _ rfl
          have q2 : wr.cell? ⟨bb, o + j * 12 + 2, none⟩ = some (.int .i64 x.seq) := cx 2 _ rfl
          have q3 : wr.cell? ⟨bb, o + j * 12 + 3, none⟩ = some (.int .i64 x.off) := cx 3 _ rfl
          have q4 : wr.cell? ⟨bb, o + j * 12 + 4, none⟩ = some (.int .i64 x.tot) := cx 4 _ rfl
          have q5 : wr.cell? ⟨bb, o + j * 12 + 5, none⟩ = some (.int .i64 x.dk) := cx 5 _ rfl
          have q6 : wr.cell? ⟨bb, o + j * 12 + 6, none⟩ = some (.int .i64 x.dn) := cx 6 _ rfl
          have q7 : wr.cell? ⟨bb, o + j * 12 + 7, none⟩ = some (.int .i64 x.life) := cx 7 _ rfl
          have q8 : wr.cell? ⟨bb, o + j * 12 + 8, none⟩ = some (.int .i64 x.prio) := cx 8 _ rfl
          have q9 : wr.cell? ⟨bb, o + j * 12 + 9, none⟩ = some (.int .i64 x.flags) := cx 9 _ rfl
          have q10 : wr.cell? ⟨bb, o + j * 12 + 10, none⟩ = some (.slice xa x.blocks.length xc) := cx 10 _ rfl
          have q11 : wr.cell? ⟨bb, o + j * 12 + 11, none⟩ = some (.string (B x.payload)) := cx 11 _ rfl
          have HX := Lib.hid hx
          have HRX := Lib.hid rx
          have k0 : (0 : Int) ≤ (j : Int) := by omega
          clear cx rx hx hx1
          obtain ⟨⟨⟨f2, kn2, dt2⟩, E2⟩, hAP⟩ : ∃ q, addP ⟨f, kn, dt⟩ x = q := ⟨_, rfl⟩
          have HAPP := Lib.hid hAP
          have HA2 : Hid (addAll (r.drop (j + 1 - 1)) (⟨f2, kn2, dt2⟩, E2) = FIN) := Lib.hid (by rw [← hAP, show j + 1 - 1 = j - 1 + 1 by omega, ← addAll_at HX.out]; exact HA.out)
          have HF2 : Hid (Fits f2 ∧ dt2.length ≤ maxLen) := Lib.hid (by have := addP_fits ⟨f, kn, dt⟩ x; rw [hAP] at this; exact this)
          have HFX := Lib.hid (HFR.out x (List.mem_of_getElem? HX.out))
          have b5 : Below wr.heap.size wr wr.drew := by exact belowA
          have HRB5 : Hid (RBlksD wr.drew (AllD w.heap.size w2.heap.size) (.slice ua f.blocks.length uc) f.blocks) := Lib.hid (HRB.out.keep (fun q o hD => b5.cell (p := ⟨q, o, none⟩) (by have := hD.2; show q < wr.heap.size; omega)) (fun _ h => h))
          have HRX5 : Hid (RBlks wr.drew w.heap.size (.slice xa x.blocks.length xc) x.blocks) := Lib.hid (HRX.out.keep (fun q o hq => b5.cell (p := ⟨q, o, none⟩) (by show q < wr.heap.size; omega)) (Nat.le_refl _))
          have HK5 := Lib.hid (HKN.out.below' b5)
          have zGd : w2.heap.size ≤ wr.drew.heap.size := Nat.le_of_lt zG
          have cg := fun o => cellB I1.out o
          clear b5 hAP
          as_aux_lemma =>
            go_upto_region 7 with fail
            refine wp_region_plan (fun V => Below wr.heap.size wr V) [1, 0, 0, 0, 1, 3, 0, 0, 0, 3, 0] [0, 1, 2, 3, 4, 5, 6, 7, 8, 9, 10] (by kernel_rfl) (by kernel_rfl) ?_ ?_
            case refine_1 => exact belowA
            (iterate 5 (first | (refine plan_held rfl (by decide) (by rfl) (fun w1 hS => by (try (obtain ⟨_, _⟩ := bcell (hS rfl))); go_simp; rfl) ?_; simp only [Act.put, List.setIfInBounds_toArray, List.set_cons_zero, List.set_cons_succ]) | (refine plan_skip rfl (by decide) (by rfl) ?_; simp only [Act.put, List.setIfInBounds_toArray, List.set_cons_zero, List.set_cons_succ])))
            (refine plan_late rfl rfl (by rfl) (fun K hK => ?_); go_simp)
            refine (radd_any ⟨f, kn, dt⟩ x _ _ _ w2.heap.size _ zGd (HRB5.out.to (fun q hD => hD.2)) HK5.out (HRX5.out.wide (by omega)) HFT.out.1 HFT.out.2 HFX.out).mono ?_
            rw [HAPP.out]
            rintro e w6 ⟨ub2, uk2, rfl, hpick, hrb, hkn, hkf, hb6⟩
            simp only at hrb hkn
            have HD2 := Lib.hid (rblks_pick hpick hrb HRB5.out ((RBlksD.of HRX5.out).keep (fun _ _ _ => rfl) (D' := AllD w.heap.size w2.heap.size) (fun q hq => ⟨by omega, by omega⟩)))
            obtain ⟨ua2, uc2, rfl, -⟩ := id hrb
            obtain ⟨ka2, kc2, rfl, -⟩ := id hkn
            simp only [parC, bunC, List.cons_append, List.nil_append]
            have hb6' : Below wr.heap.size wr w6 := btrans0 belowA hb6
            have G6 := Lib.hid ((hb6'.block _ (by omega)).trans I1.out)
            have z6 : w2.heap.size < w6.heap.size := by have := hb6'.size; omega
            have HNE := Lib.hid (RNe.from (g := w2.heap.size) hkf (by show w2.heap.size < wr.heap.size; omega))
            have HKN2 := Lib.hid hkn
            have B6 : Hid (Below wr.heap.size wr w6) := Lib.hid hb6'
            have HX7 : Hid (∀ w7 : World, w7.heap[w2.heap.size]? = some (.cells #[.int .i64 f2.src, .int .i64 f2.crt, .int .i64 f2.seq, .int .i64 f2.off, .int .i64 f2.tot, .int .i64 f2.dk, .int .i64 f2.dn, .int .i64 f2.life, .int .i64 f2.prio, .int .i64 f2.flags, .slice ua2 f2.blocks.length uc2, .string (B f2.payload), .slice ka2 kn2.length kc2, .string (B dt2)] 31 (0, 0)) → (∀ B, B ≤ w2.heap.size → Below B w6 w7) → w7.heap.size = w6.heap.size → (∀ q, q ≠ w2.heap.size → w7.heap[q]? = w6.heap[q]?) → Hid (AllI w w7 w2.heap.size ⟨f2, kn2, dt2⟩ (.slice ua2 f2.blocks.length uc2) (.slice ka2 kn2.length kc2))) := Lib.hid (fun w7 hW hbW hsW hoW => Lib.hid (AllI.step HJ.out B6.out HD2.out HKN2.out HNE.out HF2.out hW hbW hsW hoW))
            clear hpick hrb hkn hkf hb6 hb6' cg I1 RI q0 q1 q2 q3 q4 q5 q6 q7 q8 q9 q10 q11
            (refine hK _ _ ?_; clear hK K; (try simp only [Act.put, List.setIfInBounds_toArray, List.set_cons_zero, List.set_cons_succ]))
            as_aux_lemma =>
              have cg := fun o => cellB G6.out o
              (iterate 3 (first | (refine plan_held rfl (by decide) (by rfl) (fun w1 hS => by (try (obtain ⟨_, _⟩ := bcell (hS rfl))); go_simp; rfl) ?_; simp only [Act.put, List.setIfInBounds_toArray, List.set_cons_zero, List.set_cons_succ]) | (refine plan_skip rfl (by decide) (by rfl) ?_; simp only [Act.put, List.setIfInBounds_toArray, List.set_cons_zero, List.set_cons_succ])))
              refine plan_late rfl rfl (by rfl) (fun K hK => ?_)
              refine wp_store_block 31 _ _ rfl w2.heap.size #[.int .i64 f2.src, .int .i64 f2.crt, .int .i64 f2.seq, .int .i64 f2.off, .int .i64 f2.tot, .int .i64 f2.dk, .int .i64 f2.dn, .int .i64 f2.life, .int .i64 f2.prio, .int .i64 f2.flags, .slice ua2 f2.blocks.length uc2, .string (B f2.payload), .slice ka2 kn2.length kc2, .string (B dt2)] _ 31 rfl rfl G6.out rfl (by kernel_rfl) (by simp [Value.oneCell']) ?_
              intro w7 hW hbW hsW hoW
              have H7 := HX7.out w7 hW hbW hsW hoW
              clear hW hbW hsW hoW cg HX7
              refine hK _ _ ?_
              clear hK K
              simp only [Act.put, List.setIfInBounds_toArray, List.set_cons_zero, List.set_cons_succ]
              (iterate 1 (first | (refine plan_held rfl (by decide) (by rfl) (fun w1 hS => by (try (obtain ⟨_, _⟩ := bcell (hS rfl))); go_simp; rfl) ?_; simp only [Act.put, List.setIfInBounds_toArray, List.set_cons_zero, List.set_cons_succ]) | (refine plan_skip rfl (by decide) (by rfl) ?_; simp only [Act.put, List.setIfInBounds_toArray, List.set_cons_zero, List.set_cons_succ])))
              refine plan_done ?_
              go_wp2
              refine ⟨⟨j + 1, ⟨f2, kn2, dt2⟩, E2, .slice ua2 f2.blocks.length uc2, .slice ka2 kn2.length kc2, ?_, ?_, ?_, ?_, HA2, H7, ?_⟩, ?_⟩
              · exact Nat.le_add_left _ _
              · exact hlt
              · exact rfl
              · go_num
              · exact AllI.bel H7.out
              · simp [intOf]
                omega
        · obtain rfl : j = n := by omega
          have HA2 : Hid (addAll r (newP b) = (⟨f, kn, dt⟩, E)) := Lib.hid (by have := HA.out; rw [← HRN.out, Nat.add_sub_cancel, List.drop_length] at this; exact HFIN.out.trans this.symm)
          have k1 : decide ((j : Int) < (j : Int)) = false := decide_eq_false (by omega)
          have cr := fun o => cellB RI.out o
          have fr := fun o => frozenB RI.out o
          clear hlt
          by_cases e0 : E = 0
          case neg =>
            have e1 : (E != 0) = true := by rw [bne_iff_ne]; exact e0
            have HV : Hid (V = (zBun, E)) := Lib.hid (by rw [← HVV.out]; exact allP_bad HA2.out e0)
            clear e0
            as_aux_lemma =>
              go_wp2_with (refine wpList_store_block rfl 28 _ _ rfl w.heap.size #[.int .i64 0, .int .i64 0, .int .i64 0, .int .i64 0, .int .i64 0, .int .i64 0, .int .i64 0, .int .i64 0, .int .i64 0, .int .i64 0, .slice none 0 0, .string ⟨#[]⟩] _ 28 rfl rfl RI.out rfl (by kernel_rfl) (by simp [Value.oneCell']) ?_; intro wF hW hbW hsW hoW; have bF : Below w.heap.size w wF := bR.trans (hbW _ (Nat.le_refl _)); have zF : w.heap.size < wF.heap.size := (by rw [hsW]; exact zwr); have cF := fun o => cellB hW o; clear hW hbW hsW hoW)
              refine bodyPost_ret (v := .tuple #[.agg #[.int .i64 0, .int .i64 0, .int .i64 0, .int .i64 0, .int .i64 0, .int .i64 0, .int .i64 0, .int .i64 0, .int .i64 0, .int .i64 0, .slice none 0 0, .string ⟨#[]⟩], .int .i64 E]) (by simp [results, Try.results27, go_sem, World.cell?_setCell_same', cF, zF]) rfl ?_
              rw [HV.out]
              exact ⟨_, rfl, RBlks.nil _ _, bF⟩
          subst e0
          have hRP : resP ⟨f, kn, dt⟩ = V := (allP_good HA2.out).symm.trans HVV.out
          obtain ⟨VB, VE⟩ := V
          have cg := fun o => cellB I1.out o
          as_aux_lemma =>
            go_wp2_with fail
            refine (rres_any ⟨f, kn, dt⟩ _ _ w2.heap.size _ (by omega) (HRB.out.to (fun q hD => hD.2)) HKN.out HFT.out.1 HFT.out.2).mono ?_
            rw [hRP]
            clear hRP
            rintro e w4 ⟨u4, rfl, hpick, hr4, hb4⟩
            simp only at hr4
            have D4 := Lib.hid (rblks_pick (by rcases hpick with h | h; exact .inl h; exact .inr (.inl h)) hr4 HRB.out HRB.out)
            obtain ⟨a4, c4, rfl, -⟩ := id hr4
            simp only [bunC]
            have b4 : Below w.heap.size w w4 := btrans0 bR hb4
            have z4 : w.heap.size < w4.heap.size := by have := hb4.size; omega
            have y4 : w2.heap.size ≤ w4.heap.size := by have := hb4.size; omega
            have R4 := Lib.hid ((hb4.block _ (by omega)).trans RI.out)
            clear hpick hr4 hb4 cr fr cg I1 RI
            go_upto_region 11 with fail
            obtain ⟨w5, hw5⟩ : ∃ q, w4.alloc (.cells #[.int .i64 VB.src, .int .i64 VB.crt, .int .i64 VB.seq, .int .i64 VB.off, .int .i64 VB.tot, .int .i64 VB.dk, .int .i64 VB.dn, .int .i64 VB.life, .int .i64 VB.prio, .int .i64 VB.flags, .slice a4 VB.blocks.length c4, .string (B VB.payload)] 28 (0, 0)) = q := ⟨_, rfl⟩
            rw [hw5]
            have X5 : Hid (w5.heap[w4.heap.size]? = some (.cells #[.int .i64 VB.src, .int .i64 VB.crt, .int .i64 VB.seq, .int .i64 VB.off, .int .i64 VB.tot, .int .i64 VB.dk, .int .i64 VB.dn, .int .i64 VB.life, .int .i64 VB.prio, .int .i64 VB.flags, .slice a4 VB.blocks.length c4, .string (B VB.payload)] 28 (0, 0))) := Lib.hid (by rw [← hw5]; exact heap_new)
            have o5 : ∀ q, q < w4.heap.size → w5.heap[q]? = w4.heap[q]? := fun q hq => by rw [← hw5]; exact Below.heap_alloc _ _ _ hq
            have R5 := Lib.hid ((o5 _ z4).trans R4.out)
            have b5 : Below w.heap.size w w5 := by rw [← hw5]; exact belowA
            have s5 : w4.heap.size < w5.heap.size := by rw [← hw5]; simp
            have z5 : w.heap.size < w5.heap.size := by omega
            have D5 : Hid (RBlksD w5 (AllD w.heap.size w2.heap.size) (.slice a4 VB.blocks.length c4) VB.blocks) := Lib.hid (D4.out.keep (fun q o hD => World.cell?_of_block (o5 q (by have := hD.2; omega))) (fun _ h => h))
            clear hw5 o5
            have cx := fun o => cellB X5.out o
            have HXF : Hid (∀ wF : World, wF.heap.size = w5.heap.size → (∀ q, q ≠ w.heap.size → wF.heap[q]? = w5.heap[q]?) → RBlks wF wF.heap.size (.slice a4 VB.blocks.length c4) VB.blocks) := Lib.hid (fun wF hsW hoW => RBlksD.to (D := AllD w.heap.size w2.heap.size) (D5.out.keep (fun q o hD => World.cell?_of_block (hoW q hD.1)) (fun _ h => h)) (fun q hD => by have := hD.2; rw [hsW]; omega))
            go_wp2_with (refine wpList_store_block rfl 28 _ _ rfl w.heap.size #[.int .i64 VB.src, .int .i64 VB.crt, .int .i64 VB.seq, .int .i64 VB.off, .int .i64 VB.tot, .int .i64 VB.dk, .int .i64 VB.dn, .int .i64 VB.life, .int .i64 VB.prio, .int .i64 VB.flags, .slice a4 VB.blocks.length c4, .string (B VB.payload)] _ 28 rfl rfl R5.out rfl (by kernel_rfl) (by simp [Value.oneCell']) ?_; intro wF hW hbW hsW hoW; have bF : Below w.heap.size w wF := b5.trans (hbW _ (Nat.le_refl _)); have zF : w.heap.size < wF.heap.size := (by rw [hsW]; exact z5); have DF := Lib.hid (HXF.out wF hsW hoW); have cF := fun o => cellB hW o; clear hW hbW hsW hoW)
            refine bodyPost_ret (v := .tuple #[.agg #[.int .i64 VB.src, .int .i64 VB.crt, .int .i64 VB.seq, .int .i64 VB.off, .int .i64 VB.tot, .int .i64 VB.dk, .int .i64 VB.dn, .int .i64 VB.life, .int .i64 VB.prio, .int .i64 VB.flags, .slice a4 VB.blocks.length c4, .string (B VB.payload)], .int .i64 VE]) (by simp [results, Try.results27, go_sem, World.cell?_setCell_same', cF, zF]) rfl ?_
            exact ⟨_, rfl, DF.out, bF⟩
end Go.Proofs.Ytpnfkmlgelcbgaa

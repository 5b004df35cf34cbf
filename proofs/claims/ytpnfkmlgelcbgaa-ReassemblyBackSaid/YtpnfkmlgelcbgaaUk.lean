/- Chapter 18: the law's awake. -/
import Derived.Test.YtpnfkmlgelcbgaaUf
import Derived.Test.YtpnfkmlgelcbgaaUj
import Derived.Test.YtpnfkmlgelcbgaaUd
import Derived.Test.YtpnfkmlgelcbgaaUa
import Derived.Test.YtpnfkmlgelcbgaaSx
set_option linter.unusedVariables false
set_option linter.unusedSimpArgs false
namespace Go.Proofs.Ytpnfkmlgelcbgaa
open Go Go.RowKit Iv
attribute [local go_sem] Oper.semAt_some
attribute [local go_sem] B_getElem B_size B_app B_extract B_get B_toList
theorem own_lit {W : World} {base g n size : Nat} {e : TypeId} {xs : List Value} (hg : W.heap[g]? = some (.cells xs.toArray e (0, 0))) (hb : base ≤ g) (hl : xs.length = n * size) (hm : n ≤ maxLen) : W.ownsRow base e size (.slice (some ⟨g, 0, none⟩) n n) n xs :=
  ⟨hl, .inr ⟨g, n, xs.toArray, rfl, hb, hg, Nat.le_refl _, hm, by simpa using hl, by rw [← hl]; simp⟩⟩
theorem blks0 {w : World} {D : Nat → Prop} {u : Value} (h : RBlksD w D u []) : ∃ a c, u = .slice a 0 c ∧ ∀ W N, RBlks W N (.slice a 0 c) [] := by
  obtain ⟨a, c, rfl, h1, h2, h3, h4⟩ := h
  exact ⟨a, c, rfl, fun W N => ⟨a, c, rfl, Nat.zero_le _, h2, h3, fun h => by cases h⟩⟩
theorem fits0 {b : Bun} (h1 : b.payload.length ≤ maxLen) (h2 : b.blocks = []) : Fits b := ⟨h1, fun x hx => by rw [h2] at hx; cases hx⟩
theorem awX_fit : Fits awX := fits0 (by simp [awX, maxLen]) rfl
theorem awY_fit : Fits awY := fits0 (by simp [awY, maxLen]) rfl
theorem awZ_fit : Fits awZ := fits0 (by simp [awZ, maxLen]) rfl
theorem awB_fit : Fits awB := fits0 (by simp [awB, maxLen]) rfl
theorem awP_fit : Fits awP.head := fits0 (by simp [awP, maxLen]) rfl
theorem runs2 {w : World} {g : Nat} {x y : Bun} {ux uy : Value} (hg : w.heap[g]? = some (.cells (bunC x ux ++ bunC y uy).toArray 28 (0, 0))) (hx : RBlks w w.heap.size ux x.blocks) (hy : RBlks w w.heap.size uy y.blocks) : RBuns w w.heap.size (.slice (some ⟨g, 0, none⟩) 2 2) [x, y] :=
  RBuns.of_own (base := 0) (rs := [(x, ux), (y, uy)]) (own_lit (n := 2) (size := 12) (by simpa using hg) (Nat.zero_le _) (by rfl) (by simp [maxLen])) (fun r hr => by
    have : r = (x, ux) ∨ r = (y, uy) := by simpa using hr
    rcases this with rfl | rfl
    · exact hx
    · exact hy)
theorem run_max5 {P : Program} (ts : Array TypeId) (t : TypeId) (w : World) : (Builtin.max_ ts t #[.int .i64 0, .int .i64 0, .int .i64 0, .int .i64 0, .int .i64 0]).run P w = .ok (.int .i64 0) w := by
  simp [Builtin.max_, Builtin.max2]
attribute [local go_sem] run_max5
set_option maxRecDepth 100000 in
set_option maxHeartbeats 16000000 in
theorem awake_any (w : World) : Calls Try.prog 12 #[] w (Says w) := by
  go_enter Try.func12, Try.ntmps12
  go_upto_region 2 with fail
  obtain ⟨w1, hw1⟩ : ∃ q, w.alloc (.cells (bunC awB (.slice none 0 0)).toArray 28 (0, 0)) = q := ⟨_, rfl⟩
  simp only [bunC, parC, awB, awX, awY, awZ, awP, zBun, List.cons_append, List.nil_append] at hw1
  have hw1' := hw1
  simp only [B] at hw1'
  rw [hw1']
  clear hw1'
  have y1 : w.heap.size < w1.heap.size := by rw [← hw1]; simp
  have B1 : Below w.heap.size w w1 := by rw [← hw1]; exact balloc0 (Below.refl _ _)
  have Xb1 : Hid (w1.heap[w.heap.size]? = some (.cells (bunC awB (.slice none 0 0)).toArray 28 (0, 0))) := Lib.hid (by rw [← hw1]; exact heap_new)
  have zb1 : w.heap.size < w1.heap.size := by omega
  clear hw1
  have cb := fun o => cellB Xb1.out o
  simp only [bunC, parC, awB, awX, awY, awZ, awP, zBun, List.cons_append, List.nil_append] at cb
  go_wp2_with fail
  refine (cutr_any awB _ 0 3 w.heap.size _ (by omega) (RBlks.nil _ _) awB_fit).mono ?_
  rw [aw_x]
  rintro e w2 ⟨ux, rfl, hx, hb2⟩
  have B2 : Below w.heap.size w w2 := btrans0 B1 hb2
  have y2 : w1.heap.size ≤ w2.heap.size := by have := hb2.size; (try simp at this); omega
  have Xb2 : Hid (w2.heap[w.heap.size]? = some (.cells (bunC awB (.slice none 0 0)).toArray 28 (0, 0))) := Lib.hid ((hb2.block _ (by first | omega | (simp; omega))).trans (Xb1.out))
  have zb2 : w.heap.size < w2.heap.size := by omega
  clear cb
  obtain ⟨ax, nx, rfl, HRx⟩ := blks0 hx
  have HRx := Lib.hid HRx
  clear hx
  clear hb2
  have cb := fun o => cellB Xb2.out o
  simp only [bunC, parC, awB, awX, awY, awZ, awP, zBun, List.cons_append, List.nil_append] at cb
  simp only [bunC, awX]
  go_upto_region 3 with fail
  obtain ⟨w3, hw3⟩ : ∃ q, w2.alloc (.cells (bunC awX (.slice ax 0 nx)).toArray 28 (0, 0)) = q := ⟨_, rfl⟩
  simp only [bunC, parC, awB, awX, awY, awZ, awP, zBun, List.cons_append, List.nil_append] at hw3
  rw [hw3]
  have y3 : w2.heap.size < w3.heap.size := by rw [← hw3]; simp
  have B3 : Below w.heap.size w w3 := by rw [← hw3]; exact balloc0 B2
  have Xb3 : Hid (w3.heap[w.heap.size]? = some (.cells (bunC awB (.slice none 0 0)).toArray 28 (0, 0))) := Lib.hid (by rw [← hw3]; exact (Below.heap_alloc _ _ _ (by omega)).trans Xb2.out)
  have zb3 : w.heap.size < w3.heap.size := by omega
  have Xx3 : Hid (w3.heap[w2.heap.size]? = some (.cells (bunC awX (.slice ax 0 nx)).toArray 28 (0, 0))) := Lib.hid (by rw [← hw3]; exact heap_new)
  have zx3 : w2.heap.size < w3.heap.size := by omega
  clear cb
  clear hw3
  have cb := fun o => cellB Xb3.out o
  have cx := fun o => cellB Xx3.out o
  simp only [bunC, parC, awB, awX, awY, awZ, awP, zBun, List.cons_append, List.nil_append] at cb cx
  go_wp2_with fail
  refine (cutr_any awB _ 2 5 w.heap.size _ (by omega) (RBlks.nil _ _) awB_fit).mono ?_
  rw [aw_y]
  rintro e w4 ⟨uy, rfl, hy, hb4⟩
  have B4 : Below w.heap.size w w4 := btrans0 B3 hb4
  have y4 : w3.heap.size ≤ w4.heap.size := by have := hb4.size; (try simp at this); omega
  have Xb4 : Hid (w4.heap[w.heap.size]? = some (.cells (bunC awB (.slice none 0 0)).toArray 28 (0, 0))) := Lib.hid ((hb4.block _ (by first | omega | (simp; omega))).trans (Xb3.out))
  have zb4 : w.heap.size < w4.heap.size := by omega
  have Xx4 : Hid (w4.heap[w2.heap.size]? = some (.cells (bunC awX (.slice ax 0 nx)).toArray 28 (0, 0))) := Lib.hid ((hb4.block _ (by first | omega | (simp; omega))).trans (Xx3.out))
  have zx4 : w2.heap.size < w4.heap.size := by omega
  clear cb cx
  obtain ⟨ay, ny, rfl, HRy⟩ := blks0 hy
  have HRy := Lib.hid HRy
  clear hy
  clear hb4
  have cb := fun o => cellB Xb4.out o
  have cx := fun o => cellB Xx4.out o
  simp only [bunC, parC, awB, awX, awY, awZ, awP, zBun, List.cons_append, List.nil_append] at cb cx
  simp only [bunC, awY]
  go_upto_region 4 with fail
  obtain ⟨w5, hw5⟩ : ∃ q, w4.alloc (.cells (bunC awY (.slice ay 0 ny)).toArray 28 (0, 0)) = q := ⟨_, rfl⟩
  simp only [bunC, parC, awB, awX, awY, awZ, awP, zBun, List.cons_append, List.nil_append] at hw5
  rw [hw5]
  have y5 : w4.heap.size < w5.heap.size := by rw [← hw5]; simp
  have B5 : Below w.heap.size w w5 := by rw [← hw5]; exact balloc0 B4
  have Xb5 : Hid (w5.heap[w.heap.size]? = some (.cells (bunC awB (.slice none 0 0)).toArray 28 (0, 0))) := Lib.hid (by rw [← hw5]; exact (Below.heap_alloc _ _ _ (by omega)).trans Xb4.out)
  have zb5 : w.heap.size < w5.heap.size := by omega
  have Xx5 : Hid (w5.heap[w2.heap.size]? = some (.cells (bunC awX (.slice ax 0 nx)).toArray 28 (0, 0))) := Lib.hid (by rw [← hw5]; exact (Below.heap_alloc _ _ _ (by omega)).trans Xx4.out)
  have zx5 : w2.heap.size < w5.heap.size := by omega
  have Xy5 : Hid (w5.heap[w4.heap.size]? = some (.cells (bunC awY (.slice ay 0 ny)).toArray 28 (0, 0))) := Lib.hid (by rw [← hw5]; exact heap_new)
  have zy5 : w4.heap.size < w5.heap.size := by omega
  clear cb cx
  clear hw5
  have cb := fun o => cellB Xb5.out o
  have cx := fun o => cellB Xx5.out o
  have cy := fun o => cellB Xy5.out o
  simp only [bunC, parC, awB, awX, awY, awZ, awP, zBun, List.cons_append, List.nil_append] at cb cx cy
  go_wp2_with fail
  refine (new_any awY _ w.heap.size _ (by omega) (HRy.out _ _) awY_fit).mono ?_
  rw [aw_p]
  rintro e w6 ⟨up, uk, rfl, hp, hk, _, hb6⟩
  have B6 : Below w.heap.size w w6 := btrans0 B5 hb6
  have y6 : w5.heap.size ≤ w6.heap.size := by have := hb6.size; (try simp at this); omega
  have Xb6 : Hid (w6.heap[w.heap.size]? = some (.cells (bunC awB (.slice none 0 0)).toArray 28 (0, 0))) := Lib.hid ((hb6.block _ (by first | omega | (simp; omega))).trans (Xb5.out))
  have zb6 : w.heap.size < w6.heap.size := by omega
  have Xx6 : Hid (w6.heap[w2.heap.size]? = some (.cells (bunC awX (.slice ax 0 nx)).toArray 28 (0, 0))) := Lib.hid ((hb6.block _ (by first | omega | (simp; omega))).trans (Xx5.out))
  have zx6 : w2.heap.size < w6.heap.size := by omega
  have Xy6 : Hid (w6.heap[w4.heap.size]? = some (.cells (bunC awY (.slice ay 0 ny)).toArray 28 (0, 0))) := Lib.hid ((hb6.block _ (by first | omega | (simp; omega))).trans (Xy5.out))
  have zy6 : w4.heap.size < w6.heap.size := by omega
  clear cb cx cy
  obtain ⟨ap, np, rfl, HRp⟩ := blks0 hp
  have HRp := Lib.hid HRp
  obtain ⟨ka, kc, rfl, -⟩ := id hk
  have HK := Lib.hid hk
  clear hp hk
  clear hb6
  have cb := fun o => cellB Xb6.out o
  have cx := fun o => cellB Xx6.out o
  have cy := fun o => cellB Xy6.out o
  simp only [bunC, parC, awB, awX, awY, awZ, awP, zBun, List.cons_append, List.nil_append] at cb cx cy
  simp only [parC, bunC, awP, List.cons_append, List.nil_append, List.length_cons, List.length_nil]
  go_upto_region 5 with fail
  obtain ⟨w7, hw7⟩ : ∃ q, w6.alloc (.cells (parC awP (.slice ap 0 np) (.slice ka 1 kc)).toArray 31 (0, 0)) = q := ⟨_, rfl⟩
  simp only [bunC, parC, awB, awX, awY, awZ, awP, zBun, List.cons_append, List.nil_append] at hw7
  rw [hw7]
  have y7 : w6.heap.size < w7.heap.size := by rw [← hw7]; simp
  have B7 : Below w.heap.size w w7 := by rw [← hw7]; exact balloc0 B6
  have Xb7 : Hid (w7.heap[w.heap.size]? = some (.cells (bunC awB (.slice none 0 0)).toArray 28 (0, 0))) := Lib.hid (by rw [← hw7]; exact (Below.heap_alloc _ _ _ (by omega)).trans Xb6.out)
  have zb7 : w.heap.size < w7.heap.size := by omega
  have Xx7 : Hid (w7.heap[w2.heap.size]? = some (.cells (bunC awX (.slice ax 0 nx)).toArray 28 (0, 0))) := Lib.hid (by rw [← hw7]; exact (Below.heap_alloc _ _ _ (by omega)).trans Xx6.out)
  have zx7 : w2.heap.size < w7.heap.size := by omega
  have Xy7 : Hid (w7.heap[w4.heap.size]? = some (.cells (bunC awY (.slice ay 0 ny)).toArray 28 (0, 0))) := Lib.hid (by rw [← hw7]; exact (Below.heap_alloc _ _ _ (by omega)).trans Xy6.out)
  have zy7 : w4.heap.size < w7.heap.size := by omega
  have Xp7 : Hid (w7.heap[w6.heap.size]? = some (.cells (parC awP (.slice ap 0 np) (.slice ka 1 kc)).toArray 31 (0, 0))) := Lib.hid (by rw [← hw7]; exact heap_new)
  have zp7 : w6.heap.size < w7.heap.size := by omega
  clear cb cx cy
  have SAME7 : ∀ b, b < w6.heap.size → w7.heap[b]? = w6.heap[b]? := fun b hb => by rw [← hw7]; exact Below.heap_alloc _ _ _ hb
  clear hw7
  have cb := fun o => cellB Xb7.out o
  have cx := fun o => cellB Xx7.out o
  have cy := fun o => cellB Xy7.out o
  have cp := fun o => cellB Xp7.out o
  simp only [bunC, parC, awB, awX, awY, awZ, awP, zBun, List.cons_append, List.nil_append] at cb cx cy cp
  have HK7 : Hid (RSps w7 w7.heap.size (.slice ka 1 kc) awP.known) := Lib.hid (HK.out.keep (fun b o hb => World.cell?_of_block (SAME7 b hb)) (by omega))
  go_wp2_with fail
  refine (miss_any awP _ _ _ (HRp.out _ _) HK7.out awP_fit (by simp [awP, maxLen])).mono ?_
  unfold SpsPostF
  rw [aw_m]
  rintro e w8 ⟨um, rfl, hm, hmf, hb8⟩
  have B8 : Below w.heap.size w w8 := btrans0 B7 hb8
  have y8 : w7.heap.size ≤ w8.heap.size := by have := hb8.size; (try simp at this); omega
  have Xb8 : Hid (w8.heap[w.heap.size]? = some (.cells (bunC awB (.slice none 0 0)).toArray 28 (0, 0))) := Lib.hid ((hb8.block _ (by first | omega | (simp; omega))).trans (Xb7.out))
  have zb8 : w.heap.size < w8.heap.size := by omega
  have Xx8 : Hid (w8.heap[w2.heap.size]? = some (.cells (bunC awX (.slice ax 0 nx)).toArray 28 (0, 0))) := Lib.hid ((hb8.block _ (by first | omega | (simp; omega))).trans (Xx7.out))
  have zx8 : w2.heap.size < w8.heap.size := by omega
  have Xy8 : Hid (w8.heap[w4.heap.size]? = some (.cells (bunC awY (.slice ay 0 ny)).toArray 28 (0, 0))) := Lib.hid ((hb8.block _ (by first | omega | (simp; omega))).trans (Xy7.out))
  have zy8 : w4.heap.size < w8.heap.size := by omega
  have Xp8 : Hid (w8.heap[w6.heap.size]? = some (.cells (parC awP (.slice ap 0 np) (.slice ka 1 kc)).toArray 31 (0, 0))) := Lib.hid ((hb8.block _ (by first | omega | (simp; omega))).trans (Xp7.out))
  have zp8 : w6.heap.size < w8.heap.size := by omega
  clear cb cx cy cp
  obtain ⟨ma, mc, rfl, -⟩ := id hm
  have HM8 := Lib.hid hm
  have FM := Lib.hid hmf
  clear hm hmf
  clear hb8
  have cb := fun o => cellB Xb8.out o
  have cx := fun o => cellB Xx8.out o
  have cy := fun o => cellB Xy8.out o
  have cp := fun o => cellB Xp8.out o
  simp only [bunC, parC, awB, awX, awY, awZ, awP, zBun, List.cons_append, List.nil_append] at cb cx cy cp
  simp only [List.length_cons, List.length_nil, Nat.zero_add]
  go_wp2_with fail
  refine (all_any [awY, awX] _ _ (runs2 (x := awY) (y := awX) (ux := (.slice ay 0 ny)) (uy := (.slice ax 0 nx)) (by exact heap_new) (HRy.out _ _) (HRx.out _ _)) (fun q hq => by simp at hq; rcases hq with rfl | rfl; exact awY_fit; exact awX_fit)).mono ?_
  rw [aw_c]
  rintro e w9 ⟨uc, rfl, hc, hb9⟩
  have B9 : Below w.heap.size w w9 := btrans0 (balloc0 B8) hb9
  have y9 : w8.heap.size ≤ w9.heap.size := by have := hb9.size; (try simp at this); omega
  have Xb9 : Hid (w9.heap[w.heap.size]? = some (.cells (bunC awB (.slice none 0 0)).toArray 28 (0, 0))) := Lib.hid ((hb9.block _ (by first | omega | (simp; omega))).trans ((Below.heap_alloc _ _ _ (by omega)).trans Xb8.out))
  have zb9 : w.heap.size < w9.heap.size := by omega
  have Xx9 : Hid (w9.heap[w2.heap.size]? = some (.cells (bunC awX (.slice ax 0 nx)).toArray 28 (0, 0))) := Lib.hid ((hb9.block _ (by first | omega | (simp; omega))).trans ((Below.heap_alloc _ _ _ (by omega)).trans Xx8.out))
  have zx9 : w2.heap.size < w9.heap.size := by omega
  have Xy9 : Hid (w9.heap[w4.heap.size]? = some (.cells (bunC awY (.slice ay 0 ny)).toArray 28 (0, 0))) := Lib.hid ((hb9.block _ (by first | omega | (simp; omega))).trans ((Below.heap_alloc _ _ _ (by omega)).trans Xy8.out))
  have zy9 : w4.heap.size < w9.heap.size := by omega
  have Xp9 : Hid (w9.heap[w6.heap.size]? = some (.cells (parC awP (.slice ap 0 np) (.slice ka 1 kc)).toArray 31 (0, 0))) := Lib.hid ((hb9.block _ (by first | omega | (simp; omega))).trans ((Below.heap_alloc _ _ _ (by omega)).trans Xp8.out))
  have zp9 : w6.heap.size < w9.heap.size := by omega
  clear cb cx cy cp
  have HM9 := Lib.hid (HM8.out.below' (btrans0 (balloc0 (Below.refl _ _)) hb9))
  obtain ⟨ac, nc, rfl, HRc⟩ := blks0 (RBlksD.of hc)
  clear hc
  clear hb9
  have cb := fun o => cellB Xb9.out o
  have cx := fun o => cellB Xx9.out o
  have cy := fun o => cellB Xy9.out o
  have cp := fun o => cellB Xp9.out o
  simp only [bunC, parC, awB, awX, awY, awZ, awP, zBun, List.cons_append, List.nil_append] at cb cx cy cp
  simp only [bunC, awB]
  have HRc1 := Lib.hid HRc
  clear HRc
  go_upto_region 7 with fail
  obtain ⟨w10, hw10⟩ : ∃ q, w9.alloc (.cells (bunC awB (.slice ac 0 nc)).toArray 28 (0, 0)) = q := ⟨_, rfl⟩
  simp only [bunC, parC, awB, awX, awY, awZ, awP, zBun, List.cons_append, List.nil_append] at hw10
  rw [hw10]
  have y10 : w9.heap.size < w10.heap.size := by rw [← hw10]; simp
  have B10 : Below w.heap.size w w10 := by rw [← hw10]; exact balloc0 B9
  have Xb10 : Hid (w10.heap[w.heap.size]? = some (.cells (bunC awB (.slice none 0 0)).toArray 28 (0, 0))) := Lib.hid (by rw [← hw10]; exact (Below.heap_alloc _ _ _ (by omega)).trans Xb9.out)
  have zb10 : w.heap.size < w10.heap.size := by omega
  have Xx10 : Hid (w10.heap[w2.heap.size]? = some (.cells (bunC awX (.slice ax 0 nx)).toArray 28 (0, 0))) := Lib.hid (by rw [← hw10]; exact (Below.heap_alloc _ _ _ (by omega)).trans Xx9.out)
  have zx10 : w2.heap.size < w10.heap.size := by omega
  have Xy10 : Hid (w10.heap[w4.heap.size]? = some (.cells (bunC awY (.slice ay 0 ny)).toArray 28 (0, 0))) := Lib.hid (by rw [← hw10]; exact (Below.heap_alloc _ _ _ (by omega)).trans Xy9.out)
  have zy10 : w4.heap.size < w10.heap.size := by omega
  have Xp10 : Hid (w10.heap[w6.heap.size]? = some (.cells (parC awP (.slice ap 0 np) (.slice ka 1 kc)).toArray 31 (0, 0))) := Lib.hid (by rw [← hw10]; exact (Below.heap_alloc _ _ _ (by omega)).trans Xp9.out)
  have zp10 : w6.heap.size < w10.heap.size := by omega
  have Xc10 : Hid (w10.heap[w9.heap.size]? = some (.cells (bunC awB (.slice ac 0 nc)).toArray 28 (0, 0))) := Lib.hid (by rw [← hw10]; exact heap_new)
  have zc10 : w9.heap.size < w10.heap.size := by omega
  clear cb cx cy cp
  have HM10 := Lib.hid (HM9.out.below' (show Below w9.heap.size w9 w10 by rw [← hw10]; exact balloc0 (Below.refl _ _)))
  clear hw10
  have cb := fun o => cellB Xb10.out o
  have cx := fun o => cellB Xx10.out o
  have cy := fun o => cellB Xy10.out o
  have cp := fun o => cellB Xp10.out o
  have cc := fun o => cellB Xc10.out o
  simp only [bunC, parC, awB, awX, awY, awZ, awP, zBun, List.cons_append, List.nil_append] at cb cx cy cp cc
  have fy := fun o => frozenB Xy10.out o
  go_upto_region 8 with fail
  obtain ⟨w11, hw11⟩ : ∃ q, q = w10.setCell ⟨w4.heap.size, 11, none⟩ (.string (B [120, 108, 111])) := ⟨_, rfl⟩
  have hw11' := hw11
  simp only [B] at hw11'
  rw [← hw11']
  clear hw11'
  have o11 : ∀ q, q ≠ w4.heap.size → w11.heap[q]? = w10.heap[q]? := fun q hq => by rw [hw11]; exact heap_setCell_other _ _ _ _ (by exact hq)
  have s11 : w11.heap.size = w10.heap.size := by rw [hw11]; simp
  have B11 : Below w.heap.size w w11 := by rw [hw11]; exact bset B10 (by show w.heap.size ≤ w4.heap.size; omega)
  have y11 : w10.heap.size ≤ w11.heap.size := by omega
  have Xb11 : Hid (w11.heap[w.heap.size]? = some (.cells (bunC awB (.slice none 0 0)).toArray 28 (0, 0))) := Lib.hid ((o11 _ (by omega)).trans Xb10.out)
  have zb11 : w.heap.size < w11.heap.size := by omega
  have Xx11 : Hid (w11.heap[w2.heap.size]? = some (.cells (bunC awX (.slice ax 0 nx)).toArray 28 (0, 0))) := Lib.hid ((o11 _ (by omega)).trans Xx10.out)
  have zx11 : w2.heap.size < w11.heap.size := by omega
  have Xy11 : Hid (w11.heap[w4.heap.size]? = some (.cells (bunC awZ (.slice ay 0 ny)).toArray 28 (0, 0))) := Lib.hid (by rw [hw11]; have := setB Xy10.out 11 (.string (B [120, 108, 111])); simpa [bunC, awY, awZ] using this)
  have zy11 : w4.heap.size < w11.heap.size := by omega
  have Xp11 : Hid (w11.heap[w6.heap.size]? = some (.cells (parC awP (.slice ap 0 np) (.slice ka 1 kc)).toArray 31 (0, 0))) := Lib.hid ((o11 _ (by omega)).trans Xp10.out)
  have zp11 : w6.heap.size < w11.heap.size := by omega
  have Xc11 : Hid (w11.heap[w9.heap.size]? = some (.cells (bunC awB (.slice ac 0 nc)).toArray 28 (0, 0))) := Lib.hid ((o11 _ (by omega)).trans Xc10.out)
  have zc11 : w9.heap.size < w11.heap.size := by omega
  have HM11 := Lib.hid (HM10.out.keepFrom FM.out (fun b hb => o11 b (by omega)) (by omega))
  clear cb cx cy cp cc
  clear hw11 o11 s11 fy
  have cb := fun o => cellB Xb11.out o
  have cx := fun o => cellB Xx11.out o
  have cy := fun o => cellB Xy11.out o
  have cp := fun o => cellB Xp11.out o
  have cc := fun o => cellB Xc11.out o
  simp only [bunC, parC, awB, awX, awY, awZ, awP, zBun, List.cons_append, List.nil_append] at cb cx cy cp cc
  go_wp2_with fail
  refine (all_any [awX, awZ] _ _ (runs2 (x := awX) (y := awZ) (ux := (.slice ax 0 nx)) (uy := (.slice ay 0 ny)) (by exact heap_new) (HRx.out _ _) (HRy.out _ _)) (fun q hq => by simp at hq; rcases hq with rfl | rfl; exact awX_fit; exact awZ_fit)).mono ?_
  rw [aw_j]
  rintro e w12 ⟨uc, rfl, hc, hb12⟩
  have B12 : Below w.heap.size w w12 := btrans0 (balloc0 B11) hb12
  have y12 : w11.heap.size ≤ w12.heap.size := by have := hb12.size; (try simp at this); omega
  have Xb12 : Hid (w12.heap[w.heap.size]? = some (.cells (bunC awB (.slice none 0 0)).toArray 28 (0, 0))) := Lib.hid ((hb12.block _ (by first | omega | (simp; omega))).trans ((Below.heap_alloc _ _ _ (by omega)).trans Xb11.out))
  have zb12 : w.heap.size < w12.heap.size := by omega
  have Xx12 : Hid (w12.heap[w2.heap.size]? = some (.cells (bunC awX (.slice ax 0 nx)).toArray 28 (0, 0))) := Lib.hid ((hb12.block _ (by first | omega | (simp; omega))).trans ((Below.heap_alloc _ _ _ (by omega)).trans Xx11.out))
  have zx12 : w2.heap.size < w12.heap.size := by omega
  have Xy12 : Hid (w12.heap[w4.heap.size]? = some (.cells (bunC awZ (.slice ay 0 ny)).toArray 28 (0, 0))) := Lib.hid ((hb12.block _ (by first | omega | (simp; omega))).trans ((Below.heap_alloc _ _ _ (by omega)).trans Xy11.out))
  have zy12 : w4.heap.size < w12.heap.size := by omega
  have Xp12 : Hid (w12.heap[w6.heap.size]? = some (.cells (parC awP (.slice ap 0 np) (.slice ka 1 kc)).toArray 31 (0, 0))) := Lib.hid ((hb12.block _ (by first | omega | (simp; omega))).trans ((Below.heap_alloc _ _ _ (by omega)).trans Xp11.out))
  have zp12 : w6.heap.size < w12.heap.size := by omega
  have Xc12 : Hid (w12.heap[w9.heap.size]? = some (.cells (bunC awB (.slice ac 0 nc)).toArray 28 (0, 0))) := Lib.hid ((hb12.block _ (by first | omega | (simp; omega))).trans ((Below.heap_alloc _ _ _ (by omega)).trans Xc11.out))
  have zc12 : w9.heap.size < w12.heap.size := by omega
  clear cb cx cy cp cc
  have HM12 := Lib.hid (HM11.out.below' (btrans0 (balloc0 (Below.refl _ _)) hb12))
  obtain ⟨ad, nd, rfl, HRc⟩ := blks0 (RBlksD.of hc)
  clear hc
  clear hb12
  have cb := fun o => cellB Xb12.out o
  have cx := fun o => cellB Xx12.out o
  have cy := fun o => cellB Xy12.out o
  have cp := fun o => cellB Xp12.out o
  have cc := fun o => cellB Xc12.out o
  simp only [bunC, parC, awB, awX, awY, awZ, awP, zBun, List.cons_append, List.nil_append] at cb cx cy cp cc
  simp only [bunC, zBun]
  go_upto_region 9 with fail
  obtain ⟨w13, hw13⟩ : ∃ q, w12.alloc (.cells (bunC zBun (.slice ad 0 nd)).toArray 28 (0, 0)) = q := ⟨_, rfl⟩
  simp only [bunC, parC, awB, awX, awY, awZ, awP, zBun, List.cons_append, List.nil_append] at hw13
  rw [hw13]
  have y13 : w12.heap.size < w13.heap.size := by rw [← hw13]; simp
  have B13 : Below w.heap.size w w13 := by rw [← hw13]; exact balloc0 B12
  have Xb13 : Hid (w13.heap[w.heap.size]? = some (.cells (bunC awB (.slice none 0 0)).toArray 28 (0, 0))) := Lib.hid (by rw [← hw13]; exact (Below.heap_alloc _ _ _ (by omega)).trans Xb12.out)
  have zb13 : w.heap.size < w13.heap.size := by omega
  have Xx13 : Hid (w13.heap[w2.heap.size]? = some (.cells (bunC awX (.slice ax 0 nx)).toArray 28 (0, 0))) := Lib.hid (by rw [← hw13]; exact (Below.heap_alloc _ _ _ (by omega)).trans Xx12.out)
  have zx13 : w2.heap.size < w13.heap.size := by omega
  have Xy13 : Hid (w13.heap[w4.heap.size]? = some (.cells (bunC awZ (.slice ay 0 ny)).toArray 28 (0, 0))) := Lib.hid (by rw [← hw13]; exact (Below.heap_alloc _ _ _ (by omega)).trans Xy12.out)
  have zy13 : w4.heap.size < w13.heap.size := by omega
  have Xp13 : Hid (w13.heap[w6.heap.size]? = some (.cells (parC awP (.slice ap 0 np) (.slice ka 1 kc)).toArray 31 (0, 0))) := Lib.hid (by rw [← hw13]; exact (Below.heap_alloc _ _ _ (by omega)).trans Xp12.out)
  have zp13 : w6.heap.size < w13.heap.size := by omega
  have Xc13 : Hid (w13.heap[w9.heap.size]? = some (.cells (bunC awB (.slice ac 0 nc)).toArray 28 (0, 0))) := Lib.hid (by rw [← hw13]; exact (Below.heap_alloc _ _ _ (by omega)).trans Xc12.out)
  have zc13 : w9.heap.size < w13.heap.size := by omega
  have Xd13 : Hid (w13.heap[w12.heap.size]? = some (.cells (bunC zBun (.slice ad 0 nd)).toArray 28 (0, 0))) := Lib.hid (by rw [← hw13]; exact heap_new)
  have zd13 : w12.heap.size < w13.heap.size := by omega
  clear cb cx cy cp cc
  have HM13 := Lib.hid (HM12.out.below' (show Below w12.heap.size w12 w13 by rw [← hw13]; exact balloc0 (Below.refl _ _)))
  clear hw13
  have cb := fun o => cellB Xb13.out o
  have cx := fun o => cellB Xx13.out o
  have cy := fun o => cellB Xy13.out o
  have cp := fun o => cellB Xp13.out o
  have cc := fun o => cellB Xc13.out o
  have cd := fun o => cellB Xd13.out o
  simp only [bunC, parC, awB, awX, awY, awZ, awP, zBun, List.cons_append, List.nil_append] at cb cx cy cp cc cd
  go_wp2_with fail
  refine (eqSp_any [(0, 2)] _ _ (w13.alloc (.cells #[.int .i64 0, .int .i64 2] 47 (0, 0))) (HM13.out.below' (by exact belowA)) (RSps.one (t := 47) (f := (0, 0)) (by exact heap_new) rfl)).mono ?_
  rintro e w14 ⟨rfl, hb14⟩
  have B14 : Below w.heap.size w w14 := btrans0 (balloc0 B13) hb14
  have y14 : w13.heap.size ≤ w14.heap.size := by have := hb14.size; (try simp at this); omega
  have Xb14 : Hid (w14.heap[w.heap.size]? = some (.cells (bunC awB (.slice none 0 0)).toArray 28 (0, 0))) := Lib.hid ((hb14.block _ (by first | omega | (simp; omega))).trans ((Below.heap_alloc _ _ _ (by omega)).trans Xb13.out))
  have zb14 : w.heap.size < w14.heap.size := by omega
  have Xx14 : Hid (w14.heap[w2.heap.size]? = some (.cells (bunC awX (.slice ax 0 nx)).toArray 28 (0, 0))) := Lib.hid ((hb14.block _ (by first | omega | (simp; omega))).trans ((Below.heap_alloc _ _ _ (by omega)).trans Xx13.out))
  have zx14 : w2.heap.size < w14.heap.size := by omega
  have Xy14 : Hid (w14.heap[w4.heap.size]? = some (.cells (bunC awZ (.slice ay 0 ny)).toArray 28 (0, 0))) := Lib.hid ((hb14.block _ (by first | omega | (simp; omega))).trans ((Below.heap_alloc _ _ _ (by omega)).trans Xy13.out))
  have zy14 : w4.heap.size < w14.heap.size := by omega
  have Xp14 : Hid (w14.heap[w6.heap.size]? = some (.cells (parC awP (.slice ap 0 np) (.slice ka 1 kc)).toArray 31 (0, 0))) := Lib.hid ((hb14.block _ (by first | omega | (simp; omega))).trans ((Below.heap_alloc _ _ _ (by omega)).trans Xp13.out))
  have zp14 : w6.heap.size < w14.heap.size := by omega
  have Xc14 : Hid (w14.heap[w9.heap.size]? = some (.cells (bunC awB (.slice ac 0 nc)).toArray 28 (0, 0))) := Lib.hid ((hb14.block _ (by first | omega | (simp; omega))).trans ((Below.heap_alloc _ _ _ (by omega)).trans Xc13.out))
  have zc14 : w9.heap.size < w14.heap.size := by omega
  have Xd14 : Hid (w14.heap[w12.heap.size]? = some (.cells (bunC zBun (.slice ad 0 nd)).toArray 28 (0, 0))) := Lib.hid ((hb14.block _ (by first | omega | (simp; omega))).trans ((Below.heap_alloc _ _ _ (by omega)).trans Xd13.out))
  have zd14 : w12.heap.size < w14.heap.size := by omega
  clear cb cx cy cp cc cd
  clear hb14
  have cb := fun o => cellB Xb14.out o
  have cx := fun o => cellB Xx14.out o
  have cy := fun o => cellB Xy14.out o
  have cp := fun o => cellB Xp14.out o
  have cc := fun o => cellB Xc14.out o
  have cd := fun o => cellB Xd14.out o
  simp only [bunC, parC, awB, awX, awY, awZ, awP, zBun, List.cons_append, List.nil_append] at cb cx cy cp cc cd
  go_wp2_with fail
  refine (bsame_any awB _ _ _ (RBlks.nil _ _) (HRc1.out _ _)).mono ?_
  rintro e w15 ⟨rfl, hb15⟩
  have B15 : Below w.heap.size w w15 := btrans0 B14 hb15
  have y15 : w14.heap.size ≤ w15.heap.size := by have := hb15.size; (try simp at this); omega
  have Xb15 : Hid (w15.heap[w.heap.size]? = some (.cells (bunC awB (.slice none 0 0)).toArray 28 (0, 0))) := Lib.hid ((hb15.block _ (by first | omega | (simp; omega))).trans (Xb14.out))
  have zb15 : w.heap.size < w15.heap.size := by omega
  have Xx15 : Hid (w15.heap[w2.heap.size]? = some (.cells (bunC awX (.slice ax 0 nx)).toArray 28 (0, 0))) := Lib.hid ((hb15.block _ (by first | omega | (simp; omega))).trans (Xx14.out))
  have zx15 : w2.heap.size < w15.heap.size := by omega
  have Xy15 : Hid (w15.heap[w4.heap.size]? = some (.cells (bunC awZ (.slice ay 0 ny)).toArray 28 (0, 0))) := Lib.hid ((hb15.block _ (by first | omega | (simp; omega))).trans (Xy14.out))
  have zy15 : w4.heap.size < w15.heap.size := by omega
  have Xp15 : Hid (w15.heap[w6.heap.size]? = some (.cells (parC awP (.slice ap 0 np) (.slice ka 1 kc)).toArray 31 (0, 0))) := Lib.hid ((hb15.block _ (by first | omega | (simp; omega))).trans (Xp14.out))
  have zp15 : w6.heap.size < w15.heap.size := by omega
  have Xc15 : Hid (w15.heap[w9.heap.size]? = some (.cells (bunC awB (.slice ac 0 nc)).toArray 28 (0, 0))) := Lib.hid ((hb15.block _ (by first | omega | (simp; omega))).trans (Xc14.out))
  have zc15 : w9.heap.size < w15.heap.size := by omega
  have Xd15 : Hid (w15.heap[w12.heap.size]? = some (.cells (bunC zBun (.slice ad 0 nd)).toArray 28 (0, 0))) := Lib.hid ((hb15.block _ (by first | omega | (simp; omega))).trans (Xd14.out))
  have zd15 : w12.heap.size < w15.heap.size := by omega
  clear cb cx cy cp cc cd
  clear hb15
  have cb := fun o => cellB Xb15.out o
  have cx := fun o => cellB Xx15.out o
  have cy := fun o => cellB Xy15.out o
  have cp := fun o => cellB Xp15.out o
  have cc := fun o => cellB Xc15.out o
  have cd := fun o => cellB Xd15.out o
  simp only [bunC, parC, awB, awX, awY, awZ, awP, zBun, List.cons_append, List.nil_append] at cb cx cy cp cc cd
  go_wp2
  go_ret
  exact ⟨rfl, belowA⟩
end Go.Proofs.Ytpnfkmlgelcbgaa

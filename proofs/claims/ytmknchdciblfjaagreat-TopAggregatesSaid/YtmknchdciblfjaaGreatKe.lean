/- Joined by port.py: XQp -/
import Derived.Test.YtmknchdciblfjaaGreatKc
import Derived.Test.YtmknchdciblfjaaGreatJo
import Derived.Test.YtmknchdciblfjaaGreatKaz
import Derived.Deep.AppendLies
import Derived.Laws.OwnMore
import Derived.Test.YtmknchdciblfjaaGreatJa
import Derived.Test.YtmknchdciblfjaaGreatJb
import Derived.Test.YtmknchdciblfjaaGreatJd
import Derived.Test.YtmknchdciblfjaaGreatJe
import Derived.Test.YtmknchdciblfjaaGreatJh
import Derived.Test.YtmknchdciblfjaaGreatJiz
import Derived.Test.YtmknchdciblfjaaGreatJs
import Derived.Test.YtmknchdciblfjaaGreatJp
import Derived.Test.YtmknchdciblfjaaGreatJv
import Derived.Test.YtmknchdciblfjaaGreatJw
import Derived.Test.YtmknchdciblfjaaGreatKd
set_option linter.unusedVariables false
set_option linter.unusedSimpArgs false
/-! XQp -/
namespace Go.Proofs.YtmknchdciblfjaaGreat
open Go.RowKit Go.Shelf
attribute [local go_sem] Oper.semAt_some
attribute [local go_sem] B_getElem B_size B_app B_extract B_get B_toList
theorem aparts_in (F : Fence) (n : Nat) (h : F.fn 90) (hro : F.round = none) (s : List UInt8) (w : World) :
    CallsIn F n Tryz.prog 90 #[.string (B s)] w fun e W' => e = .returned (.func (.func 155) #[] #[.pointer (some ⟨w.heap.size, 0, none⟩)]) ∧ W' = w.alloc (.cells #[.string (B s)] 9) := by
  refine callsIn_of_wp Tryz.func90 rfl h ?_ hro
  simp only [Tryz.ntmps90, List.size_toArray, List.length_cons, List.length_nil, Nat.reduceAdd, Nat.reduceSub, Array.replicate_succ, Array.replicate_zero, List.push_toArray, List.append_toArray, List.nil_append, List.cons_append]
  gi_wp2
  refine bodyPost_ret (results_tmp rfl _ _ _) rfl ?_
  exact ⟨rfl, rfl⟩
def ReadPost (l : List Bun) (ok : Bool) (w : World) (e : Ending) (w' : World) : Prop := ∃ v, e = .returned (.tuple #[v, .bool ok]) ∧ RBuns w' w'.heap.size v l ∧ Below w.heap.size w w'
theorem rbuns_nil (w : World) (N : Nat) : RBuns w N (.slice none 0 0) [] := ⟨none, 0, rfl, Nat.le_refl _, by simp [maxLen], fun _ => rfl, fun h => absurd h (by simp)⟩
structure RdX (w W : World) : Prop where
  r0 : Boxed W w.heap.size 22 (.slice none 0 0)
  r1 : Boxed W (w.heap.size + 1) 4 (.bool false)
  below : Below w.heap.size w W
structure RdI (w : World) (n₀ Z : Nat) (pre : List PIt) (W : World) : Prop where
  out : ∃ vo, Boxed W Z 22 vo ∧ OutB W 0 n₀ vo (pre.map (·.1))
  res : RdX w W
  size : n₀ ≤ W.heap.size
theorem RdX.step {w W W' : World} {Bx : Nat} (h : RdX w W) (h1 : w.heap.size + 1 < Bx) (k : ∀ (q : Nat) (cs : Array Value) (e : TypeId) (f : Nat × Nat), q ≠ Bx → W.heap[q]? = some (Obj.cells cs e f) → W'.heap[q]? = W.heap[q]?) (hb : Below w.heap.size W W') : RdX w W' :=
  ⟨(k _ _ _ _ (by omega) h.r0).trans h.r0, (k _ _ _ _ (by omega) h.r1).trans h.r1, h.below.trans hb⟩
theorem RdI.step {w W W' : World} {n₀ Z Bx : Nat} {pre : List PIt} (h : RdI w n₀ Z pre W) (h1 : w.heap.size + 1 < Bx) (hZ : Z ≠ Bx) (hn : Bx < n₀) (k : ∀ (q : Nat) (cs : Array Value) (e : TypeId) (f : Nat × Nat), q ≠ Bx → W.heap[q]? = some (Obj.cells cs e f) → W'.heap[q]? = W.heap[q]?) (hb : Below w.heap.size W W') : RdI w n₀ Z pre W' := by
  obtain ⟨vo, b1, b2⟩ := h.out
  exact ⟨⟨vo, (k _ _ _ _ hZ b1).trans b1, b2.kept (fun q hq hN cs e f hc => k q cs e f (by omega) hc) hb.size⟩, h.res.step h1 k hb, Nat.le_trans h.size hb.size⟩
theorem keepsFrom_set {A : World} {n p : Nat} (u : Value) (h : p < n) : KeepsFrom n A (A.setCell ⟨p, 0, none⟩ u) := ⟨by simp, fun k o hk hk2 _ => (heap_setCell_other A ⟨p, 0, none⟩ k u (by show k ≠ p; omega)).trans hk2⟩
theorem st_keep {w A C : World} {Bx : Nat} (h : StP Bx A C) (h1 : w.heap.size ≤ Bx) (hA : w.heap.size ≤ A.heap.size) : (∀ (q : Nat) (cs : Array Value) (e : TypeId) (f : Nat × Nat), q ≠ Bx → A.heap[q]? = some (Obj.cells cs e f) → C.heap[q]? = A.heap[q]?) ∧ Below w.heap.size A C := by
  rcases h with h | ⟨u, rfl⟩
  · exact ⟨fun q cs e f _ hq => h.block q (Array.getElem?_eq_some_iff.1 hq).1, h.mono hA⟩
  · exact ⟨fun q cs e f hne _ => heap_setCell_other A ⟨Bx, 0, none⟩ q u hne, (Below.refl _ _).setCell (p := ⟨Bx, 0, none⟩) h1 u⟩
theorem turned_keep {w A C : World} {n : Nat} (h : Turned n A C) (h1 : w.heap.size ≤ n) : (∀ (q : Nat) (cs : Array Value) (e : TypeId) (f : Nat × Nat), A.heap[q]? = some (Obj.cells cs e f) → C.heap[q]? = A.heap[q]?) ∧ Below w.heap.size A C := by
  obtain ⟨l, o, o', hl, ho, hc, _, rfl⟩ := h
  refine ⟨fun q cs e f hq => World.putObj_heap_other (fun e' => ?_), (Below.refl _ _).grown (grownBy_putObj' A l o') (by have := (Array.getElem?_eq_some_iff.1 ho).1; omega) (fun q hq => by cases hq; omega)⟩
  subst e'
  rw [hq] at ho; cases ho; cases hc
theorem st_keeps {A C : World} {Bx n : Nat} (h : StP Bx A C) (hn : Bx < n) : KeepsFrom n A C := by
  rcases h with h | ⟨u, rfl⟩
  · exact ⟨h.size, fun k o _ hk _ => (h.block k (Array.getElem?_eq_some_iff.1 hk).1).trans hk⟩
  · exact ⟨by simp, fun k o hk hk2 _ => (heap_setCell_other A ⟨Bx, 0, none⟩ k u (by show k ≠ Bx; omega)).trans hk2⟩
theorem KpX.turned {n₀ z n : Nat} {A C : World} (h : Turned n A C) (hn : n₀ ≤ n) : KpX n₀ z A C := by
  obtain ⟨l, o, o', hl, ho, hc, _, rfl⟩ := h
  exact KpX.putObj A o' (by omega)
theorem RBlks.cellsKept {W W' : World} {M M' : Nat} {v : Value} {l : List Blk} (h : RBlks W M v l) (k : ∀ (q : Nat) (cs : Array Value) (e : TypeId) (f : Nat × Nat), W.heap[q]? = some (Obj.cells cs e f) → W'.heap[q]? = W.heap[q]?) (hM : M ≤ M') : RBlks W' M' v l := by
  have kc : ∀ q o u, W.cell? ⟨q, o, none⟩ = some u → W'.cell? ⟨q, o, none⟩ = some u := fun q o u hu => by
    rw [← hu]
    unfold World.cell? at hu
    split at hu
    · rename_i c e f hq
      exact World.cell?_of_block (k q _ _ _ hq)
    · cases hu
  obtain ⟨a, c, e1, e2, e3, e4, e5⟩ := h
  refine ⟨a, c, e1, e2, e3, e4, fun hp => ?_⟩
  obtain ⟨b, o, ea, hb, hi⟩ := e5 hp
  exact ⟨b, o, ea, by omega, fun i x hx => ⟨kc _ _ _ (hi i x hx).1, kc _ _ _ (hi i x hx).2.1, kc _ _ _ (hi i x hx).2.2⟩⟩
set_option maxRecDepth 100000 in
set_option maxHeartbeats 4000000 in
theorem read_any (s : List UInt8) (hs : s.length ≤ 1000000) (w : World) :
    Calls Tryz.prog 33 #[.string (B s)] w (ReadPost (rdB s).1 (rdB s).2 w) := by
  obtain ⟨⟨m, k, e⟩, hr⟩ : ∃ q, readS s = q := ⟨_, rfl⟩
  have hok := readS_ok hr
  have HR := Lib.hid hr
  by_cases he : e = 0
  case neg =>
    have de : (e != 0) = true := by rw [bne_iff_ne]; exact he
    have HRD : Hid (rdB s = ([], false)) := Lib.hid (by unfold rdB; rw [hr, if_pos he])
    rw [HRD.out]
    clear he hok hr
    go_enter Tryz.func33, Tryz.ntmps33
    go_wp2_with fail
    refine (readint_any s m k e _ (by omega) HR.out).mono ?_
    rintro e' w1 ⟨rfl, hb1⟩
    have z1 : w.heap.size + 1 < w1.heap.size := by have := hb1.size; (try simp at this); omega
    have z1a : w.heap.size < w1.heap.size := by omega
    have hB1 : Below w.heap.size w w1 := btrans0 (balloc0 (balloc0 (Below.refl _ _))) hb1
    have R0 : Boxed w1 w.heap.size 22 (.slice none 0 0) := (hb1.block _ (by first | (simp; done) | (simp; omega))).trans (by repeat (first | exact heap_new' (by first | rfl | (simp; done)) | refine (Below.heap_alloc _ _ _ (by first | (simp; done) | (simp; omega))).trans ?_))
    have R1 : Boxed w1 (w.heap.size + 1) 4 (.bool false) := (hb1.block _ (by first | (simp; done) | (simp; omega))).trans (by repeat (first | exact heap_new' (by first | rfl | (simp; done)) | refine (Below.heap_alloc _ _ _ (by first | (simp; done) | (simp; omega))).trans ?_))
    have c0 := R0.cell
    have f0 := R0.frozen
    have c1 := R1.cell
    have f1 := R1.frozen
    clear hb1
    go_wp2
    refine bodyPost_ret (v := .tuple #[.slice none 0 0, .bool false]) (by simp [results, Tryz.results33, go_sem, World.cell?_setCell_same', c0, c1, z1, z1a]) rfl ?_
    exact ⟨_, rfl, rbuns_nil _ _, belowA⟩
  subst he
  refine (callsIn_wide (n := 12)).1 ?_
  obtain ⟨i0, hin, hz0, hz1, hz2⟩ := info_parts infoBun
  obtain ⟨g1, _, g3, _, _⟩ := hok.1 rfl
  obtain ⟨kk, rfl⟩ : ∃ kk : Nat, k = kk := ⟨k.toNat, by omega⟩
  have hk0 : (0 : Int) ≤ (kk : Int) := by omega
  obtain ⟨s2, hs2⟩ : ∃ q, s.drop kk = q := ⟨_, rfl⟩
  have hl2 : s2.length ≤ 1000000 := by rw [← hs2]; simp; omega
  have HS2 := Lib.hid hs2
  have HRD : Hid (rdB s = match partsF s2.length s2 with
    | none => ([], false)
    | some l => (l, decide (m = (l.length : Int)))) := Lib.hid (by unfold rdB; rw [hr, if_neg (by simp)]; simp only [Int.toNat_natCast, hs2]; rfl)
  clear hr hok hs2
  refine callsIn_of_wp_marks Tryz.func33 rfl trivial ?_ rfl
  simp only [Tryz.ntmps33, List.size_toArray, List.length_cons, List.length_nil, Nat.reduceAdd, Nat.reduceSub, Array.replicate_succ, Array.replicate_zero, List.push_toArray, List.append_toArray, List.nil_append, List.cons_append]
  gi_wp2_with fail
  refine ⟨trivial, callsIn_wide.2 ((readint_any s m _ 0 _ (by omega) HR.out).mono ?_)⟩
  rintro e' w1 ⟨rfl, hb1⟩
  have z1 : w.heap.size + 1 < w1.heap.size := by have := hb1.size; (try simp at this); omega
  have hB1 : Below w.heap.size w w1 := btrans0 (balloc0 (balloc0 (Below.refl _ _))) hb1
  have R0 : Boxed w1 w.heap.size 22 (.slice none 0 0) := (hb1.block _ (by first | (simp; done) | (simp; omega))).trans (by repeat (first | exact heap_new' (by first | rfl | (simp; done)) | refine (Below.heap_alloc _ _ _ (by first | (simp; done) | (simp; omega))).trans ?_))
  have R1 : Boxed w1 (w.heap.size + 1) 4 (.bool false) := (hb1.block _ (by first | (simp; done) | (simp; omega))).trans (by repeat (first | exact heap_new' (by first | rfl | (simp; done)) | refine (Below.heap_alloc _ _ _ (by first | (simp; done) | (simp; omega))).trans ?_))
  have HX1 := Lib.hid (RdX.mk R0 R1 hB1)
  clear hb1 R0 R1 hB1
  gi_wp2_with fail
  rw [show List.take (s.length - kk) (List.drop kk s) = s2 from by rw [HS2.out]; exact List.take_of_length_le (by rw [← HS2.out]; simp)]
  refine ⟨trivial, (aparts_in Fence.wide _ trivial rfl _ _).mono ?_⟩
  rintro e w2 ⟨rfl, rfl⟩
  gi_wp2
  obtain ⟨W0, hW0⟩ : ∃ W0, (w1.alloc (.cells #[.slice none 0 0] 22)).alloc (.cells #[.string (B s2)] 9) = W0 := ⟨_, rfl⟩
  have hs0 : W0.heap.size = w1.heap.size + 2 := by rw [← hW0]; simp
  have hb0 : Below w1.heap.size w1 W0 := by rw [← hW0]; exact belowA
  have hout0 : Boxed W0 w1.heap.size 22 (.slice none 0 0) := by rw [← hW0]; exact (Boxed.new _ _ _).alloc _
  have hx1 : W0.heap[w1.heap.size + 1]? = some (.cells #[.string (B s2)] 9 (0, 0)) := by rw [← hW0]; exact heap_new' (by simp)
  have HX0 : RdX w W0 := HX1.out.step (Bx := w1.heap.size) (by omega) (fun q cs e f _ hq => hb0.block q (Array.getElem?_eq_some_iff.1 hq).1) (hb0.mono HX1.out.below.size)
  have HX0' := Lib.hid HX0
  rw [hW0]
  clear hW0
  have hI0 : RdI w W0.heap.size w1.heap.size [] W0 := ⟨⟨_, hout0, OutB.nil _ _ _⟩, HX0, Nat.le_refl _⟩
  have hZ : w1.heap.size ≠ w1.heap.size + 1 := by omega
  refine wpIn_range_st rfl (by omega) (gf := 155) (lb := #[.pointer (some ⟨w1.heap.size + 1, 0, none⟩)]) rfl trivial (enters_of Tryz.func155 (by kernel_rfl) rfl)
    (parts1_in W0.heap.size w1.heap.size (w1.heap.size + 1) (by omega) (by omega) s2 hl2 W0 hx1) (Below.refl _ _) (fun _ => rfl) (fun h k => h.trans k) (fun h => KpX.turned h (Nat.le_refl _)) (fun h => st_keeps h (by omega))
    (RdI w W0.heap.size w1.heap.size) (RdX w) ?sI ?tI ?sX ?tX ?h0 ?round ?done ?stop
  case sI =>
    intro s A C h k
    obtain ⟨k1, k2⟩ := st_keep (w := w) k (by omega) h.res.below.size
    exact h.step (by omega) hZ (by omega) k1 k2
  case tI =>
    intro s A C h k
    obtain ⟨k1, k2⟩ := turned_keep (w := w) k (by omega)
    exact h.step (Bx := w1.heap.size + 1) (by omega) hZ (by omega) (fun q cs e f _ hq => k1 q cs e f hq) k2
  case sX =>
    intro A C h k
    obtain ⟨k1, k2⟩ := st_keep (w := w) k (by omega) h.below.size
    exact h.step (by omega) k1 k2
  case tX =>
    intro A C h k
    obtain ⟨k1, k2⟩ := turned_keep (w := w) k (by omega)
    exact h.step (Bx := w1.heap.size + 1) (by omega) (fun q cs e f _ hq => k1 q cs e f hq) k2
  case h0 => exact fun o1 o2 => hI0.step (Bx := w1.heap.size + 1) (by omega) hZ (by omega) (fun q cs e f _ hq => (balloc0 (balloc0 (Below.refl W0.heap.size W0)) : Below W0.heap.size W0 ((W0.alloc o1).alloc o2)).block q (Array.getElem?_eq_some_iff.1 hq).1) ((balloc0 (balloc0 (Below.refl W0.heap.size W0)) : Below W0.heap.size W0 ((W0.alloc o1).alloc o2)).mono HX0.below.size)
  case round =>
    rintro l pre ⟨b, u, g⟩ Wa W hll ⟨r, hr⟩ hia hba hi ⟨hpl, ⟨ua, uc, hu⟩, hok⟩
    simp only at hu
    subst hu
    simp only [encP, bunC]
    have hWs : w1.heap.size + 2 ≤ W.heap.size := by have := hi.size; omega
    have HOK := Lib.hid hok
    have HI := Lib.hid hi
    have HIA := Lib.hid hia
    have HBA := Lib.hid hba
    have HS0 := Lib.hid hs0
    clear hok hi hia hba
    gi_wp2
    refine ⟨keepsFrom_below (balloc0 (Below.refl _ _)), ⟨by simp, fun k hk hne => Below.heap_alloc _ _ _ (by omega)⟩, fun Wb ht => ?_⟩
    have HS0' := HS0.out
    have hbA : Below W.heap.size W (W.alloc (.cells (bunC b (.slice ua b.blocks.length uc)).toArray 32)) := balloc0 (Below.refl _ _)
    have hi2 : RdI w W0.heap.size w1.heap.size pre (W.alloc (.cells (bunC b (.slice ua b.blocks.length uc)).toArray 32)) := HI.out.step (Bx := w1.heap.size + 1) (by omega) hZ (by omega) (fun q cs e f _ hq => hbA.block q (Array.getElem?_eq_some_iff.1 hq).1) (hbA.mono (by omega))
    obtain ⟨t1, t2⟩ := turned_keep (w := w) ht (by omega)
    have hi3 : RdI w W0.heap.size w1.heap.size pre Wb := hi2.step (Bx := w1.heap.size + 1) (by omega) hZ (by omega) (fun q cs e f _ hq => t1 q cs e f hq) t2
    have hzb : W.heap.size + 1 ≤ Wb.heap.size := by have := t2.size; simpa using this
    have hbox : Wb.heap[W.heap.size]? = some (.cells (bunC b (.slice ua b.blocks.length uc)).toArray 32 (0, 0)) := (t1 _ _ _ _ heap_new).trans heap_new
    have HI3 := Lib.hid hi3
    have HBX := Lib.hid hbox
    have HT1 : Hid (∀ (q : Nat) (cs : Array Value) (e : TypeId) (f : Nat × Nat), W.heap[q]? = some (Obj.cells cs e f) → Wb.heap[q]? = W.heap[q]?) := Lib.hid (fun q cs e f hq => by
      have h1 := hbA.block q (Array.getElem?_eq_some_iff.1 hq).1
      exact (t1 q cs e f (h1.trans hq)).trans h1)
    clear ht t1 t2 hi2 hi3 hbox hbA
    cases g with
    | false =>
      have R0 := HI3.out.res.r0
      have R1 := HI3.out.res.r1
      have c0 := R0.cell
      have f0 := R0.frozen
      have c1 := R1.cell
      have f1 := R1.frozen
      clear R0 R1
      gi_wp2
      refine ⟨(keepsFrom_set _ (by omega)).trans (keepsFrom_set _ (by omega)), rfl, ?_⟩
      have hx := HI3.out.res
      exact ⟨(heap_setCell_other _ _ _ _ (by show w.heap.size ≠ w.heap.size + 1; omega)).trans (hx.r0.set _), (show Boxed (Wb.setCell ⟨w.heap.size, 0, none⟩ (.slice none 0 0)) (w.heap.size + 1) 4 (.bool false) from (heap_setCell_other _ _ _ _ (by show w.heap.size + 1 ≠ w.heap.size; omega)).trans hx.r1).set _, bset (bset hx.below (by show w.heap.size ≤ w.heap.size; omega)) (by show w.heap.size ≤ w.heap.size + 1; omega)⟩
    | true =>
      obtain ⟨hru, hrf, hcv⟩ := HOK.out rfl
      obtain ⟨vo, b1, b2⟩ := HI3.out.out
      obtain ⟨vo', a1, a2⟩ := HIA.out.out
      have hvv : vo' = vo := by
        have e1 := (HBA.out.block _ a1.lt).trans a1
        have e2 := (HT1.out _ _ _ _ e1).trans e1
        have e3 := e2.symm.trans b1
        injection e3 with e3
        injection e3 with e3
        simpa using e3
      subst hvv
      have c1 := b1.cell
      have f1 := b1.frozen
      have ca := fun o => cellB HBX.out o
      simp only [bunC] at ca
      obtain ⟨rs, hrs1, hrs2, hrs3⟩ := id b2
      have hlen : (pre.map (·.1)).length = pre.length := by simp
      rw [hlen] at hrs2
      have HRU : Hid (RBlks Wb W.heap.size (.slice ua b.blocks.length uc) b.blocks) := Lib.hid (hru.cellsKept HT1.out (Nat.le_refl _))
      have HRF := Lib.hid hrf
      have HB1 := Lib.hid b1
      have HB2 := Lib.hid b2
      have HA2 := Lib.hid a2
      have HRS1 := Lib.hid hrs1
      have HRS3 := Lib.hid hrs3
      have HRS2 := Lib.hid hrs2
      have hz1w := HIA.out.size
      clear hru hrf hcv a1 hrs1 hrs3 b2 b1 hrs2
      gi_wp2_with (gi_at_builtin; refine wpListIn_append_lies _ rfl _ _ _ rfl rfl W0.heap.size 32 i0 _ 12 120 Tryz.underlying22 hin hz0 hz1 hz2 rfl (by omega) vo' pre.length _ rfl (HRS2.out.alloc _) ⟨Wb.heap.size, 0, none⟩ 1 1 (bunC b (.slice ua b.blocks.length uc)) rfl rfl (news_one (t := 32) (by exact heap_new)) (bunC_one rfl) (by omega) (by simp only [maxLen]; omega) (by omega) (by simp; omega) (Wb.heap.size + 1) (by simp) ?_; intro g' cap w3 hown3 hg3 hat3 hlt3; have keep3 : ∀ q, q < w1.heap.size + 2 → w3.heap[q]? = Wb.heap[q]? := fun q hq => (hg3.block q (by simp; omega) (fun e => by have := (HB2.out.lt q e.symm).1; have := HS0.out; omega)).trans (Below.heap_alloc _ _ _ (by omega)); have d1 : w3.heap[w1.heap.size]? = some (.cells #[vo'] 22 (0, 0)) := (keep3 _ (by omega)).trans HB1.out; have e1c := cellB d1 0; have e1f := frozenB d1 0; have hz3 := hg3.size; have HD := Lib.hid d1; have HO := Lib.hid hown3; have HG := Lib.hid hg3; have HAT := Lib.hid hat3; have HK3 := Lib.hid keep3; clear d1 hown3 hg3 hat3 keep3)
      simp only [World.size_alloc] at hz3
      have hS0 := HS0.out
      have hst := OutB.step (W0 := Wa) (N := 0) (cap := cap) (W := Wb.alloc (.cells (bunC b (.slice ua b.blocks.length uc)).toArray 32)) HRS1.out (by rw [hlen]; exact HRS2.out.alloc _) (fun r hr => (HRS3.out r hr).keep (fun q o hq => World.cell?_alloc_lt _ _ _ hq.1) (fun q hq => ⟨by have := hq.1; simp; omega, hq.2⟩))
        (fun q hq => (HA2.out.lt q hq).2) (RBlksD.new_ HRU.out HRF.out (fun q o h1 h2 => World.cell?_alloc_lt _ _ _ (by show q < Wb.heap.size; omega)) (Nat.le_refl _) (by simp; omega)) (by omega) (by simp) (by omega) (by rw [hlen]; exact HO.out) HG.out (by rcases HAT.out with h | h; exact .inl h; exact .inr (by simpa using h))
      rw [hlen] at hst
      have hx := HI3.out.res
      refine ⟨⟨by simp; omega, fun k o hk ho hc => ?_⟩, rfl, ⟨by simp; omega, fun k hk hne => ?_⟩, ⟨⟨_, (show Boxed w3 w1.heap.size 22 vo' from HD.out).set _, ?_⟩, ⟨?_, ?_, ?_⟩, by simp; omega⟩⟩
      · have hkl : k < Wb.heap.size := (Array.getElem?_eq_some_iff.1 ho).1
        rw [Below.heap_setCell _ _ _ _ (by show k ≠ w1.heap.size; omega), HG.out.block k (by simp; omega) (fun e => ?_), Below.heap_alloc _ _ _ (by omega), ho]
        obtain ⟨cs, hcs⟩ := HB2.out.cells k e.symm
        rw [ho] at hcs
        injection hcs with hcs
        subst hcs
        cases hc
      · rw [Below.heap_setCell _ _ _ _ (by show k ≠ w1.heap.size; omega)]
        exact HK3.out k hk
      · have h := hst.kept (W' := w3.setCell ⟨w1.heap.size, 0, none⟩ (.slice (some ⟨g', 0, none⟩) (pre.length + 1) cap)) (fun q _ hq _ _ _ _ => Below.heap_setCell _ _ _ _ (by show q ≠ w1.heap.size; omega)) (by simp)
        rw [List.map_append]
        rw [hS0] at h
        exact h
      · exact (Below.heap_setCell _ _ _ _ (by show w.heap.size ≠ w1.heap.size; omega)).trans ((HK3.out _ (by omega)).trans hx.r0)
      · exact (Below.heap_setCell _ _ _ _ (by show w.heap.size + 1 ≠ w1.heap.size; omega)).trans ((HK3.out _ (by omega)).trans hx.r1)
      · exact bset (hx.below.trans (((Below.refl _ _).alloc hx.below.size _).grown HG.out (by simp; omega) (fun q hq => by have := (HB2.out.lt q hq).1; omega))) (by show w.heap.size ≤ w1.heap.size; omega)
  case done =>
    rintro D ys W hD hys hi hK'
    obtain ⟨⟨vo, b1, b2⟩, hx, hsz⟩ := hi
    have HB2 := Lib.hid b2
    obtain ⟨rs, _, hrs2, _⟩ := b2
    obtain ⟨va, vc, rfl⟩ := own_shape hrs2
    have hlen : (ys.map (·.1)).length = ys.length := by simp
    rw [hlen] at *
    have c1 := b1.cell
    have f1 := b1.frozen
    have R0 := hx.r0
    have R1 := hx.r1
    have c2 := R0.cell
    have f2 := R0.frozen
    have c3 := R1.cell
    have f3 := R1.frozen
    have HX := Lib.hid hx
    have HY := Lib.hid hys
    clear hrs2 hx R0 R1 hys
    gi_wp2
    refine wpIn_region_plan (fun V => V.cell? ⟨w1.heap.size, 0, none⟩ = some (.slice va ys.length vc)) [1, 0, 1, 0, 0, 2, 3] [0, 1, 2, 3, 4, 5, 6] (by kernel_rfl) (by kernel_rfl) ?_ ?_
    · go_simp
    (iterate 5 (refine plan_heldI rfl (by decide) (by rfl) (fun w1 => by rfl) (fun w1 hS => by (try (have hS := hS rfl; obtain hS := hS; repeat (obtain ⟨_, hS⟩ := hS))); go_simp; rfl) ?_; simp only [Act.put, List.setIfInBounds_toArray, List.set_cons_zero, List.set_cons_succ]))
    (refine plan_keepI rfl rfl (by rfl) (fun K hK => ?_); go_simp)
    (refine hK _ _ (by go_simp) ?_; clear hK K; (try simp only [Act.put, List.setIfInBounds_toArray, List.set_cons_zero, List.set_cons_succ]))
    (refine plan_lateI rfl rfl (by rfl) (fun K hK => ?_); go_simp)
    (refine hK _ _ ?_; clear hK K; (try simp only [Act.put, List.setIfInBounds_toArray, List.set_cons_zero, List.set_cons_succ]))
    refine plan_doneI ?_
    gi_wp2
    obtain ⟨W3, hW3⟩ : ∃ q, ((W.setCell { block := w.heap.size, off := 0 } (Value.slice va ys.length vc)).setCell { block := w.heap.size + 1, off := 0 } (Value.bool (m == ↑ys.length))).drew = q := ⟨_, rfl⟩
    have hk3 : ∀ q, q ≠ w.heap.size → q ≠ w.heap.size + 1 → W3.heap[q]? = W.heap[q]? := fun q h1 h2 => by
      rw [← hW3]
      exact (heap_setCell_other _ _ _ _ h2).trans (heap_setCell_other _ _ _ _ h1)
    have hz3 : W3.heap.size = W.heap.size := by rw [← hW3]; simp [World.drew]
    have hb3 : Below w.heap.size w W3 := by rw [← hW3]; exact bdrew (bset (bset HX.out.below (by show w.heap.size ≤ w.heap.size; omega)) (by show w.heap.size ≤ w.heap.size + 1; omega))
    have r0 : Boxed W3 w.heap.size 22 (.slice va ys.length vc) := by rw [← hW3]; exact (heap_setCell_other _ _ _ _ (by show w.heap.size ≠ w.heap.size + 1; omega)).trans (HX.out.r0.set _)
    have r1 : Boxed W3 (w.heap.size + 1) 4 (.bool (m == ↑ys.length)) := by rw [← hW3]; exact (show Boxed (W.setCell ⟨w.heap.size, 0, none⟩ (.slice va ys.length vc)) (w.heap.size + 1) 4 (.bool false) from (heap_setCell_other _ _ _ _ (by show w.heap.size + 1 ≠ w.heap.size; omega)).trans HX.out.r1).set _
    rw [hW3]
    have hK3 : W3.heap[D]? = some (.deferred (some [])) := (hk3 D (by omega) (by omega)).trans hK'
    clear hW3
    refine ⟨by simp, .inl ⟨_, _, rfl, run_takeDeferred hK3, ?_⟩⟩
    have hp := hb3.grown (grownBy_putObj' W3 D (.deferred none)) hb3.size (fun q hq => by injection hq with hq; omega)
    have kq : ∀ (q : Nat) (cs : Array Value) (e : TypeId) (f : Nat × Nat), W3.heap[q]? = some (.cells cs e f) → (W3.putObj D (.deferred none)).heap[q]? = some (.cells cs e f) := fun q cs e f hq => (World.putObj_heap_other (fun e' => by subst e'; rw [hq] at hK3; cases hK3)).trans hq
    have k0 := cellB (kq _ _ _ _ r0) 0
    have k1 := cellB (kq _ _ _ _ r1) 0
    have hrb := (HB2.out.kept (W' := W3.putObj D (.deferred none)) (fun q hq hN cs e f hc => by
      have h3 := hk3 q (by omega) (by omega)
      exact (kq q cs e f (h3.trans hc)).trans hc.symm) (by rw [World.putObj_size]; omega)).rbuns
    rw [List.length_map] at hrb
    have HRD2 : Hid (rdB s = (ys.map (·.1), m == (ys.length : Int))) := Lib.hid (by
      rw [HRD.out, HY.out]
      simp only [List.length_map]
      rw [show decide (m = (ys.length : Int)) = (m == (ys.length : Int)) from by rw [Bool.eq_iff_iff]; simp])
    rw [HRD2.out]
    refine ⟨.tuple #[.slice va ys.length vc, .bool (m == ↑ys.length)], by simp [results, Tryz.results33, go_sem, k0, k1], _, rfl, hrb, hp⟩
  case stop =>
    rintro D W hD hn hx hK'
    have R0 := hx.r0
    have R1 := hx.r1
    have c2 := R0.cell
    have f2 := R0.frozen
    have c3 := R1.cell
    have f3 := R1.frozen
    have HX := Lib.hid hx
    clear hx R0 R1
    gi_wp2
    refine ⟨by simp, .inl ⟨_, _, rfl, run_takeDeferred hK', ?_⟩⟩
    have hp := HX.out.below.grown (grownBy_putObj' W D (.deferred none)) HX.out.below.size (fun q hq => by injection hq with hq; omega)
    have kq : ∀ (q : Nat) (cs : Array Value) (e : TypeId) (f : Nat × Nat), W.heap[q]? = some (.cells cs e f) → (W.putObj D (.deferred none)).heap[q]? = some (.cells cs e f) := fun q cs e f hq => (World.putObj_heap_other (fun e' => by subst e'; rw [hq] at hK'; cases hK')).trans hq
    have k0 := cellB (kq _ _ _ _ HX.out.r0) 0
    have k1 := cellB (kq _ _ _ _ HX.out.r1) 0
    have HRD2 : Hid (rdB s = ([], false)) := Lib.hid (by rw [HRD.out, hn])
    rw [HRD2.out]
    refine ⟨.tuple #[.slice none 0 0, .bool false], by simp [results, Tryz.results33, go_sem, k0, k1], _, rfl, rbuns_nil _ _, hp⟩
end Go.Proofs.YtmknchdciblfjaaGreat

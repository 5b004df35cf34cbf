/- TopFragmentsSent, TopFragmentsMissing: top30Whole (printed by gen/g30.py) -/
import Derived.BigQuiet
import Derived.BigRegion
import Derived.Deep.DeepCutAuto
import Derived.Laws.MakeOwn
import Derived.Test.YthlbddcllikolaaGreatUq
import Derived.Test.YthlbddcllikolaaGreatJn
import Derived.Test.YthlbddcllikolaaGreatJc
import Derived.Test.YthlbddcllikolaaGreatJw
import Derived.Test.YthlbddcllikolaaGreatJq
set_option linter.unusedVariables false
set_option linter.unusedSimpArgs false
namespace Go.Proofs.YthlbddcllikolaaGreat
open Go Go.RowKit Go.Shelf Iv
attribute [local go_sem] B_getElem B_size B_app B_extract B_get B_toList
attribute [local go_sem] Oper.semAt_some
/-- what the law asks of the bundle -/
structure Big (b : Bun) (m : Int) : Prop where
  valid : chkE b = 0
  tot : b.tot = 0
  flag : hasF b.flags 2 = false
  lo : m < b.payload.length
  hi : (b.payload.length : Int) ≤ 12 * m
  m1 : 1 ≤ m
/-- what top30Whole says -/
def WholePost (b : Bun) (m : Int) (w : World) (e : Ending) (w' : World) : Prop := ∃ r, e = .returned (.bool r) ∧ (r = true → Big b m) ∧ Below w.heap.size w w'
set_option maxRecDepth 100000 in
set_option maxHeartbeats 16000000 in
theorem whole_any (b : Bun) (u : Value) (m : Int) (w : World) (hr : RBlks w w.heap.size u b.blocks) (hf : Fits b) (m1 : 1 ≤ m) (m2 : m ≤ 256) :
    Calls Tryz.prog 5 #[.agg (bunC b u).toArray, .int .i64 m] w (WholePost b m w) := by
  obtain ⟨ba, bc, rfl, -⟩ := id hr
  have HR0 := Lib.hid hr
  have HF := Lib.hid hf
  clear hr hf
  obtain ⟨E, hE⟩ : ∃ q, chkE b = q := ⟨_, rfl⟩
  have HE := Lib.hid hE
  clear hE
  go_enter Tryz.func5, Tryz.ntmps5
  simp only [bunC]
  go_upto_region 1 with fail
  obtain ⟨w1, hw1⟩ : ∃ q, (w.alloc (.cells (bunC b (.slice ba b.blocks.length bc)).toArray 28 (0, 0))) = q := ⟨_, rfl⟩
  simp only [bunC, List.cons_append, List.nil_append, List.length_nil] at hw1
  rw [hw1]
  have y1 : w.heap.size < w1.heap.size := by rw [← hw1]; first | (simp; done) | (simp; omega)
  have B1 : Below w.heap.size w w1 := by rw [← hw1]; exact balloc0 (Below.refl _ _)
  have L0_1 : Below w.heap.size w w1 := B1
  have Xb1 : Hid (w1.heap[w.heap.size]? = some (.cells (bunC b (.slice ba b.blocks.length bc)).toArray 28 (0, 0))) := Lib.hid (by rw [← hw1]; exact heap_new)
  have zb1 : w.heap.size < w1.heap.size := by rw [← hw1]; first | (simp; done) | (simp; omega)
  clear hw1
  have cb := fun o => cellB Xb1.out o
  (try simp only [bunC, List.cons_append, List.nil_append, List.length_nil] at cb)
  go_wp2_with fail
  refine (bgreat_any b _ _ (HR0.out.below' (L0_1)) HF.out).mono ?_
  unfold AnyBool
  rintro e w2 ⟨gr, rfl, hb2⟩
  have B2 : Below w.heap.size w w2 := btrans0 B1 hb2
  have y2 : w1.heap.size ≤ w2.heap.size := by have := hb2.size; (try simp at this); omega
  have L0_2 : Below w.heap.size w w2 := btrans0 L0_1 hb2
  have Xb2 : Hid (w2.heap[w.heap.size]? = some (.cells (bunC b (.slice ba b.blocks.length bc)).toArray 28 (0, 0))) := Lib.hid ((hb2.block _ (by first | omega | (simp; omega))).trans (Xb1.out))
  have zb2 : w.heap.size < w2.heap.size := by omega
  clear cb
  clear hb2
  have cb := fun o => cellB Xb2.out o
  (try simp only [bunC, List.cons_append, List.nil_append, List.length_nil] at cb)
  cases gr with
  | true =>
    go_wp2
    go_ret
    exact ⟨_, rfl, fun h => (by cases h), B2⟩
  | false =>
  go_wp2_with fail
  refine (rcheck_any b _ _ (HR0.out.below' (L0_2)) HF.out).mono ?_
  rw [HE.out]
  rintro e w3 ⟨rfl, hb3⟩
  have B3 : Below w.heap.size w w3 := btrans0 B2 hb3
  have y3 : w2.heap.size ≤ w3.heap.size := by have := hb3.size; (try simp at this); omega
  have L0_3 : Below w.heap.size w w3 := btrans0 L0_2 hb3
  have Xb3 : Hid (w3.heap[w.heap.size]? = some (.cells (bunC b (.slice ba b.blocks.length bc)).toArray 28 (0, 0))) := Lib.hid ((hb3.block _ (by first | omega | (simp; omega))).trans (Xb2.out))
  have zb3 : w.heap.size < w3.heap.size := by omega
  clear cb
  clear hb3
  have cb := fun o => cellB Xb3.out o
  (try simp only [bunC, List.cons_append, List.nil_append, List.length_nil] at cb)
  by_cases cE : E = 0
  case neg =>
    have dE : (E == 0) = false := by simpa using cE
    clear cE
    go_wp2
    go_ret
    exact ⟨_, rfl, fun h => (by cases h), B3⟩
  subst cE
  obtain ⟨v1, v2, -, -, v5, v6, v7, -⟩ := valid_facts HE.out
  have a3 := (and_flag b.flags v6 v7).2.2
  by_cases ct : b.tot = 0
  case neg =>
    have dt : (b.tot == 0) = false := by simpa using ct
    clear ct a3
    go_wp2
    go_ret
    exact ⟨_, rfl, fun h => (by cases h), B3⟩
  have dt : (b.tot == 0) = true := by simpa using ct
  have HT := Lib.hid ct
  clear ct
  obtain ⟨rf, hrf⟩ : ∃ p, hasF b.flags 2 = p := ⟨_, rfl⟩
  rw [hrf] at a3
  have HRF := Lib.hid hrf
  clear hrf
  cases rf with
  | true =>
    have a4 : (bits .and .i64 b.flags 2 == 0) = false := by simpa [bne] using a3
    clear a3
    go_wp2
    go_ret
    exact ⟨_, rfl, fun h => (by cases h), B3⟩
  | false =>
  have a4 : (bits .and .i64 b.flags 2 == 0) = true := by simpa [bne] using a3
  clear a3
  by_cases c1 : m < (b.payload.length : Int)
  case neg =>
    have d1 : decide (m < (b.payload.length : Int)) = false := decide_eq_false c1
    go_wp2
    go_ret
    exact ⟨_, rfl, fun h => (by cases h), B3⟩
  have d1 : decide (m < (b.payload.length : Int)) = true := decide_eq_true c1
  by_cases c2 : (b.payload.length : Int) ≤ 12 * m
  case neg =>
    have d2 : decide ((b.payload.length : Int) ≤ 12 * m) = false := decide_eq_false c2
    go_wp2
    go_ret
    exact ⟨_, rfl, fun h => (by cases h), B3⟩
  have d2 : decide ((b.payload.length : Int) ≤ 12 * m) = true := decide_eq_true c2
  go_wp2
  go_ret
  exact ⟨_, rfl, fun _ => ⟨HE.out, HT.out, HRF.out, c1, c2, m1⟩, B3⟩
end Go.Proofs.YthlbddcllikolaaGreat
/- TopFragmentsSent, TopFragmentsMissing: plain law: the parts of a bundle adjoin, and each is a fragment of it. -/
set_option linter.unusedVariables false
set_option linter.unusedSimpArgs false
namespace Go.Proofs.YthlbddcllikolaaGreat
open Go Go.RowKit Iv
/-- bundles that adjoin, from f to t -/
def Adj (f : Int) : List Bun → Int → Prop
  | [], t => f = t
  | y :: r, t => y.off = f ∧ Adj (y.off + y.payload.length) r t
theorem Adj.app {l r : List Bun} {f g t : Int} (h : Adj f l g) (k : Adj g r t) : Adj f (l ++ r) t := by
  induction l generalizing f with
  | nil => have e : f = g := h; subst e; exact k
  | cons y l ih => exact ⟨h.1, ih h.2⟩
theorem Adj.one {y : Bun} {f t : Int} (h1 : y.off = f) (h2 : y.off + y.payload.length = t) : Adj f [y] t := ⟨h1, h2⟩
/-- every place lies in one of them -/
theorem Adj.cover {l : List Bun} {f g : Int} (h : Adj f l g) : ∀ t : Int, f ≤ t → t < g → ∃ y ∈ l, y.off ≤ t ∧ t < y.off + y.payload.length := by
  induction l generalizing f with
  | nil => intro t h1 h2; have e : f = g := h; omega
  | cons y r ih =>
    intro t h1 h2
    have e := h.1
    by_cases c : t < y.off + y.payload.length
    · exact ⟨y, by simp, by omega, c⟩
    · obtain ⟨z, hz, z1, z2⟩ := ih h.2 t (by omega) h2
      exact ⟨z, List.mem_cons_of_mem _ hz, z1, z2⟩
theorem Big.cut {b : Bun} {m : Int} (h : Big b m) : cutE b = 0 := by
  have h1 := h.lo
  have h2 := h.m1
  unfold cutE
  rw [h.flag, if_neg (by simp), if_neg (by intro e; rw [e] at h1; simp at h1; omega)]
theorem Big.off {b : Bun} {m : Int} (h : Big b m) : b.off = 0 := (valid_facts h.valid).2.2.2.2.2.2.2.2.1 h.tot
/-- the cuts of x, from the k-th on, adjoin -/
theorem parts_adj {x : Bun} {Ff : Nat → Nat} {K : Nat} (hc : Cuts Ff K x.payload.length) : ∀ (n k : Nat), k + n = K → Adj (x.off + (Ff k : Int)) ((List.range' k n).map (partC x Ff)) (x.off + x.payload.length)
  | 0, k, h => by
    obtain rfl : k = K := by omega
    show x.off + (Ff k : Int) = _
    rw [hc.top]
  | n + 1, k, h => by
    have h1 := hc.step k (by omega)
    have h2 := part_len hc (show k < K by omega)
    refine ⟨rfl, ?_⟩
    have e : (partC x Ff k).off + ((partC x Ff k).payload.length : Int) = x.off + (Ff (k + 1) : Int) := by
      show x.off + (Ff k : Int) + ((partC x Ff k).payload.length : Int) = _
      omega
    rw [e]
    exact parts_adj hc n (k + 1) (by omega)
theorem partsOf_adj {x : Bun} {Ff : Nat → Nat} {K : Nat} (hc : Cuts Ff K x.payload.length) : Adj x.off (partsOf x Ff K) (x.off + x.payload.length) := by
  have := parts_adj hc K 0 (by omega)
  rw [hc.zero] at this
  rw [partsOf_eq, List.range_eq_range']
  simpa using this
/-- Split, of a great bundle -/
theorem split_big {b : Bun} {m : Int} (h : Big b m) : ∃ l, splitR b m = (l, 0) ∧ (∀ y ∈ l, FragOf b y) ∧ Adj 0 l b.payload.length ∧ 2 ≤ l.length ∧ l.length ≤ 12 := by
  have h0 := h.off
  have h1 := h.m1
  have h2 := h.lo
  have h3 := h.hi
  have hc := h.cut
  obtain ⟨k, rfl⟩ := Int.eq_ofNat_of_zero_le (show 0 ≤ m by omega)
  have hC : Cuts (sF k b.payload.length) (sK k b.payload.length) b.payload.length := sCuts (by omega)
  refine ⟨partsOf b (sF k b.payload.length) (sK k b.payload.length), ?_, ?_, ?_, ?_, ?_⟩
  · unfold splitR
    rw [if_neg (by rw [h.valid]; simp), if_neg (by omega), if_neg (by omega), if_neg (by rw [hc]; simp), Int.toNat_natCast]
  · intro y hy
    rw [partsOf_eq] at hy
    obtain ⟨i, hi, rfl⟩ := List.mem_map.1 hy
    have hi' := List.mem_range.1 hi
    have e1 := hC.step i hi'
    have e2 := hC.le (show i + 1 ≤ _ from hi')
    exact frag_cut h.valid h.tot hc (by omega) (by omega) (by omega)
  · have := partsOf_adj hC
    rw [h0] at this
    simpa using this
  · rw [partsOf_length]; exact sK_two (by omega) (by omega)
  · rw [partsOf_length]
    unfold sK
    have : (b.payload.length + k - 1) / k < 13 := (Nat.div_lt_iff_lt_mul (by omega)).2 (by omega)
    omega
/-- Pieces in two, of a fragment -/
theorem pieces_two {b x : Bun} (h : FragOf b x) (h2 : 2 ≤ x.payload.length) : ∃ l, piecesR x 2 = (l, 0) ∧ (∀ y ∈ l, FragOf b y) ∧ Adj x.off l (x.off + x.payload.length) ∧ l.length = 2 := by
  have hC : Cuts (pF 2 x.payload.length) 2 x.payload.length := pCuts (by omega) h2
  refine ⟨partsOf x (pF 2 x.payload.length) 2, ?_, ?_, partsOf_adj hC, partsOf_length _ _ _⟩
  · unfold piecesR
    rw [if_neg (by rw [h.valid]; simp), if_neg (by omega), if_neg (by omega), if_neg (by rw [h.cuts]; simp), if_neg (by omega)]
    rfl
  · intro y hy
    rw [partsOf_eq] at hy
    obtain ⟨i, hi, rfl⟩ := List.mem_map.1 hy
    have hi' := List.mem_range.1 hi
    have e1 := hC.step i hi'
    have e2 := hC.le (show i + 1 ≤ _ from hi')
    exact frag_frag h (by omega) (by omega) (by omega)
theorem decB_encR {b : Bun} (h : chkE b = 0) : decBS (bunR b) = (b, 0) := by
  unfold bunR
  rw [if_pos h]
  exact decB_enc h
theorem own_lit {W : World} {base g n size : Nat} {e : TypeId} {xs : List Value} (hg : W.heap[g]? = some (.cells xs.toArray e (0, 0))) (hb : base ≤ g) (hl : xs.length = n * size) (hm : n ≤ maxLen) : W.ownsRow base e size (.slice (some ⟨g, 0, none⟩) n n) n xs :=
  ⟨hl, .inr ⟨g, n, xs.toArray, rfl, hb, hg, Nat.le_refl _, hm, by simpa using hl, by rw [← hl]; simp⟩⟩
theorem OwnX.base {w : World} {b b' : Nat} {v : Value} {us : List BV} (h : OwnX w b v us) (k : b' ≤ b) : OwnX w b' v us :=
  ⟨⟨h.1.1, h.1.2.imp id fun ⟨g, cap, cur, e1, e2, e3⟩ => ⟨g, cap, cur, e1, Nat.le_trans k e2, e3⟩⟩, h.2⟩
theorem OwnX.own_lt {w : World} {base : Nat} {v : Value} {us : List BV} (h : OwnX w base v us) : ∀ q, v.ownBlock = some q → base ≤ q ∧ q < w.heap.size := fun q hq => h.1.lt q hq
theorem OwnX.shape {w : World} {base : Nat} {v : Value} {us : List BV} (h : OwnX w base v us) (hl : 0 < us.length) : ∃ g cap, v = .slice (some ⟨g, 0, none⟩) us.length cap := by
  rcases h.1.2 with ⟨e1, e2⟩ | ⟨g, cap, cur, e1, _⟩
  · omega
  · exact ⟨g, cap, e1⟩
theorem drop_cons {α : Type} {l : List α} {k : Nat} {x : α} (h : l[k]? = some x) : l.drop k = x :: l.drop (k + 1) := by
  obtain ⟨h1, h2⟩ := List.getElem?_eq_some_iff.1 h
  rw [List.drop_eq_getElem_cons h1, h2]
/-- a row of bundles that is read: cells in g, blocks in D -/
def PRow (W : World) (D : Nat → Prop) (g : Nat) (rs : List BV) : Prop :=
  D g ∧ (∀ (i : Nat) (r : BV), rs[i]? = some r → ∀ (d : Nat) (v : Value), (bunC r.1 r.2)[d]? = some v → W.cell? ⟨g, i * 12 + d, none⟩ = some v) ∧ ∀ r ∈ rs, RBlksD W D r.2 r.1.blocks
theorem PRow.keep {W W' : World} {D : Nat → Prop} {g : Nat} {rs : List BV} (h : PRow W D g rs) (k : ∀ q o, D q → W'.cell? ⟨q, o, none⟩ = W.cell? ⟨q, o, none⟩) : PRow W' D g rs :=
  ⟨h.1, fun i r hr d v hv => (k _ _ h.1).trans (h.2.1 i r hr d v hv), fun r hr => (h.2.2 r hr).keep k (fun _ hq => hq)⟩
theorem PRow.to {W : World} {D D' : Nat → Prop} {g : Nat} {rs : List BV} (h : PRow W D g rs) (k : ∀ q, D q → D' q) : PRow W D' g rs :=
  ⟨k _ h.1, h.2.1, fun r hr => (h.2.2 r hr).keep (fun _ _ _ => rfl) k⟩
theorem PRow.one {W : World} {D : Nat → Prop} {g : Nat} {x : Bun} {u : Value} (h : W.heap[g]? = some (.cells (bunC x u).toArray 28 (0, 0))) (hg : D g) (hb : RBlksD W D u x.blocks) : PRow W D g [(x, u)] := by
  refine ⟨hg, fun i r hr d v hv => ?_, fun r hr => ?_⟩
  · match i, hr with
    | 0, hr =>
      have e : (x, u) = r := by simpa using hr
      subst e
      rw [cellB h]
      simpa using hv
    | i + 1, hr => simp at hr
  · have e : r = (x, u) := by simpa using hr
    subst e
    exact hb
theorem OutB.prow {W : World} {N n₀ : Nat} {v : Value} {l : List Bun} (h : OutB W N n₀ v l) (hl : 0 < l.length) : ∃ (g cap : Nat) (rs : List BV), v = .slice (some ⟨g, 0, none⟩) l.length cap ∧ rs.map (·.1) = l ∧ PRow W (fun q => q < N ∨ (n₀ ≤ q ∧ q < W.heap.size)) g rs := by
  obtain ⟨rs, rfl, h2, h3⟩ := h
  have h2' := h2
  rcases h2.2 with ⟨rfl, e⟩ | ⟨g, cap, cur, rfl, e2, e3, e4⟩
  · omega
  · refine ⟨g, cap, rs, rfl, rfl, .inr ⟨e2, (Array.getElem?_eq_some_iff.1 e3).1⟩, fun i r hr d x hx => ?_, fun r hr => (h3 r hr).keep (fun _ _ _ => rfl) fun q hq => hq.2.2.imp id fun z => ⟨z, hq.1⟩⟩
    have i1 := (List.getElem?_eq_some_iff.1 hr).1
    have i2 := (List.getElem?_eq_some_iff.1 hx).1
    rw [bunC_len] at i2
    rw [h2'.cellAt _ (by rw [List.length_map]; omega)]
    exact flatU_at hr hx
/-- the blocks of a decoded bundle are new -/
theorem dec_new {w' : World} {N M : Nat} {u : Value} {l : List Blk} (h : RBlks w' N u l) (k : RFrom M u) : RBlksD w' (fun q => M ≤ q ∧ q < N) u l := by
  obtain ⟨a, c, rfl, h1, h2, h3, h4⟩ := h
  refine ⟨a, c, rfl, h1, h2, h3, fun hp => ?_⟩
  obtain ⟨b, o, rfl, hb, hi⟩ := h4 hp
  exact ⟨b, o, rfl, ⟨k _ _ _ rfl, hb⟩, hi⟩
end Go.Proofs.YthlbddcllikolaaGreat

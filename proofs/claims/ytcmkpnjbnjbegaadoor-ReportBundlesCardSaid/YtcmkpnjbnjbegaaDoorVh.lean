/- Layer 20 (report): equal records; different records have different texts; a record among the arguments. -/
import Derived.Test.YtcmkpnjbnjbegaaDoorVg
import Derived.Test.YtcmkpnjbnjbegaaDoorVd
set_option linter.unusedVariables false
set_option linter.unusedSimpArgs false
namespace Go.Proofs.YtcmkpnjbnjbegaaDoor
open Go Go.ChangeShapes Go.WideShapes Go.ChangeAt Go.RowKit Go.Joins
attribute [local go_sem] B_getElem B_size B_app B_extract B_get B_toList

def eqR (a b : Rep) : Bool := repL a == repL b
theorem eqR_iff {a b : Rep} : eqR a b = true ↔ a = b := by
  unfold eqR
  rw [beq_iff_eq]
  exact ⟨fun h => by have := congrArg mkRep h; rwa [mk_repL, mk_repL] at this, fun h => by rw [h]⟩
set_option maxHeartbeats 2000000 in
theorem eqRepI (k s c q o t n m r k' s' c' q' o' t' n' m' r' : Int) (w : World) : Sem.run Tryd.prog (Go.binOp .eql 25 (.agg #[.int .i64 k, .int .i64 s, .int .i64 c, .int .i64 q, .int .i64 o, .int .i64 t, .int .i64 n, .int .i64 m, .int .i64 r]) (.agg #[.int .i64 k', .int .i64 s', .int .i64 c', .int .i64 q', .int .i64 o', .int .i64 t', .int .i64 n', .int .i64 m', .int .i64 r'])) w = .ok (.bool (eqR ⟨k, s, c, q, o, t, n, m, r⟩ ⟨k', s', c', q', o', t', n', m', r'⟩)) w := by
  go_simp
  unfold eqR repL
  by_cases h1 : k = k'
  case neg => simp [h1]
  by_cases h2 : s = s'
  case neg => simp [h1, h2]
  by_cases h3 : c = c'
  case neg => simp [h1, h2, h3]
  by_cases h4 : q = q'
  case neg => simp [h1, h2, h3, h4]
  by_cases h5 : o = o'
  case neg => simp [h1, h2, h3, h4, h5]
  by_cases h6 : t = t'
  case neg => simp [h1, h2, h3, h4, h5, h6]
  by_cases h7 : n = n'
  case neg => simp [h1, h2, h3, h4, h5, h6, h7]
  by_cases h8 : m = m'
  case neg => simp [h1, h2, h3, h4, h5, h6, h7, h8]
  by_cases h9 : r = r'
  case neg => simp [h1, h2, h3, h4, h5, h6, h7, h8, h9]
  simp [h1, h2, h3, h4, h5, h6, h7, h8, h9]

/-! ### different records have different texts -/
theorem run_split {p : UInt8 → Bool} {X Y U V : List UInt8} (hX : ∀ c ∈ X, p c = true) (hY : ∀ c ∈ Y, p c = true) (hU : ∀ c, U.head? = some c → p c = false) (hV : ∀ c, V.head? = some c → p c = false) (h : X ++ U = Y ++ V) : X = Y ∧ U = V := by
  induction X generalizing Y with
  | nil =>
    cases Y with
    | nil => exact ⟨rfl, h⟩
    | cons y Y =>
      rw [List.nil_append] at h
      have e1 : p y = false := hU y (by rw [h]; rfl)
      rw [hY y (by simp)] at e1; cases e1
  | cons x X ih =>
    cases Y with
    | nil =>
      rw [List.nil_append] at h
      have e1 : p x = false := hV x (by rw [← h]; rfl)
      rw [hX x (by simp)] at e1; cases e1
    | cons y Y =>
      rw [List.cons_append, List.cons_append, List.cons.injEq] at h
      obtain ⟨rfl, h⟩ := h
      obtain ⟨rfl, e⟩ := ih (fun c hc => hX c (by simp [hc])) (fun c hc => hY c (by simp [hc])) h
      exact ⟨rfl, e⟩
def digB (c : UInt8) : Bool := 48 ≤ c.toNat && c.toNat ≤ 57
def dval (l : List UInt8) : Nat := l.foldl (fun n c => 10 * n + (c.toNat - 48)) 0
theorem dval_snoc (l : List UInt8) (c : UInt8) : dval (l ++ [c]) = 10 * dval l + (c.toNat - 48) := by unfold dval; rw [List.foldl_append]; rfl
theorem dig_nat (k : Nat) (h : k < 10) : (UInt8.ofNat (48 + k)).toNat = 48 + k := by rw [UInt8.toNat_ofNat']; omega
theorem dec_dig (u : Nat) : (∀ c ∈ Lib.decDigits u, digB c = true) ∧ dval (Lib.decDigits u) = u := by
  induction u using Nat.strongRecOn with
  | _ u ih =>
    by_cases h : u < 10
    · rw [Lib.decDigits_one h]
      have e := dig_nat u h
      refine ⟨fun c hc => ?_, ?_⟩
      · rw [List.mem_singleton.1 hc]; unfold digB; rw [e]; simp; omega
      · have := dval_snoc [] (UInt8.ofNat (48 + u)); rw [List.nil_append] at this; rw [this, e]; simp [dval]
    · rw [dd_step h]
      obtain ⟨h1, h2⟩ := ih (u / 10) (by omega)
      have e := dig_nat (u % 10) (by omega)
      refine ⟨fun c hc => ?_, ?_⟩
      · rcases List.mem_append.1 hc with hc | hc
        · exact h1 c hc
        · rw [List.mem_singleton.1 hc]; unfold digB; rw [e]; simp; omega
      · rw [dval_snoc, h2, e]; omega
theorem itoa_dig {n : Int} (h : 0 ≤ n) : (∀ c ∈ Lib.itoa n, digB c = true) ∧ dval (Lib.itoa n) = n.toNat := by
  obtain ⟨u, rfl⟩ : ∃ u : Nat, n = u := ⟨n.toNat, by omega⟩
  rw [Lib.itoa_nonneg, Int.toNat_natCast]; exact dec_dig u
theorem itoa_inj {n m : Int} (hn : 0 ≤ n) (hm : 0 ≤ m) (h : Lib.itoa n = Lib.itoa m) : n = m := by
  have h1 := (itoa_dig hn).2
  rw [h, (itoa_dig hm).2] at h1; omega
theorem num_split {n m : Int} {U V : List UInt8} (hn : 0 ≤ n) (hm : 0 ≤ m) (hU : ∀ c, U.head? = some c → digB c = false) (hV : ∀ c, V.head? = some c → digB c = false) (h : Lib.itoa n ++ U = Lib.itoa m ++ V) : n = m ∧ U = V := by
  obtain ⟨h1, h2⟩ := run_split (itoa_dig hn).1 (itoa_dig hm).1 hU hV h
  exact ⟨itoa_inj hn hm h1, h2⟩
theorem kind_inj : ∀ i, i < 7 → ∀ j, j < 7 → kindS i = kindS j → i = j := by decide
theorem kind_word : ∀ i, i < 7 → ∀ c ∈ kindS i, (c != 32) = true := by decide
theorem reason_inj : ∀ i, i < 8 → ∀ j, j < 8 → reasonS i = reasonS j → i = j := by decide
theorem head_cons {x : UInt8} {L : List UInt8} (hx : digB x = false) : ∀ c, (x :: L).head? = some c → digB c = false := fun c h => by
  obtain rfl := Option.some.inj h; exact hx
theorem textR_ok {r : Rep} (h : repE r = 0) : textR r = kindS r.kind.toNat ++ (32 :: (Lib.itoa r.src ++ (46 :: (Lib.itoa r.crt ++ (46 :: (Lib.itoa r.seq
    ++ ((if r.tot ≠ 0 then 46 :: (Lib.itoa r.off ++ (47 :: Lib.itoa r.tot)) else [])
    ++ (32 :: 110 :: 111 :: 100 :: 101 :: 32 :: (Lib.itoa r.node ++ (32 :: 116 :: 105 :: 109 :: 101 :: 32 :: (Lib.itoa r.time
    ++ (if r.reason ≠ 0 then 32 :: 114 :: 101 :: 97 :: 115 :: 111 :: 110 :: 32 :: reasonS r.reason.toNat else [])))))))))))) := by
  unfold textR; rw [if_neg (by simp [h])]; simp
theorem text_inj {a b : Rep} (ha : repE a = 0) (hb : repE b = 0) (h : textR a = textR b) : a = b := by
  obtain ⟨a1, a2, a3, a4, a5, a6, a7, a8, a9, a10⟩ := rep_facts ha
  obtain ⟨i1, i2, i3, i4, i5, i6, i7⟩ := rid_facts a3
  obtain ⟨b1, b2, b3, b4, b5, b6, b7, b8, b9, b10⟩ := rep_facts hb
  obtain ⟨j1, j2, j3, j4, j5, j6, j7⟩ := rid_facts b3
  rw [textR_ok ha, textR_ok hb] at h
  clear ha hb a3 b3 a10 b10
  obtain ⟨ka, sa, ca, qa, oa, ta, na, ma, ra⟩ := a
  obtain ⟨kb, sb, cb, qb, ob, tb, nb, mb, rb⟩ := b
  simp only at *
  obtain ⟨e1, h⟩ := run_split (kind_word _ (by omega)) (kind_word _ (by omega)) (fun c hc => by obtain rfl := Option.some.inj hc; rfl) (fun c hc => by obtain rfl := Option.some.inj hc; rfl) h
  have e1 := kind_inj _ (by omega) _ (by omega) e1
  have h := (List.cons.injEq _ _ _ _ ▸ h).2
  obtain ⟨e2, h⟩ := num_split i1 j1 (head_cons rfl) (head_cons rfl) h
  have h := (List.cons.injEq _ _ _ _ ▸ h).2
  obtain ⟨e3, h⟩ := num_split i3 j3 (head_cons rfl) (head_cons rfl) h
  have h := (List.cons.injEq _ _ _ _ ▸ h).2
  have hd : ∀ (P : Prop) [Decidable P] (L M : List UInt8), ∀ c, ((if P then 46 :: L else []) ++ 32 :: M).head? = some c → digB c = false := by
    intro P _ L M c hc
    by_cases hp : P
    · rw [if_pos hp] at hc; obtain rfl := Option.some.inj hc; rfl
    · rw [if_neg hp] at hc; obtain rfl := Option.some.inj hc; rfl
  obtain ⟨e4, h⟩ := num_split i5 j5 (hd _ _ _) (hd _ _ _) h
  have key : oa = ob ∧ ta = tb ∧ (Lib.itoa na ++ (32 :: 116 :: 105 :: 109 :: 101 :: 32 :: (Lib.itoa ma ++ (if ra ≠ 0 then 32 :: 114 :: 101 :: 97 :: 115 :: 111 :: 110 :: 32 :: reasonS ra.toNat else []))) = Lib.itoa nb ++ (32 :: 116 :: 105 :: 109 :: 101 :: 32 :: (Lib.itoa mb ++ (if rb ≠ 0 then 32 :: 114 :: 101 :: 97 :: 115 :: 111 :: 110 :: 32 :: reasonS rb.toNat else [])))) := by
    by_cases t1 : ta = 0
    · rw [if_neg (by simp [t1] : ¬ ta ≠ 0)] at h
      by_cases t2 : tb = 0
      · rw [if_neg (by simp [t2] : ¬ tb ≠ 0)] at h
        simp only [List.nil_append, List.cons.injEq, true_and] at h
        exact ⟨by omega, by omega, h⟩
      · rw [if_pos (show tb ≠ 0 from t2)] at h; simp at h
    · rw [if_pos (show ta ≠ 0 from t1)] at h
      by_cases t2 : tb = 0
      · rw [if_neg (by simp [t2] : ¬ tb ≠ 0)] at h; simp at h
      · rw [if_pos (show tb ≠ 0 from t2)] at h
        simp only [List.cons_append, List.append_assoc, List.cons.injEq, true_and] at h
        obtain ⟨e5, h⟩ := num_split (by omega) (by omega) (head_cons rfl) (head_cons rfl) h
        simp only [List.cons.injEq, true_and] at h
        obtain ⟨e6, h⟩ := num_split (by omega) (by omega) (head_cons rfl) (head_cons rfl) h
        simp only [List.cons.injEq, true_and] at h
        exact ⟨e5, e6, h⟩
  obtain ⟨e5, e6, h⟩ := key
  obtain ⟨e7, h⟩ := num_split a4 b4 (head_cons rfl) (head_cons rfl) h
  simp only [List.cons.injEq, true_and] at h
  have hr : ∀ (P : Prop) [Decidable P] (L : List UInt8), ∀ c, (if P then 32 :: L else ([] : List UInt8)).head? = some c → digB c = false := by
    intro P _ L c hc
    by_cases hp : P
    · rw [if_pos hp] at hc; obtain rfl := Option.some.inj hc; rfl
    · rw [if_neg hp] at hc; cases hc
  obtain ⟨e8, h⟩ := num_split a6 b6 (hr _ _) (hr _ _) h
  have e9 : ra = rb := by
    by_cases r1 : ra = 0
    · by_cases r2 : rb = 0
      · omega
      · rw [if_neg (by simp [r1] : ¬ ra ≠ 0), if_pos (show rb ≠ 0 from r2)] at h; cases h
    · by_cases r2 : rb = 0
      · rw [if_pos (show ra ≠ 0 from r1), if_neg (by simp [r2] : ¬ rb ≠ 0)] at h; cases h
      · rw [if_pos (show ra ≠ 0 from r1), if_pos (show rb ≠ 0 from r2)] at h
        simp only [List.cons.injEq, true_and] at h
        have := reason_inj _ (by omega) _ (by omega) h
        omega
  have e1' : ka = kb := by omega
  subst e1' e2 e3 e4 e5 e6 e7 e8 e9
  rfl
section
variable {H : Type} {enc : TypeId × Value → H} {w : World} {base : Nat} {spare : Nat → Bool} {held : Bool}
set_option maxRecDepth 100000 in
theorem open_rep_arg {r : Reach} {b0 : Nat} {v : Value} {d : DataW H} {p : List MemPlace} (hv : Value.okWide Tryd.prog w r b0 25 v) (h : DataW.Trod enc Tryd.prog w base spare held 25 v d p) :
    ∃ (b : Rep), v = repV b := by
  obtain ⟨cs, rfl, hsz⟩ := okWide_struct Tryd.underlying25 hv
  obtain ⟨fuel, hf⟩ := h
  obtain ⟨xs, m, rfl, _, hl, hxl, hf⟩ := DataW.trod_struct Tryd.underlying25 hf
  obtain ⟨cl⟩ := cs
  simp only [Value.cells] at hf hl
  obtain ⟨c0, c1, c2, c3, c4, c5, c6, c7, c8, rfl⟩ := list9 (hl.trans (by kernel_rfl))
  obtain ⟨x0, x1, x2, x3, x4, rfl⟩ := list5 hxl
  have k : Tryd.prog.cellsOf 3 = 1 := by kernel_rfl
  obtain ⟨a0, e0, _⟩ := DataW.trod_int (k := .i64) (by kernel_rfl) (fld (k := 1) (i := 0) hf rfl (by kernel_rfl))
  obtain ⟨a1, a2, a3, a4, a5, e1⟩ := open_id (fld (k := 5) (i := 1) hf rfl (by kernel_rfl))
  obtain ⟨a6, e2, _⟩ := DataW.trod_int (k := .i64) (by kernel_rfl) (fld (k := 1) (i := 2) hf rfl (by kernel_rfl))
  obtain ⟨a7, e3, _⟩ := DataW.trod_int (k := .i64) (by kernel_rfl) (fld (k := 1) (i := 3) hf rfl (by kernel_rfl))
  obtain ⟨a8, e4, _⟩ := DataW.trod_int (k := .i64) (by kernel_rfl) (fld (k := 1) (i := 4) hf rfl (by kernel_rfl))
  simp at e0 e1 e2 e3 e4
  obtain ⟨rfl, rfl, rfl, rfl, rfl⟩ := e1
  subst e0 e2 e3 e4
  exact ⟨⟨a0, a1, a2, a3, a4, a5, a6, a7, a8⟩, rfl⟩
end
end Go.Proofs.YtcmkpnjbnjbegaaDoor

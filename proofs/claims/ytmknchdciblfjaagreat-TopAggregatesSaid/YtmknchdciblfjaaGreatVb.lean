/- A program that runs the walked language on closed inputs, and its proof. -/
import Derived.Test.YtmknchdciblfjaaGreatVa
set_option linter.unusedVariables false
set_option linter.unusedSimpArgs false
namespace Go.Proofs.YtmknchdciblfjaaGreat.Ev
open Go
section
variable {P : Program} {m : Mp} {e : T RV} {ρ : Operand → Value} {s s' : S} {W : World} {o : Oper} {v : RV}
theorem bget {b : ByteArray} {i : Nat} {c : UInt8} (h : b.data.toList[i]? = some c) : (b[i]? : Option UInt8) = some c := by
  have hi : i < b.data.toList.length := (List.getElem?_eq_some_iff.1 h).1
  have hi2 : i < b.size := by
    show i < b.data.size
    rw [← Array.length_toList]
    exact hi
  rw [getElem?_pos b i hi2]
  have := (List.getElem?_eq_some_iff.1 h).2
  congr 1
theorem ok_index {t : TypeId} {x i : Operand} (ho : o.op = .index t x i) (h : opEv P e s o = some (v, s')) (he : Eval m e ρ) (r : Rel m s.H W.heap) (hn : m s.nx = none) : Res P m s W (execOp ρ o) v s' := by
  simp only [opEv, ho] at h
  split at h
  · rename_i d xv iv hd hx hi
    split at h
    · rename_i n el cs j hj
      split at h
      · rename_i size hsz
        cases hc : Nat.blt j n with
        | false => rw [hc] at h; cases h
        | true =>
          rw [hc] at h
          simp only [cond_true] at h
          have hlt : j < n := Nat.le_of_ble_eq_true hc
          split at h
          · rename_i w hw
            simp only [Option.some.injEq, Prod.mk.injEq] at h
            obtain ⟨rfl, rfl⟩ := h
            obtain ⟨vs, hvs, hu⟩ := (he x _ hx).agg_inv
            obtain ⟨k, hk⟩ := asNat_ok hj (he i _ hi)
            obtain ⟨u, hu1, hu2⟩ := r_partV (W := W) hw hvs
            refine res_read r hn (u := u) ?_ hu2
            simp [execOp, ho, Instr.index, hu, hk, asIntOf, r_underlying hd, hlt, r_sizeOf hsz, hu1]
          · cases h
      · cases h
    · rename_i n el cs j hj
      split at h
      · rename_i size hsz
        cases hc : Nat.blt j n with
        | false => rw [hc] at h; cases h
        | true =>
          rw [hc] at h
          simp only [cond_true] at h
          have hlt : j < n := Nat.le_of_ble_eq_true hc
          split at h
          · rename_i w hw
            simp only [Option.some.injEq, Prod.mk.injEq] at h
            obtain ⟨rfl, rfl⟩ := h
            have hu := (he x _ hx).val_inv
            obtain ⟨k, hk⟩ := asNat_ok hj (he i _ hi)
            obtain ⟨u, hu1, hu2⟩ := r_partV (W := W) hw (RVals.vals m cs.toList)
            simp only [Array.toArray_toList] at hu1
            refine res_read r hn (u := u) ?_ hu2
            simp [execOp, ho, Instr.index, hu, hk, asIntOf, r_underlying hd, hlt, r_sizeOf hsz, hu1]
          · cases h
      · cases h
    · rename_i b j hj
      split at h
      · rename_i c hc
        simp only [Option.some.injEq, Prod.mk.injEq] at h
        obtain ⟨rfl, rfl⟩ := h
        have hu := (he x _ hx).val_inv
        obtain ⟨k, hk⟩ := asNat_ok hj (he i _ hi)
        refine res_read r hn (u := .int .u8 c.toNat) ?_ (.val _)
        have hb := bget hc
        simp only [execOp, ho, Instr.index, hu, hk, asIntOf, r_underlying hd, Sem.run_bind, Sem.run_pure, Result.andThen_ok]
        rw [if_pos (by omega), Int.toNat_natCast, hb]
        rfl
      · cases h
    · cases h
  · cases h
def ORV (m : Mp) : Option RV → Option Value → Prop
  | none, none => True
  | some x, some v => RVal m x v
  | _, _ => False
theorem optOp_ok (he : Eval m e ρ) {x : Option Operand} {l : Option RV} (h : optOp e x = some l) : ORV m l (x.map ρ) := by
  unfold optOp at h
  split at h
  · simp only [Option.some.injEq] at h; subst h; trivial
  · split at h
    · rename_i w hw
      simp only [Option.some.injEq] at h
      subst h
      exact he _ _ hw
    · cases h
theorem r_sliceBound {k : IntKind} {n y : Nat} (c : BoundsCode) (h : n ≤ y) (W : World) : (Instr.sliceBound (.int k (n : Int)) y c).run P W = .ok n W := by
  unfold Instr.sliceBound
  simp only [asIntOf, Sem.run_bind, Sem.run_pure, Result.andThen_ok]
  rw [if_pos (by omega)]
  rfl
theorem numEv_ok {d n : Nat} {l : Option RV} {u : Option Value} (h : numEv d l = some n) (hr : ORV m l u) : (l = none ∧ u = none ∧ n = d) ∨ (∃ k x, l = some x ∧ u = some (.int k (n : Int))) := by
  unfold numEv at h
  split at h
  · cases u with
    | none => exact .inl ⟨rfl, rfl, (Option.some.inj h).symm⟩
    | some u => exact hr.elim
  · rename_i x
    cases u with
    | none => exact hr.elim
    | some u => obtain ⟨k, hk⟩ := asNat_ok h hr; subst hk; exact .inr ⟨k, x, rfl, rfl⟩
theorem le3_ok {l h n : Nat} (k : le3 l h n = true) : l ≤ h ∧ h ≤ n := by
  unfold le3 at k
  rw [Bool.and_eq_true] at k
  exact ⟨Nat.le_of_ble_eq_true k.1, Nat.le_of_ble_eq_true k.2⟩
theorem r_bounds {b : Bool} {len cap l h : Nat} {lo hi : Option RV} {lv hv : Option Value} (h1 : numEv 0 lo = some l) (h2 : numEv len hi = some h) (r1 : ORV m lo lv) (r2 : ORV m hi hv) (hle : l ≤ h) (hc : h ≤ cap) (W : World) :
    (Instr.sliceBounds b len cap lv hv none).run P W = .ok (l, h, cap) W := by
  unfold Instr.sliceBounds
  rcases numEv_ok h1 r1 with ⟨_, rfl, rfl⟩ | ⟨k, x, _, rfl⟩ <;> rcases numEv_ok h2 r2 with ⟨_, rfl, rfl⟩ | ⟨k', x', _, rfl⟩ <;> simp [r_sliceBound, hle, hc]
theorem r_bounds3 {b : Bool} {len cap l h mm : Nat} {lo hi : Option RV} {lv hv : Option Value} {k : IntKind} {x : RV} (h1 : numEv 0 lo = some l) (h2 : numEv len hi = some h) (hs : hi = some x) (r1 : ORV m lo lv) (r2 : ORV m hi hv) (hle : l ≤ h) (hc : h ≤ mm) (hm : mm ≤ cap) (W : World) :
    (Instr.sliceBounds b len cap lv hv (some (.int k (mm : Int)))).run P W = .ok (l, h, mm) W := by
  unfold Instr.sliceBounds
  rcases numEv_ok h2 r2 with ⟨e, _⟩ | ⟨k', x', _, rfl⟩
  · rw [hs] at e; cases e
  rcases numEv_ok h1 r1 with ⟨_, rfl, rfl⟩ | ⟨k, x, _, rfl⟩ <;> simp [r_sliceBound, hle, hc, hm]
theorem slice_ok {t : TypeId} {xv w : RV} {xu : Value} {l hh mm : Option RV} {lv hv mv : Option Value} (h : sliceEv P t xv l hh mm = some w) (rx : RVal m xv xu) (rl : ORV m l lv) (rh : ORV m hh hv) (rm : ORV m mm mv) (W : World) :
    ∃ u, (Instr.sliceAt t xu lv hv mv).run P W = .ok u W ∧ RVal m w u := by
  unfold sliceEv at h
  split at h
  · rename_i d hd
    split at h
    · -- a string
      rename_i b
      split at h
      · rename_i a c ha hc
        cases hle : le3 a c b.size with
        | false => rw [hle] at h; cases h
        | true =>
          rw [hle] at h
          simp only [cond_true, Option.some.injEq] at h
          subst h
          obtain ⟨q1, q2⟩ := le3_ok hle
          have hu := rx.val_inv
          cases mv with
          | some x => exact rm.elim
          | none =>
            refine ⟨.string (b.extract a c), ?_, .val _⟩
            simp [Instr.sliceAt, Instr.slice, r_underlying hd, hu, r_bounds (b := false) ha hc rl rh q1 q2]
      · cases h
    · -- an array
      rename_i n el id off
      split at h
      · rename_i a c size ha hc hsz
        cases hle : le3 a c n with
        | false => rw [hle] at h; cases h
        | true =>
          rw [hle] at h
          simp only [cond_true, Option.some.injEq] at h
          subst h
          obtain ⟨q1, q2⟩ := le3_ok hle
          obtain ⟨p, hp, hu⟩ := rx.ptr_inv
          cases mv with
          | some x => exact rm.elim
          | none =>
            by_cases e0 : n = a
            · subst e0
              refine ⟨.slice (some ⟨p.b, p.o + off, none⟩) (c - n) (n - n), ?_, ?_⟩
              · simp [Instr.sliceAt, r_underlying hd, hu, Instr.sureAddr, r_bounds (b := false) ha hc rl rh q1 q2, r_sizeOf hsz]
              · simp only [beq_self_eq_true, cond_true]
                exact .known hp (by omega)
            · refine ⟨.slice (some ⟨p.b, p.o + (off + a * size), none⟩) (c - a) (n - a), ?_, ?_⟩
              · simp [Instr.sliceAt, r_underlying hd, hu, Instr.sureAddr, r_bounds (b := false) ha hc rl rh q1 q2, r_sizeOf hsz, e0, addrN, Nat.add_assoc]
              · rw [show (n == a) = false by simpa using e0]
                exact .known hp (by omega)
      · cases h
    · -- a slice
      rename_i el id off len cp
      split at h
      · rename_i a c size ha hc hsz
        split at h
        · rename_i mrv hrv
          split at h
          · rename_i q hq
            cases hle : (le3 a c q && roomOk cp q len) with
            | false => rw [hle] at h; cases h
            | true =>
              rw [hle] at h
              simp only [cond_true, Option.some.injEq] at h
              subst h
              rw [Bool.and_eq_true] at hle
              obtain ⟨hle, hle2⟩ := hle
              obtain ⟨q1, q2⟩ := le3_ok hle
              obtain ⟨p, cc, hp, hlc, hu⟩ := rx.slice_inv
              have hqc : q ≤ cc := by
                cases cp with
                | known k => obtain ⟨p', hp', _, hu'⟩ := rx.known_inv; obtain ⟨-, -, hcc⟩ := Value.slice.inj (hu.symm.trans hu'); rw [hcc]; exact Nat.le_of_ble_eq_true hle2
                | opened k => exact Nat.le_trans (Nat.le_of_ble_eq_true hle2) hlc
              cases mv with
              | none => exact rm.elim
              | some mu =>
                obtain ⟨kk, hkk⟩ := asNat_ok hq rm
                subst hkk
                by_cases e0 : q = a
                · subst e0
                  refine ⟨.slice (some ⟨p.b, p.o + off, none⟩) (c - q) (q - q), ?_, ?_⟩
                  · simp [Instr.sliceAt, Instr.slice, r_underlying hd, hu, r_bounds3 (b := true) ha hc rfl rl rh q1 q2 hqc, r_sizeOf hsz]
                  · simp only [beq_self_eq_true, cond_true]
                    exact .known hp (by omega)
                · refine ⟨.slice (some ⟨p.b, p.o + (off + a * size), none⟩) (c - a) (q - a), ?_, ?_⟩
                  · simp [Instr.sliceAt, Instr.slice, r_underlying hd, hu, r_bounds3 (b := true) ha hc rfl rl rh q1 q2 hqc, r_sizeOf hsz, e0, addrN, Nat.add_assoc]
                  · rw [show (q == a) = false by simpa using e0]
                    exact .known hp (by omega)
          · cases h
        · rename_i cc
          cases hle : le3 a c cc with
          | false => rw [hle] at h; cases h
          | true =>
            rw [hle] at h
            simp only [cond_true, Option.some.injEq] at h
            subst h
            obtain ⟨q1, q2⟩ := le3_ok hle
            obtain ⟨p, hp, hlc, hu⟩ := rx.known_inv
            cases mv with
            | some x => exact rm.elim
            | none =>
              by_cases e0 : cc = a
              · subst e0
                refine ⟨.slice (some ⟨p.b, p.o + off, none⟩) (c - cc) (cc - cc), ?_, ?_⟩
                · simp [Instr.sliceAt, Instr.slice, r_underlying hd, hu, r_bounds (b := true) ha hc rl rh q1 q2, r_sizeOf hsz]
                · simp only [beq_self_eq_true, cond_true]
                  exact .known hp (by omega)
              · refine ⟨.slice (some ⟨p.b, p.o + (off + a * size), none⟩) (c - a) (cc - a), ?_, ?_⟩
                · simp [Instr.sliceAt, Instr.slice, r_underlying hd, hu, r_bounds (b := true) ha hc rl rh q1 q2, r_sizeOf hsz, e0, addrN, Nat.add_assoc]
                · rw [show (cc == a) = false by simpa using e0]
                  exact .known hp (by omega)
        · rename_i sz
          cases hle : (le3 a c len && sz == size) with
          | false => rw [hle] at h; cases h
          | true =>
            rw [hle] at h
            simp only [cond_true] at h
            rw [Bool.and_eq_true, beq_iff_eq] at hle
            obtain ⟨hle, rfl⟩ := hle
            obtain ⟨q1, q2⟩ := le3_ok hle
            obtain ⟨p, cc, hp, hlc, hroom, hu⟩ := rx.opened_inv
            have q3 : c ≤ cc := by omega
            have hmul : a * sz + (cc - a) * sz = cc * sz := by rw [← Nat.add_mul]; congr 1; omega
            cases mv with
            | some x => exact rm.elim
            | none =>
              cases hal : (a == 0 || Nat.blt a len) with
              | true =>
                rw [hal] at h
                simp only [cond_true, Option.some.injEq] at h
                subst h
                refine ⟨.slice (some ⟨p.b, p.o + (off + a * sz), none⟩) (c - a) (cc - a), ?_, .opened hp (by omega) (by omega)⟩
                by_cases e0 : cc = a
                · have ha0 : a = 0 := by
                    rw [Bool.or_eq_true, beq_iff_eq] at hal
                    rcases hal with hal | hal
                    · exact hal
                    · have : a < len := Nat.le_of_ble_eq_true hal
                      omega
                  subst ha0
                  subst e0
                  simp [Instr.sliceAt, Instr.slice, r_underlying hd, hu, r_bounds (b := true) ha hc rl rh q1 q3, r_sizeOf hsz]
                · simp [Instr.sliceAt, Instr.slice, r_underlying hd, hu, r_bounds (b := true) ha hc rl rh q1 q3, r_sizeOf hsz, e0, addrN, Nat.add_assoc]
              | false =>
                rw [hal] at h
                simp only [cond_false, Option.some.injEq] at h
                subst h
                rw [Bool.or_eq_false_iff] at hal
                have ha1 : ¬ a < len := fun hh => by
                  have : Nat.blt a len = true := Nat.ble_eq_true_of_le hh
                  rw [hal.2] at this
                  cases this
                have e1 : c - a = 0 := by omega
                by_cases e0 : cc = a
                · subst e0
                  refine ⟨.slice (some ⟨p.b, p.o + off, none⟩) 0 (cc - cc), ?_, .empty _ _⟩
                  simp [Instr.sliceAt, Instr.slice, r_underlying hd, hu, r_bounds (b := true) ha hc rl rh q1 q3, r_sizeOf hsz, e1]
                · refine ⟨.slice (some ⟨p.b, p.o + (off + a * sz), none⟩) 0 (cc - a), ?_, .empty _ _⟩
                  simp [Instr.sliceAt, Instr.slice, r_underlying hd, hu, r_bounds (b := true) ha hc rl rh q1 q3, r_sizeOf hsz, e0, e1, addrN, Nat.add_assoc]
        · cases h
      · cases h
    · -- an empty slice
      rename_i el
      split at h
      · rename_i n hsz hl hh'
        simp only [Option.some.injEq] at h
        subst h
        obtain ⟨a, c, hu⟩ := rx.empty_inv
        cases mv with
        | some x => exact rm.elim
        | none =>
          by_cases e0 : c = 0
          · subst e0
            refine ⟨.slice (some a) 0 0, ?_, .empty _ _⟩
            simp [Instr.sliceAt, Instr.slice, r_underlying hd, hu, r_bounds (b := true) hl hh' rl rh (Nat.le_refl _) (Nat.le_refl _), r_sizeOf hsz]
          · refine ⟨.slice (some (a.add 0)) 0 c, ?_, .empty _ _⟩
            simp [Instr.sliceAt, Instr.slice, r_underlying hd, hu, r_bounds (b := true) hl hh' rl rh (Nat.le_refl _) (Nat.zero_le _), r_sizeOf hsz, e0]
      · cases h
    · -- nil
      rename_i el
      have hu := rx.val_inv
      split at h
      · rename_i n hsz hl hh'
        split at h
        · simp only [Option.some.injEq] at h
          subst h
          cases mv with
          | some x => exact rm.elim
          | none =>
            refine ⟨.slice none 0 0, ?_, .val _⟩
            simp [Instr.sliceAt, Instr.slice, r_underlying hd, hu, r_bounds (b := true) hl hh' rl rh (Nat.le_refl _) (Nat.le_refl _), r_sizeOf hsz]
        · rename_i q1 q2
          split at h
          · rename_i hq
            simp only [Option.some.injEq] at h
            subst h
            cases mv with
            | none => exact rm.elim
            | some mu =>
              obtain ⟨kk, hkk⟩ := asNat_ok hq rm
              subst hkk
              refine ⟨.slice none 0 0, ?_, .val _⟩
              have := show (Instr.sliceBounds true 0 0 lv hv (some (.int kk 0))).run P W = .ok (0, 0, 0) W from r_bounds3 (b := true) (P := P) (cap := 0) (k := kk) (mm := 0) hl hh' rfl rl rh (Nat.le_refl _) (Nat.le_refl _) (Nat.le_refl _) W
              simp only [Instr.sliceAt, Instr.slice, Sem.run_bind, r_underlying hd, Result.andThen_ok, hu]
              simp [this, r_sizeOf hsz]
          · cases h
        · cases h
      · cases h
    · cases h
  · cases h
theorem ok_slice {t : TypeId} {x : Operand} {lo hi mx : Option Operand} (ho : o.op = .slice t x lo hi mx) (h : opEv P e s o = some (v, s')) (he : Eval m e ρ) (r : Rel m s.H W.heap) (hn : m s.nx = none) : Res P m s W (execOp ρ o) v s' := by
  simp only [opEv, ho] at h
  split at h
  · rename_i xv l hh mm hx hl hhi hmx
    split at h
    · rename_i w hw
      simp only [Option.some.injEq, Prod.mk.injEq] at h
      obtain ⟨rfl, rfl⟩ := h
      obtain ⟨u, h1, h2⟩ := slice_ok hw (he x _ hx) (optOp_ok he hl) (optOp_ok he hhi) (optOp_ok he hmx) W
      refine res_read r hn (u := u) ?_ h2
      simp [execOp, ho, h1]
    · cases h
  · cases h
end
section
variable {P : Program} {m : Mp} {e : T RV} {ρ : Operand → Value} {s s' : S} {W W' : World} {o : Oper} {v : RV}
theorem Rel.make' {H : T AObj} {id : Nat} {o : AObj} {o0 n : Nat} (r : Rel m H W.heap) (hid : m id = none) (hs : W'.heap.size = W.heap.size + 1) (hk : ∀ b, b < W.heap.size → W'.heap[b]? = W.heap[b]?)
    (ho : ORel (upd m id ⟨W.heap.size, o0, n⟩) W'.heap ⟨W.heap.size, o0, n⟩ o) (h1 : W'.os = W.os) (h2 : W'.tape = W.tape) (h3 : W'.output = W.output) :
    Rel (upd m id ⟨W.heap.size, o0, n⟩) (H.set D id (some o)) W'.heap ∧ Grow m H W (upd m id ⟨W.heap.size, o0, n⟩) (H.set D id (some o)) W' := by
  refine r.step (le_upd hid) (upd_at _ _ _) ho (fun j oj hj => ?_) (fun b hb _ => hk b hb) (by omega) (.inr (Nat.le_refl _)) h1 h2 h3
  rcases T.get_set D H id (some o) j oj hj with ⟨rfl, e⟩ | ⟨hne, e⟩
  · exact .inl ⟨rfl, (Option.some.inj e).symm⟩
  · refine .inr ⟨hne, e, fun p hp => ?_⟩
    obtain ⟨q, hq, hr⟩ := r.obj j oj e
    have : p = q := Option.some.inj (hp.symm.trans hq)
    subst this
    have := hr.lt
    show p.b ≠ W.heap.size
    omega
theorem res_make {x : Sem Next} {ob : AObj} {v : RV} {u : Value} {o0 n : Nat} (r : Rel m s.H W.heap) (hn : m s.nx = none) (hs : W'.heap.size = W.heap.size + 1) (hk : ∀ b, b < W.heap.size → W'.heap[b]? = W.heap[b]?)
    (ho : ORel (upd m s.nx ⟨W.heap.size, o0, n⟩) W'.heap ⟨W.heap.size, o0, n⟩ ob) (h1 : W'.os = W.os) (h2 : W'.tape = W.tape) (h3 : W'.output = W.output)
    (hx : x.run P W = .ok (.value u) W') (hv : RVal (upd m s.nx ⟨W.heap.size, o0, n⟩) v u) : Res P m s W x v (s.new ob) := by
  obtain ⟨k1, k2⟩ := r.make' hn hs hk ho h1 h2 h3
  exact ⟨_, W', k1, k2, fun id hid => if_neg hid, .inr rfl, .inl ⟨u, hx, hv⟩⟩
theorem first_ok {size n : Nat} {x : RV} {cs : List RV} {u : Value} (h : firstEv s size n x = some cs) (hx : RVal m x u) (r : Rel m s.H W.heap) : ∃ vs : List Value, (Builtin.firstCells size n u).run P W = .ok vs.toArray W ∧ RVals m cs vs := by
  unfold firstEv at h
  split at h
  · rename_i id off len cp
    split at h
    · rename_i c hc
      cases hb : Nat.ble (off + n * size) c.length with
      | false => rw [hb] at h; cases h
      | true =>
        rw [hb] at h
        simp only [cond_true, Option.some.injEq] at h
        subst h
        obtain ⟨p, cc, hp, _, hu⟩ := hx.slice_inv
        obtain ⟨vs, q1, q2, q3⟩ := (r.cells (cells_of hc) hp).seg (Nat.le_of_ble_eq_true hb)
        refine ⟨vs, ?_, q1⟩
        simp only [Builtin.firstCells, hu]
        rw [← q2, r_loadCells (fun i v hv => q3 i v hv)]
    · cases h
  · cases hb : (n * size == 0) with
    | false => rw [hb] at h; cases h
    | true =>
      rw [hb] at h
      simp only [cond_true, Option.some.injEq] at h
      subst h
      obtain ⟨a, c, hu⟩ := hx.empty_inv
      refine ⟨[], ?_, .nil⟩
      rw [beq_iff_eq] at hb
      simp [Builtin.firstCells, hu, hb, loadCells, loadCellsFrom]
  · simp only [Option.some.injEq] at h
    subst h
    have hu := hx.val_inv
    exact ⟨[], by simp [Builtin.firstCells, hu], .nil⟩
  · rename_i b
    cases hb : (n == b.size && size == 1) with
    | false => rw [hb] at h; cases h
    | true =>
      rw [hb] at h
      simp only [cond_true, Option.some.injEq] at h
      subst h
      have hu := hx.val_inv
      rw [Bool.and_eq_true, beq_iff_eq, beq_iff_eq] at hb
      obtain ⟨rfl, rfl⟩ := hb
      refine ⟨byteVals b, ?_, RVals.vals m _⟩
      have e1 : b.extract 0 b.size = b := by simp
      simp only [Builtin.firstCells, hu, e1, Sem.run_pure]
      congr 1
      apply Array.ext'
      simp [byteVals]
  · cases h
theorem lenEv_ok {x : RV} {n : Nat} {u : Value} (h : lenEv x = some n) (hx : RVal m x u) (W : World) : (Builtin.lenOf u).run P W = .ok n W := by
  unfold lenEv at h
  split at h
  · simp only [Option.some.injEq] at h; subst h; rw [hx.val_inv]; rfl
  · rename_i n' c
    cases hb : (n' == 0) with
    | false => rw [hb] at h; cases h
    | true =>
      rw [hb] at h
      simp only [cond_true, Option.some.injEq] at h
      subst h
      rw [beq_iff_eq] at hb
      rw [hx.val_inv, hb]; rfl
  · simp only [Option.some.injEq] at h; subst h; obtain ⟨p, c, _, _, hu⟩ := hx.slice_inv; rw [hu]; rfl
  · simp only [Option.some.injEq] at h; subst h; obtain ⟨a, c, hu⟩ := hx.empty_inv; rw [hu]; rfl
  · cases h
theorem bytesEv_ok : ∀ {cs : List RV} {l : List UInt8} {vs : List Value}, bytesEv cs = some l → RVals m cs vs → ∃ ns : List Int, vs = ns.map (.int .u8) ∧ l = ns.map (fun n => UInt8.ofNat n.toNat)
  | [], l, _, h, .nil => by simp [bytesEv] at h; subst h; exact ⟨[], rfl, rfl⟩
  | x :: r, l, _, h, .cons (v := v) (vs := vs) hx k => by
    unfold bytesEv at h
    split at h
    · rename_i e; cases e
    · rename_i n r' e
      cases e
      split at h
      · rename_i l' hl
        simp only [Option.some.injEq] at h
        subst h
        obtain ⟨ns, e1, e2⟩ := bytesEv_ok hl k
        exact ⟨n :: ns, by rw [hx.val_inv, e1]; rfl, by rw [e2]; rfl⟩
      · cases h
    · cases h
theorem foldl_push (ns : List Int) : ∀ (b : ByteArray), ns.foldl (fun r n => r.push (UInt8.ofNat n.toNat)) b = ⟨(b.data.toList ++ ns.map (fun n => UInt8.ofNat n.toNat)).toArray⟩ := by
  induction ns with
  | nil => intro b; simp
  | cons n ns ih =>
    intro b
    rw [List.foldl_cons, ih]
    congr 1
    simp [ByteArray.push]
theorem r_choose_cap (need old : Nat) (el : TypeId) (W : World) : ∃ c, need ≤ c ∧ (choose (.appendCap need old el)).run P W = .ok c { W with drawn := W.drawn + 1 } := by
  refine ⟨(Question.appendCap need old el).cut (W.tape W.drawn (.appendCap need old el)), ?_, ?_⟩
  · simp [Question.cut]
  · simp [choose, Sem.run, Question.forced]
theorem ok_convert {src dst : TypeId} {x : Operand} (ho : o.op = .convert src dst x) (h : opEv P e s o = some (v, s')) (he : Eval m e ρ) (r : Rel m s.H W.heap) (hn : m s.nx = none) : Res P m s W (execOp ρ o) v s' := by
  simp only [opEv, ho] at h
  split at h
  · rename_i xv hx
    have rx := he x _ hx
    unfold convEv at h
    split at h
    · rename_i a d ha hd
      split at h
      · -- a string to bytes
        rename_i el b
        split at h
        · rename_i hel
          cases hb : Nat.ble b.size most with
          | false => rw [hb] at h; cases h
          | true =>
            rw [hb] at h
            simp only [cond_true, Option.some.injEq, Prod.mk.injEq] at h
            obtain ⟨rfl, rfl⟩ := h
            have hu := rx.val_inv
            obtain ⟨c, hc, hrun⟩ := r_choose_cap (P := P) b.size 0 el W
            have hlen : (byteVals b).length = b.size := by unfold byteVals; rw [List.length_map, Array.length_toList]; rfl
            obtain ⟨arr, harr⟩ : ∃ arr : Array Value, (b.data.map fun b => Value.int .u8 b.toNat) ++ Array.replicate (c - b.size) (.int .u8 0) = arr := ⟨_, rfl⟩
            have hasz : arr.size = c := by
              rw [← harr]
              simp
              show b.size + (c - b.size) = c
              omega
            have hget : ∀ (i : Nat) (w : Value), (byteVals b)[i]? = some w → arr[i]? = some w := by
              intro i w hw
              have hi := (List.getElem?_eq_some_iff.1 hw).1
              rw [← harr, Array.getElem?_append_left (by simp; rw [hlen] at hi; exact hi)]
              rw [← hw]
              unfold byteVals
              rw [← Array.getElem?_toList]
              simp
            let W2 : World := ({ W with drawn := W.drawn + 1, heap := W.heap.push (.cells arr el (0, 0)) } : World).freeze ⟨W.heap.size, arr.size, none⟩ 1
            have hW2 : W2.heap = (W.heap.push (.cells arr el (0, 0))).modify W.heap.size fun
                | .cells c elem (lo, hi) => .cells c elem (if lo == hi then (arr.size, arr.size + 1) else (min lo arr.size, max hi (arr.size + 1)))
                | o => o := rfl
            have hat : W2.heap[W.heap.size]? = some (.cells arr el (arr.size, arr.size + 1)) := by
              rw [hW2, Array.getElem?_modify]
              simp
            refine res_make (W' := W2) (o0 := 0) (n := c) r hn ?_ ?_ ?_ rfl rfl rfl (u := .slice (some ⟨W.heap.size, 0, none⟩) b.size c) ?_ (.opened (off := 0) (upd_at _ _ _) hc (by simp))
            · rw [hW2]; simp
            · intro q hq
              rw [hW2, Array.getElem?_modify, if_neg (by omega), Array.getElem?_push_lt hq, Array.getElem?_eq_getElem hq]
            · refine ⟨arr, el, (arr.size, arr.size + 1), hat, hasz, fun i hi => ?_, ?_, fun i y hy => ?_⟩
              · rw [Bool.and_eq_false_iff]; left; simp; omega
              · simp [hlen]; omega
              · simp only [Nat.zero_add]
                rw [List.getElem?_map] at hy
                cases hw : (byteVals b)[i]? with
                | none => rw [hw] at hy; cases hy
                | some w =>
                  rw [hw] at hy
                  simp only [Option.map_some, Option.some.injEq] at hy
                  subst hy
                  exact ⟨w, hget i w hw, .val w⟩
            · have hrun2 : (Conv.stringToBytes el b).run P W = .ok (.slice (some ⟨W.heap.size, 0, none⟩) b.size c) W2 := by
                unfold Conv.stringToBytes
                simp only [Sem.run_bind, hrun, Result.andThen_ok]
                simp only [newRow, Sem.run_bind, run_newObj, Result.andThen_ok, Sem.run_pure, harr, markStringish, run_shape, World.shape?, Array.getElem?_push_size, run_freeze]
                rfl
              simp only [execOp, ho, hu, Sem.run_bind]
              have : (convert src dst (.string b)).run P W = (Conv.stringToBytes el b).run P W := by
                unfold convert
                simp only [Sem.run_bind, r_underlying ha, r_underlying hd, Result.andThen_ok]
                cases a <;> simp only [Sem.run_bind, r_underlying hel, Result.andThen_ok]
              rw [this, hrun2]
              rfl
        · cases h
      · -- bytes to a string
        rename_i el
        split at h
        · rename_i l c hel
          simp only [Option.some.injEq, Prod.mk.injEq] at h
          obtain ⟨rfl, rfl⟩ := h
          have hu := rx.val_inv
          refine res_read r hn (u := .string .empty) ?_ (.val _)
          simp only [execOp, ho, hu, Sem.run_bind]
          rw [run_convert_bytes_string W src dst el none l c ha hel hd]
          simp [Conv.bytesToString]
        · rename_i id off n cp hel
          split at h
          · rename_i cs hcs
            split at h
            · rename_i l hl
              simp only [Option.some.injEq, Prod.mk.injEq] at h
              obtain ⟨rfl, rfl⟩ := h
              obtain ⟨p, c, hp, _, hu⟩ := rx.slice_inv
              obtain ⟨vs, hv1, hv2⟩ := first_ok (P := P) hcs rx r
              obtain ⟨ns, e1, e2⟩ := bytesEv_ok hl hv2
              rw [hu] at hv1
              simp only [Builtin.firstCells, Nat.mul_one, e1] at hv1
              have h3 := run_bytesToString (P := P) W ⟨p.b, p.o + off, none⟩ n c ns hv1
              rw [foldl_push] at h3
              refine res_read r hn (u := .string ⟨l.toArray⟩) ?_ (.val _)
              simp only [execOp, ho, hu, Sem.run_bind]
              rw [run_convert_bytes_string W src dst el _ n c ha hel hd, h3, e2]
              rfl
            · cases h
          · cases h
        · rename_i hel
          simp only [Option.some.injEq, Prod.mk.injEq] at h
          obtain ⟨rfl, rfl⟩ := h
          obtain ⟨a, c, hu⟩ := rx.empty_inv
          have h3 := run_bytesToString (P := P) W a 0 c [] (by simp [loadCells, loadCellsFrom])
          refine res_read r hn (u := .string .empty) ?_ (.val _)
          simp only [execOp, ho, hu, Sem.run_bind]
          rw [run_convert_bytes_string W src dst el _ 0 c ha hel hd, h3]
          rfl
        · cases h
      · -- a plain value
        rename_i w _ _
        split at h
        · rename_i q hq
          simp only [Option.some.injEq, Prod.mk.injEq] at h
          obtain ⟨rfl, rfl⟩ := h
          have hu := rx.val_inv
          refine res_read r hn (u := q) ?_ (.val q)
          simp [execOp, ho, hu, calm_run hq]
        · cases h
      · cases h
    · cases h
  · cases h
end
section
variable {P : Program} {m : Mp} {e : T RV} {ρ : Operand → Value} {s s' : S} {W W' : World} {o : Oper} {v : RV}
theorem EntsRel.length : ∀ {as : List AEnt} {es : List MapEntry}, EntsRel m as es → es.length = as.length
  | _, _, .nil => rfl
  | _, _, .cons _ k => by simp [EntsRel.length k]
theorem EntsRel.get : ∀ {as : List AEnt} {es : List MapEntry}, EntsRel m as es → ∀ {i : Nat} {a : AEnt}, as[i]? = some a → ∃ e, es[i]? = some e ∧ EntRel m a e
  | _, _, .nil, i, a, h => by simp at h
  | _, _, .cons (e := e) h k, 0, a, q => by simp at q; subst q; exact ⟨e, rfl, h⟩
  | _, _, .cons h k, i + 1, a, q => by simpa using EntsRel.get k (i := i) (by simpa using q)
theorem EntsRel.app : ∀ {as : List AEnt} {es : List MapEntry} {a : AEnt} {e : MapEntry}, EntsRel m as es → EntRel m a e → EntsRel m (as ++ [a]) (es ++ [e])
  | _, _, _, _, .nil, h => .cons h .nil
  | _, _, _, _, .cons h k, q => .cons h (EntsRel.app k q)
theorem EntsRel.mod {f : AEnt → AEnt} {g : MapEntry → MapEntry} : ∀ {as : List AEnt} {es : List MapEntry} {i : Nat}, EntsRel m as es → (∀ a e, as[i]? = some a → es[i]? = some e → EntRel m a e → EntRel m (f a) (g e)) → EntsRel m (modM f as i) (es.modify i g)
  | _, _, _, .nil, _ => by simpa [modM] using EntsRel.nil
  | _, _, 0, .cons h k, q => by simpa [modM] using EntsRel.cons (q _ _ rfl rfl h) k
  | _, _, i + 1, .cons h k, q => by
    simp only [modM, List.modify_succ_cons]
    exact .cons h (EntsRel.mod k fun a e ha he => q a e (by simpa using ha) (by simpa using he))
theorem sameNow_none {d : TypeDesc} (h : keyD d = false) (a b : Value) : Instr.sameNow d a b = none := by
  cases d <;> simp [keyD] at h <;> (unfold Instr.sameNow; cases a <;> rfl)
theorem findNow_ok {kt : TypeId} {d : TypeDesc} {k : Value} (hd : keyD d = true) : ∀ {as : List AEnt} {es : List MapEntry} {i : Nat} {r : Option (Nat × AEnt)}, findM P kt d k as i = some r → EntsRel m as es →
    (r = none ∧ Instr.findNow d k es i = some none) ∨ (∃ j a e, r = some (i + j, a) ∧ as[j]? = some a ∧ es[j]? = some e ∧ Instr.findNow d k es i = some (some (i + j, e.val)))
  | [], _, i, r, h, .nil => by simp [findM] at h; subst h; exact .inl ⟨rfl, rfl⟩
  | a :: as, _, i, r, h, .cons (e := e) (es := es) hr k' => by
    simp only [findM, keyEq, hd, cond_true] at h
    rw [hr.key] at h
    split at h
    · rename_i hs
      simp only [Option.some.injEq] at h
      subst h
      exact .inr ⟨0, a, e, rfl, rfl, rfl, by simp [Instr.findNow, hs]⟩
    · rename_i hs
      rcases findNow_ok hd h k' with ⟨h1, h2⟩ | ⟨j, a', e', h1, h2, h3, h4⟩
      · exact .inl ⟨h1, by simp only [Instr.findNow, hs]; exact h2⟩
      · exact .inr ⟨j + 1, a', e', by rw [h1, Nat.add_assoc, Nat.add_comm 1 j], by simpa using h2, by simpa using h3, by simp only [Instr.findNow, hs]; rw [h4, Nat.add_assoc, Nat.add_comm 1 j]⟩
    · cases h
theorem findAsk_ok {kt : TypeId} {d : TypeDesc} {k : Value} (hd : keyD d = false) : ∀ {as : List AEnt} {es : List MapEntry} {i : Nat} {r : Option (Nat × AEnt)}, findM P kt d k as i = some r → EntsRel m as es →
    (r = none ∧ (Instr.findAsking kt k es i).run P W = .ok none W) ∨ (∃ j a e, r = some (i + j, a) ∧ as[j]? = some a ∧ es[j]? = some e ∧ (Instr.findAsking kt k es i).run P W = .ok (some (i + j, e.val)) W)
  | [], _, i, r, h, .nil => by simp [findM] at h; subst h; exact .inl ⟨rfl, rfl⟩
  | a :: as, _, i, r, h, .cons (e := e) (es := es) hr k' => by
    simp only [findM, keyEq, hd, cond_false] at h
    rw [hr.key] at h
    split at h
    · rename_i hs
      simp only [Option.some.injEq] at h
      subst h
      exact .inr ⟨0, a, e, rfl, rfl, rfl, by simp [Instr.findAsking, calm_run hs]⟩
    · rename_i hs
      rcases findAsk_ok hd h k' with ⟨h1, h2⟩ | ⟨j, a', e', h1, h2, h3, h4⟩
      · exact .inl ⟨h1, by simp only [Instr.findAsking, Sem.run_bind, calm_run hs, Result.andThen_ok, Bool.false_eq_true, if_false]; exact h2⟩
      · exact .inr ⟨j + 1, a', e', by rw [h1, Nat.add_assoc, Nat.add_comm 1 j], by simpa using h2, by simpa using h3, by simp only [Instr.findAsking, Sem.run_bind, calm_run hs, Result.andThen_ok, Bool.false_eq_true, if_false]; rw [h4, Nat.add_assoc, Nat.add_comm 1 j]⟩
    · cases h
/-- the key's check and the entry of a key -/
theorem seek_ok {kt : TypeId} {d : TypeDesc} {b : Bool} {k : Value} {as : List AEnt} {es : List MapEntry} {r : Option (Nat × AEnt)} (h : seekM P kt d b k as = some r) (hd : P.underlying kt = some d) (hr : EntsRel m as es) :
    (Instr.checkKey b 10000 kt k).run P W = .ok () W ∧
    ((r = none ∧ (Instr.findKey kt k es).run P W = .ok none W) ∨ (∃ j a e, r = some (j, a) ∧ as[j]? = some a ∧ es[j]? = some e ∧ (Instr.findKey kt k es).run P W = .ok (some (j, e.val)) W)) := by
  unfold seekM at h
  split at h
  · rename_i hc
    refine ⟨calm_run hc W, ?_⟩
    cases hk : keyD d with
    | true =>
      rcases findNow_ok hk h hr with ⟨h1, h2⟩ | ⟨j, a, e, h1, h2, h3, h4⟩
      · exact .inl ⟨h1, by simp [Instr.findKey, r_underlying hd, h2]⟩
      · rw [Nat.zero_add] at h1 h4
        exact .inr ⟨j, a, e, h1, h2, h3, by simp [Instr.findKey, r_underlying hd, h4]⟩
    | false =>
      cases hr with
      | nil =>
        simp [findM] at h
        subst h
        exact .inl ⟨rfl, by simp [Instr.findKey, r_underlying hd, Instr.findNow]⟩
      | cons q k' =>
        have hr' := EntsRel.cons q k'
        have hnow : ∀ e es, Instr.findNow d k (e :: es) 0 = none := fun e es => by simp [Instr.findNow, sameNow_none hk]
        rcases findAsk_ok (W := W) hk h hr' with ⟨h1, h2⟩ | ⟨j, a, e, h1, h2, h3, h4⟩
        · exact .inl ⟨h1, by simp only [Instr.findKey, Sem.run_bind, r_underlying hd, Result.andThen_ok, hnow]; exact h2⟩
        · rw [Nat.zero_add] at h1 h4
          exact .inr ⟨j, a, e, h1, h2, h3, by simp only [Instr.findKey, Sem.run_bind, r_underlying hd, Result.andThen_ok, hnow]; exact h4⟩
  · cases h
theorem mapT_ok {t kt : TypeId} {d : TypeDesc} {z : Value} (h : mapT P t = some (kt, d, z)) : ∃ el, P.underlying t = some (.map kt el) ∧ P.underlying kt = some d ∧ zero? P el = some z := by
  unfold mapT at h
  split at h
  · rename_i k el hk
    split at h
    · rename_i d' z' hd hz
      simp only [Option.some.injEq, Prod.mk.injEq] at h
      obtain ⟨rfl, rfl, rfl⟩ := h
      exact ⟨el, hk, hd, hz⟩
    · cases h
  · cases h
theorem Rel.mapAt {H : T AObj} {h : Array Obj} {id c : Nat} {es : List AEnt} {p : Pl} (r : Rel m H h) (hg : H.get id = some (.map es c)) (hp : m id = some p) : ∃ ents : Array MapEntry, h[p.b]? = some (.map ents c) ∧ EntsRel m es ents.toList := by
  obtain ⟨q, hq, hc⟩ := r.obj id _ hg
  have e1 : q = p := Option.some.inj (hq.symm.trans hp)
  subst e1
  exact hc
theorem r_getMap {b c : Nat} {ents : Array MapEntry} (h : W.heap[b]? = some (.map ents c)) : (getObj b).run P W = .ok (.map ents c) W := by simp [getObj, Sem.run, h]
theorem r_setMap {b c c' : Nat} {ents ents' : Array MapEntry} (h : W.heap[b]? = some (.map ents c)) : (setObj b (.map ents' c')).run P W = .ok () { W with heap := W.heap.setIfInBounds b (.map ents' c') } := by simp [setObj, Sem.run, h]
theorem ok_lookup {t : TypeId} {x i : Operand} {ok : Bool} (ho : o.op = .lookup t x i ok) (h : opEv P e s o = some (v, s')) (he : Eval m e ρ) (r : Rel m s.H W.heap) (hn : m s.nx = none) : Res P m s W (execOp ρ o) v s' := by
  simp only [opEv, ho] at h
  split at h
  · rename_i id kv kt d z hx hi ht
    split at h
    · rename_i k es c hk hg
      obtain ⟨el, t1, t2, t3⟩ := mapT_ok ht
      obtain ⟨p, hp, hu⟩ := (he x _ hx).map_inv
      have hkv := (he i _ hi).ground hk
      obtain ⟨ents, a1, a2⟩ := r.mapAt hg hp
      have hl := a2.length
      have hemp : ents.isEmpty = es.isEmpty := by
        cases es with
        | nil => simp at hl; simp [hl]
        | cons q l => 
          have : ents.size ≠ 0 := by simp at hl; omega
          simp [this]
          intro e0; subst e0; simp at this
      split at h
      · rename_i q a hs
        simp only [Option.some.injEq, Prod.mk.injEq] at h
        obtain ⟨rfl, rfl⟩ := h
        obtain ⟨b1, b2⟩ := seek_ok (W := W) hs t2 a2
        rcases b2 with ⟨h1, _⟩ | ⟨j, a', e', h1, h2, h3, h4⟩
        · cases h1
        · simp only [Option.some.injEq, Prod.mk.injEq] at h1
          obtain ⟨rfl, rfl⟩ := h1
          obtain ⟨e2, h5, h6⟩ := a2.get h2
          have : e2 = e' := Option.some.inj (h5.symm.trans h3)
          subst this
          refine res_read r hn (u := if ok then .tuple #[e2.val, .bool true] else e2.val) ?_ ?_
          · simp [execOp, ho, Instr.lookup, r_underlying t1, hu, hkv, r_getMap a1, hemp, b1, h4]
          · cases ok with
            | true => exact .tup (.cons h6.val (.cons (.val _) .nil))
            | false => exact h6.val
      · rename_i hs
        simp only [Option.some.injEq, Prod.mk.injEq] at h
        obtain ⟨rfl, rfl⟩ := h
        obtain ⟨b1, b2⟩ := seek_ok (W := W) hs t2 a2
        rcases b2 with ⟨_, h4⟩ | ⟨j, a', e', h1, _⟩
        · refine res_read r hn (u := if ok then .tuple #[z, .bool false] else z) ?_ ?_
          · simp [execOp, ho, Instr.lookup, r_underlying t1, hu, hkv, r_getMap a1, hemp, b1, h4, r_zero t3]
          · cases ok with
            | true => exact .tup (.cons (.val _) (.cons (.val _) .nil))
            | false => exact .val _
        · cases h1
      · cases h
    · cases h
  · cases h
/-- a map changed -/
theorem res_setMap {x : Sem Next} {id c c' : Nat} {es es' : List AEnt} {p : Pl} {ents ents' : Array MapEntry} {v : RV} (r : Rel m s.H W.heap) (hn : m s.nx = none) (hg : s.H.get id = some (.map es c)) (hp : m id = some p) (a1 : W.heap[p.b]? = some (.map ents c))
    (hr : EntsRel m es' ents'.toList)
    (hx : (∃ u, x.run P W = .ok (.value u) { W with heap := W.heap.setIfInBounds p.b (.map ents' c') } ∧ RVal m v u) ∨ (x.run P W = .ok .skip { W with heap := W.heap.setIfInBounds p.b (.map ents' c') } ∧ v = .val undef)) : Res P m s W x v (s.put id (some (.map es' c'))) := by
  have hlt : p.b < W.heap.size := (Array.getElem?_eq_some_iff.1 a1).1
  obtain ⟨k1, k2⟩ := r.change (W' := { W with heap := W.heap.setIfInBounds p.b (.map ents' c') }) (o := .map es' c') hg hp ⟨ents', by simp [hlt], hr⟩ (fun b hb => Array.getElem?_setIfInBounds_ne (Ne.symm hb)) (by simp) rfl rfl rfl
  exact ⟨m, _, k1, k2, fun _ _ => rfl, .inl ⟨rfl, hn⟩, hx⟩
theorem ok_mapUpdate {t : TypeId} {mm k x : Operand} (ho : o.op = .mapUpdate t mm k x ∨ o.op = .insert t mm k x) (h : opEv P e s o = some (v, s')) (he : Eval m e ρ) (r : Rel m s.H W.heap) (hn : m s.nx = none) : Res P m s W (execOp ρ o) v s' := by
  rcases ho with ho | ho <;>
  · simp only [opEv, ho] at h
    split at h
    · rename_i id kv w kt d z hx hi hw ht
      split at h
      · rename_i kk es c hk hg
        obtain ⟨el, t1, t2, t3⟩ := mapT_ok ht
        obtain ⟨p, hp, hu⟩ := (he mm _ hx).map_inv
        have hkv := (he k _ hi).ground hk
        have rw_ := he x _ hw
        obtain ⟨ents, a1, a2⟩ := r.mapAt hg hp
        split at h
        · rename_i q a hs
          obtain ⟨b1, b2⟩ := seek_ok (W := W) hs t2 a2
          rcases b2 with ⟨h1, _⟩ | ⟨j, a', e', h1, h2, h3, h4⟩
          · cases h1
          · simp only [Option.some.injEq, Prod.mk.injEq] at h1
            obtain ⟨rfl, rfl⟩ := h1
            obtain ⟨e2, h5, h6⟩ := a2.get h2
            have : e2 = e' := Option.some.inj (h5.symm.trans h3)
            subst this
            split at h
            · rename_i k2 hk2
              simp only [Option.some.injEq, Prod.mk.injEq] at h
              obtain ⟨rfl, rfl⟩ := h
              rw [h6.key] at hk2
              have h5' : ents[q]? = some e2 := by simpa using h5
              refine res_setMap r hn hg hp a1 (ents' := ents.modify q fun e => { e with key := k2, val := ρ x }) (by
                rw [Array.toList_modify]
                exact a2.mod fun a e _ _ hr => ⟨rfl, hr.born, rw_⟩) (.inr ⟨?_, rfl⟩)
              simp [execOp, ho, Instr.mapUpdate, r_underlying t1, hu, hkv, r_getMap a1, b1, h4, h5', calm_run hk2, r_setMap a1]
            · cases h
        · rename_i hs
          simp only [Option.some.injEq, Prod.mk.injEq] at h
          obtain ⟨rfl, rfl⟩ := h
          obtain ⟨b1, b2⟩ := seek_ok (W := W) hs t2 a2
          rcases b2 with ⟨_, h4⟩ | ⟨j, a', e', h1, _⟩
          · refine res_setMap r hn hg hp a1 (ents' := ents.push { key := kk, val := ρ x, born := c }) (by
              rw [Array.toList_push]
              exact a2.app ⟨rfl, rfl, rw_⟩) (.inr ⟨?_, rfl⟩)
            simp [execOp, ho, Instr.mapUpdate, r_underlying t1, hu, hkv, r_getMap a1, b1, h4, r_setMap a1]
          · cases h1
        · cases h
      · cases h
    · cases h
theorem ok_mapEntry {t : TypeId} {mm k : Operand} (ho : o.op = .mapEntry t mm k) (h : opEv P e s o = some (v, s')) (he : Eval m e ρ) (r : Rel m s.H W.heap) (hn : m s.nx = none) : Res P m s W (execOp ρ o) v s' := by
  simp only [opEv, ho] at h
  split at h
  · rename_i id kv kt d z hx hi ht
    split at h
    · rename_i kk es c hk hg
      obtain ⟨el, t1, t2, t3⟩ := mapT_ok ht
      obtain ⟨p, hp, hu⟩ := (he mm _ hx).map_inv
      have hkv := (he k _ hi).ground hk
      obtain ⟨ents, a1, a2⟩ := r.mapAt hg hp
      split at h
      · rename_i q a hs
        obtain ⟨b1, b2⟩ := seek_ok (W := W) hs t2 a2
        rcases b2 with ⟨h1, _⟩ | ⟨j, a', e', h1, h2, h3, h4⟩
        · cases h1
        · simp only [Option.some.injEq, Prod.mk.injEq] at h1
          obtain ⟨rfl, rfl⟩ := h1
          obtain ⟨e2, h5, h6⟩ := a2.get h2
          have : e2 = e' := Option.some.inj (h5.symm.trans h3)
          subst this
          split at h
          · rename_i k2 hk2
            simp only [Option.some.injEq, Prod.mk.injEq] at h
            obtain ⟨rfl, rfl⟩ := h
            rw [h6.key] at hk2
            have h5' : ents[q]? = some e2 := by simpa using h5
            refine res_setMap r hn hg hp a1 (ents' := ents.modify q fun e => { e with key := k2 }) (by
              rw [Array.toList_modify]
              exact a2.mod fun a e _ _ hr => ⟨rfl, hr.born, hr.val⟩) (.inl ⟨.tuple #[e2.val, goInt a.born], ?_, .tup (.cons h6.val (.cons (.val _) .nil))⟩)
            simp [execOp, ho, Instr.mapEntry, r_underlying t1, hu, hkv, r_getMap a1, b1, h4, h5', calm_run hk2, r_setMap a1, h6.born]
          · cases h
      · rename_i hs
        simp only [Option.some.injEq, Prod.mk.injEq] at h
        obtain ⟨rfl, rfl⟩ := h
        obtain ⟨b1, b2⟩ := seek_ok (W := W) hs t2 a2
        rcases b2 with ⟨_, h4⟩ | ⟨j, a', e', h1, _⟩
        · refine res_setMap r hn hg hp a1 (ents' := ents.push { key := kk, val := z, born := c }) (by
            rw [Array.toList_push]
            exact a2.app ⟨rfl, rfl, .val z⟩) (.inl ⟨.tuple #[z, goInt c], ?_, .tup (.cons (.val _) (.cons (.val _) .nil))⟩)
          simp [execOp, ho, Instr.mapEntry, r_underlying t1, hu, hkv, r_getMap a1, b1, h4, r_setMap a1, r_zero t3]
        · cases h1
      · cases h
    · cases h
  · cases h
theorem born_ok {b : Nat} : ∀ {as : List AEnt} {es : List MapEntry} {i j : Nat}, bornM b as i = some j → EntsRel m as es → ∃ q, j = i + q ∧ es.findIdx? (fun e => (e.born : Int) == (b : Int)) = some q
  | [], _, i, j, h, .nil => by simp [bornM] at h
  | a :: as, _, i, j, h, .cons (e := e) hr k => by
    simp only [bornM] at h
    by_cases hb : a.born = b
    · rw [show (a.born == b) = true by simpa using hb] at h
      simp only [cond_true, Option.some.injEq] at h
      exact ⟨0, by omega, by rw [List.findIdx?_cons, ← hr.born, if_pos (by simp [hb])]⟩
    · rw [show (a.born == b) = false by simpa using hb] at h
      simp only [cond_false] at h
      obtain ⟨q, h1, h2⟩ := born_ok h k
      refine ⟨q + 1, by omega, ?_⟩
      rw [List.findIdx?_cons, ← hr.born, if_neg (by simp; omega), h2]
      rfl
theorem ok_entryStore {t : TypeId} {mm st x : Operand} (ho : o.op = .entryStore t mm st x) (h : opEv P e s o = some (v, s')) (he : Eval m e ρ) (r : Rel m s.H W.heap) (hn : m s.nx = none) : Res P m s W (execOp ρ o) v s' := by
  simp only [opEv, ho] at h
  split at h
  · rename_i id sv w hx hi hw
    split at h
    · rename_i b es c hk hg
      obtain ⟨p, hp, hu⟩ := (he mm _ hx).map_inv
      obtain ⟨kk, hkk⟩ := asNat_ok hk (he st _ hi)
      have rw_ := he x _ hw
      obtain ⟨ents, a1, a2⟩ := r.mapAt hg hp
      split at h
      · rename_i i hb
        simp only [Option.some.injEq, Prod.mk.injEq] at h
        obtain ⟨rfl, rfl⟩ := h
        obtain ⟨q, h1, h2⟩ := born_ok hb a2
        rw [Nat.zero_add] at h1
        subst h1
        have h3 : ents.findIdx? (fun e => (e.born : Int) == (b : Int)) = some i := by rw [← h2]; cases ents; simp
        refine res_setMap r hn hg hp a1 (ents' := ents.modify i fun e => { e with val := ρ x }) (by
          rw [Array.toList_modify]
          exact a2.mod fun a e _ _ hr => ⟨hr.key, hr.born, rw_⟩) (.inr ⟨?_, rfl⟩)
        simp only [execOp, ho, Instr.entryStore, hu, Sem.run_bind, r_getMap a1, Result.andThen_ok, hkk, asInt, asIntOf, Sem.run_pure, h3, r_setMap a1]
      · cases h
    · cases h
  · cases h
end
section
variable {P : Program} {m : Mp} {e : T RV} {ρ : Operand → Value} {s s' : S} {W W' : World} {o : Oper} {v : RV}
theorem r_builtin {b : Builtin} {args : Array Operand} {ts : Array TypeId} (ho : o.op = .call { callee := .builtin b, args, argTypes := ts }) :
    ∃ consts, execOp ρ o = builtin b ts o.type consts (args.toList.map ρ).toArray := by
  refine ⟨args.map fun | .const _ => true | _ => false, ?_⟩
  have e1 : args.map ρ = (args.toList.map ρ).toArray := by apply Array.ext'; simp
  simp only [execOp, ho, resolve, e1]
  rfl
theorem RVals.one_inv {x : RV} {vs : List Value} (h : RVals m [x] vs) : ∃ a, vs = [a] ∧ RVal m x a := by
  cases h with
  | cons h k => cases k with | nil => exact ⟨_, rfl, h⟩
theorem RVals.two_inv {x y : RV} {vs : List Value} (h : RVals m [x, y] vs) : ∃ a b, vs = [a, b] ∧ RVal m x a ∧ RVal m y b := by
  cases h with
  | cons h k => obtain ⟨b, e, hb⟩ := k.one_inv; exact ⟨_, b, by rw [e], h, hb⟩
theorem ok_len {ts : Array TypeId} {ty : TypeId} {x : RV} {a : Value} (h : builtinEv P .len ts ty [x] s = some (v, s')) (hx : RVal m x a) (r : Rel m s.H W.heap) :
    s' = s ∧ ∃ u, (Builtin.len_ ts ty [a].toArray).run P W = .ok u W ∧ RVal m v u := by
  simp only [builtinEv] at h
  split at h
  · rename_i t ht
    split at h
    · rename_i b hd
      simp only [Option.some.injEq, Prod.mk.injEq] at h
      obtain ⟨rfl, rfl⟩ := h
      refine ⟨rfl, _, ?_, .val _⟩
      simp [Builtin.len_, ht, r_underlying hd, hx.val_inv]
    · rename_i n el hd
      simp only [Option.some.injEq, Prod.mk.injEq] at h
      obtain ⟨rfl, rfl⟩ := h
      refine ⟨rfl, _, ?_, .val _⟩
      simp [Builtin.len_, ht, r_underlying hd]
    · rename_i el hd
      split at h
      · simp only [Option.some.injEq, Prod.mk.injEq] at h
        obtain ⟨rfl, rfl⟩ := h
        refine ⟨rfl, _, ?_, .val _⟩
        simp [Builtin.len_, ht, r_underlying hd, hx.val_inv]
      · simp only [Option.some.injEq, Prod.mk.injEq] at h
        obtain ⟨rfl, rfl⟩ := h
        obtain ⟨p, c, _, _, hu⟩ := hx.slice_inv
        refine ⟨rfl, _, ?_, .val _⟩
        simp [Builtin.len_, ht, r_underlying hd, hu]
      · simp only [Option.some.injEq, Prod.mk.injEq] at h
        obtain ⟨rfl, rfl⟩ := h
        obtain ⟨q, c, hu⟩ := hx.empty_inv
        refine ⟨rfl, _, ?_, .val _⟩
        simp [Builtin.len_, ht, r_underlying hd, hu]
      · cases h
    · rename_i k el id hd
      split at h
      · rename_i es c hg
        simp only [Option.some.injEq, Prod.mk.injEq] at h
        obtain ⟨rfl, rfl⟩ := h
        obtain ⟨p, hp, hu⟩ := hx.map_inv
        obtain ⟨ents, a1, a2⟩ := r.mapAt hg hp
        have hl := a2.length
        refine ⟨rfl, _, ?_, .val _⟩
        have : ents.size = es.length := by simpa using hl
        simp [Builtin.len_, ht, r_underlying hd, hu, r_getMap a1, this]
      · cases h
    · cases h
  · cases h
theorem ok_cap {ts : Array TypeId} {ty : TypeId} {x : RV} {a : Value} (h : builtinEv P .cap ts ty [x] s = some (v, s')) (hx : RVal m x a) (r : Rel m s.H W.heap) :
    s' = s ∧ ∃ u, (Builtin.cap_ ts ty [a].toArray).run P W = .ok u W ∧ RVal m v u := by
  simp only [builtinEv] at h
  split at h
  · rename_i t ht
    split at h
    · rename_i el id off len c hd
      simp only [Option.some.injEq, Prod.mk.injEq] at h
      obtain ⟨rfl, rfl⟩ := h
      obtain ⟨p, _, _, hu⟩ := hx.known_inv
      refine ⟨rfl, _, ?_, .val _⟩
      simp [Builtin.cap_, ht, r_underlying hd, hu]
    · rename_i el a l c hd
      simp only [Option.some.injEq, Prod.mk.injEq] at h
      obtain ⟨rfl, rfl⟩ := h
      refine ⟨rfl, _, ?_, .val _⟩
      simp [Builtin.cap_, ht, r_underlying hd, hx.val_inv]
    · cases h
  · cases h
theorem ok_copy {ts : Array TypeId} {ty : TypeId} {x y : RV} {a b : Value} (h : builtinEv P .copy ts ty [x, y] s = some (v, s')) (hx : RVal m x a) (hy : RVal m y b) (r : Rel m s.H W.heap) :
    s'.nx = s.nx ∧ ∃ u W', (Builtin.copy_ ts ty [a, b].toArray).run P W = .ok u W' ∧ RVal m v u ∧ Rel m s'.H W'.heap ∧ Grow m s.H W m s'.H W' := by
  simp only [builtinEv] at h
  split at h
  · rename_i t ht
    split at h
    · rename_i el hd
      split at h
      · rename_i size n k hsz hn hk
        have l1 := lenEv_ok (P := P) hn hx W
        have l2 := lenEv_ok (P := P) hk hy W
        have hxs0 : isSl x = true → ∃ base c, a = .slice base n c := by
          intro hs
          unfold lenEv at hn
          split at hn
          · cases hs
          · rename_i n' c
            cases hb : (n' == 0) with
            | false => rw [hb] at hn; cases hn
            | true => rw [hb] at hn; simp only [cond_true, Option.some.injEq] at hn; subst hn; rw [beq_iff_eq] at hb; exact ⟨_, _, by rw [hx.val_inv, hb]⟩
          · simp only [Option.some.injEq] at hn; subst hn; obtain ⟨p, c, _, _, hu⟩ := hx.slice_inv; exact ⟨_, _, hu⟩
          · simp only [Option.some.injEq] at hn; subst hn; obtain ⟨q, c, hu⟩ := hx.empty_inv; exact ⟨_, _, hu⟩
          · cases hn
        cases hsl : isSl x with
        | false => rw [hsl] at h; cases h
        | true =>
        rw [hsl] at h
        simp only [cond_true] at h
        obtain ⟨base, cc, hxs⟩ := hxs0 hsl
        clear hxs0
        split at h
        · rename_i hf
          simp only [Option.some.injEq, Prod.mk.injEq] at h
          obtain ⟨rfl, rfl⟩ := h
          obtain ⟨vs, f1, f2⟩ := first_ok (P := P) hf hy r
          cases f2
          refine ⟨rfl, goInt (Nat.min k n : Nat), W, ?_, .val _, r, .refl _ _ _⟩
          cases base <;> simp [Builtin.copy_, ht, r_underlying hd, hxs, l2, r_sizeOf hsz, f1, storeCells]
        · rename_i c new id off len cp hf
          split at h
          · rename_i cs hcs
            cases hc : (Nat.ble (off + (c :: new).length) cs.length && ones (c :: new)) with
            | false => rw [hc] at h; cases h
            | true =>
              rw [hc] at h
              simp only [cond_true, Option.some.injEq, Prod.mk.injEq] at h
              obtain ⟨rfl, rfl⟩ := h
              rw [Bool.and_eq_true] at hc
              obtain ⟨c1, c2⟩ := hc
              have c1 := Nat.le_of_ble_eq_true c1
              obtain ⟨vs, f1, f2⟩ := first_ok (P := P) hf hy r
              obtain ⟨p, c', hp, _, hu⟩ := hx.slice_inv
              obtain ⟨e1, e2, e3⟩ := Value.slice.inj (hxs.symm.trans hu)
              subst e1 e2 e3
              obtain ⟨W', k1, k2, k3⟩ := r_store (P := P) (off := off) r (cells_of hcs) hp f2 c2 c1
              refine ⟨rfl, goInt (Nat.min k n : Nat), W', ?_, .val _, k2, k3⟩
              simp [Builtin.copy_, ht, r_underlying hd, hxs, l2, r_sizeOf hsz, f1, k1]
          · cases h
        · cases h
      · cases h
    · cases h
  · cases h
end
section
variable {P : Program} {m : Mp} {e : T RV} {ρ : Operand → Value} {s s' : S} {W W' : World} {o : Oper} {v : RV}
theorem zeroCells_rep (z : Value) (n : Nat) : Builtin.zeroCells z.cells n = ((List.replicate n z.cells.toList).flatten).toArray := range_map_rep z.cells n
theorem ok_clear {ts : Array TypeId} {ty : TypeId} {x : RV} {a : Value} (h : builtinEv P .clear ts ty [x] s = some (v, s')) (hx : RVal m x a) (r : Rel m s.H W.heap) :
    s'.nx = s.nx ∧ ∃ u W', (Builtin.clear_ ts ty [a].toArray).run P W = .ok u W' ∧ RVal m v u ∧ Rel m s'.H W'.heap ∧ Grow m s.H W m s'.H W' := by
  simp only [builtinEv] at h
  split at h
  · rename_i t ht
    split at h
    · rename_i el hd
      split at h
      · simp only [Option.some.injEq, Prod.mk.injEq] at h
        obtain ⟨rfl, rfl⟩ := h
        obtain ⟨q, c, hu⟩ := hx.empty_inv
        refine ⟨rfl, .tuple #[], W, ?_, .val _, r, .refl _ _ _⟩
        simp [Builtin.clear_, ht, r_underlying hd, hu]
      · simp only [Option.some.injEq, Prod.mk.injEq] at h
        obtain ⟨rfl, rfl⟩ := h
        refine ⟨rfl, .tuple #[], W, ?_, .val _, r, .refl _ _ _⟩
        simp [Builtin.clear_, ht, r_underlying hd, hx.val_inv]
      · rename_i id off n cp
        split at h
        · rename_i size z cs hsz hz hcs
          cases hc : (z.cells.size == size && Nat.ble (off + n * size) cs.length && ones (RV.val z).cells) with
          | false => rw [hc] at h; cases h
          | true =>
            rw [hc] at h
            simp only [cond_true, Option.some.injEq, Prod.mk.injEq] at h
            obtain ⟨rfl, rfl⟩ := h
            simp only [Bool.and_eq_true, beq_iff_eq] at hc
            obtain ⟨⟨c1, c2⟩, c3⟩ := hc
            have c2 := Nat.le_of_ble_eq_true c2
            obtain ⟨p, c', hp, _, hu⟩ := hx.slice_inv
            have hrep := rep_vals m z.cells.toList n
            rw [← val_cells_eq] at hrep
            have hlen : (rep n (RV.val z).cells).length = n * size := by
              rw [val_cells_eq]; unfold rep; simp [c1]
            have hone : ∀ k, ones (rep k (RV.val z).cells) = true := by
              intro k
              unfold rep
              have happ : ∀ a b : List RV, ones a = true → ones b = true → ones (a ++ b) = true := by
                intro a
                induction a with
                | nil => intro b _ hb; exact hb
                | cons x r ih =>
                  intro b ha hb
                  simp only [ones, List.cons_append] at ha ⊢
                  cases hx1 : x.one with
                  | false => rw [hx1] at ha; cases ha
                  | true => rw [hx1] at ha; exact ih b ha hb
              induction k with
              | zero => rfl
              | succ k ih => rw [List.replicate_succ, List.flatten_cons]; exact happ _ _ c3 ih
            obtain ⟨W', k1, k2, k3⟩ := r_store (P := P) (off := off) r (cells_of hcs) hp hrep (hone n) (by omega)
            refine ⟨rfl, .tuple #[], W', ?_, .val _, k2, k3⟩
            have hzc := zeroCells_rep z n
            cases n with
            | zero =>
              simp only [List.replicate_zero, List.flatten_nil, storeCells, Sem.run_pure, Result.ok.injEq, true_and] at k1
              subst k1
              simp [Builtin.clear_, ht, r_underlying hd, hu]
            | succ n => simp [Builtin.clear_, ht, r_underlying hd, hu, r_zero hz, hzc, k1]
        · cases h
      · cases h
    · cases h
  · cases h
theorem first_len {size n : Nat} {x : RV} {cs : List RV} (h : firstEv s size n x = some cs) (hl : lenEv x = some n) : cs.length = n * size := by
  unfold firstEv at h
  split at h
  · split at h
    · rename_i c hc
      cases hb : Nat.ble (_ + n * size) c.length with
      | false => rw [hb] at h; cases h
      | true =>
        rw [hb] at h
        simp only [cond_true, Option.some.injEq] at h
        subst h
        have := Nat.le_of_ble_eq_true hb
        rw [List.length_take, List.length_drop]
        omega
    · cases h
  · simp only [lenEv, Option.some.injEq] at hl
    subst hl
    simp at h
    subst h
    simp
  · rename_i l c
    simp only [lenEv] at hl
    cases hb : (l == 0) with
    | false => rw [hb] at hl; cases hl
    | true =>
      rw [hb] at hl
      simp only [cond_true, Option.some.injEq] at hl h
      subst hl h
      simp
  · rename_i b
    cases hb : (n == b.size && size == 1) with
    | false => rw [hb] at h; cases h
    | true =>
      rw [hb] at h
      simp only [cond_true, Option.some.injEq] at h
      subst h
      rw [Bool.and_eq_true, beq_iff_eq, beq_iff_eq] at hb
      obtain ⟨rfl, rfl⟩ := hb
      unfold byteVals
      simp
  · cases h
theorem grow_le {n : Nat} : ∀ (k c : Nat), Builtin.growBy n k c ≤ 2 ^ k * (c + 768)
  | 0, c => by simp [Builtin.growBy]
  | k + 1, c => by
    unfold Builtin.growBy
    split
    · have : 1 ≤ 2 ^ (k + 1) := Nat.one_le_two_pow
      calc c ≤ c + 768 := by omega
        _ ≤ 2 ^ (k + 1) * (c + 768) := Nat.le_mul_of_pos_left _ (by omega)
    · refine Nat.le_trans (grow_le k _) ?_
      rw [Nat.pow_succ, Nat.mul_assoc]
      exact Nat.mul_le_mul_left _ (by omega)
theorem next_le {n c : Nat} (h : c < n) : Builtin.nextslicecap n c ≤ 16 * (n + 768) := by
  unfold Builtin.nextslicecap
  split
  · omega
  · split
    · omega
    · have h4 : Builtin.growBy n 4 c ≤ 16 * (c + 768) := grow_le 4 c
      exact Nat.le_trans h4 (Nat.mul_le_mul_left _ (by omega))
/-- the way of append that makes a new row -/
theorem append_new {ts : Array TypeId} {ty sT xT el : TypeId} {base : Option Addr} {sLen sCap size bytes n : Nat} {z a b : Value} {old new : List Value} (h0 : ts[0]? = some sT) (h1 : ts[1]? = some xT) (hel : P.underlying sT = some (.slice el)) (hni : notInt P xT = true)
    (hsz : sizeOf? P el = some size) (hby : bytesOf? P el = some bytes) (hz : zero? P el = some z) (hzs : z.cells.size = size) (ha : a = .slice base sLen sCap) (hln : (Builtin.lenOf b).run P W = .ok n W)
    (hlt : sCap < sLen + n) (hb1 : 1 ≤ bytes) (hm : (sLen + n) * bytes ≤ most)
    (ho : (Builtin.firstCells size sLen a).run P { W with drawn := W.drawn + 1 } = .ok old.toArray { W with drawn := W.drawn + 1 }) (hn : (Builtin.firstCells size n b).run P { W with drawn := W.drawn + 1 } = .ok new.toArray { W with drawn := W.drawn + 1 }) :
    ∃ c rest, sLen + n ≤ c ∧ rest.length = (c - (sLen + n)) * size ∧ (Builtin.append_ ts ty #[a, b]).run P W = .ok (.slice (some ⟨W.heap.size, 0, none⟩) (sLen + n) c) { W with drawn := W.drawn + 1, heap := W.heap.push (.cells (old ++ new ++ rest).toArray el (0, 0)) } := by
  obtain ⟨c, hc, hrun⟩ := r_choose_cap (P := P) (sLen + n) sCap el W
  obtain ⟨i, hi, hib⟩ := r_bytes hby W
  obtain ⟨i2, hi2, hib2⟩ := r_bytes hby { W with drawn := W.drawn + 1 }
  refine ⟨c, (List.replicate (c - (sLen + n)) z.cells.toList).flatten, hc, by simp [hzs], ?_⟩
  have hd : ∃ d, P.underlying xT = some d ∧ (d matches .int _) = false := by
    unfold notInt at hni
    split at hni
    · cases hni
    · rename_i d hnd hd
      refine ⟨d, hd, ?_⟩
      cases d <;> first | rfl | exact absurd rfl (hnd _)
    · cases hni
  obtain ⟨d, hd1, hd2⟩ := hd
  have hbytes : bytes ≤ most := Nat.le_trans (Nat.le_mul_of_pos_left bytes (by omega)) hm
  have hneed : sLen + n ≤ most := Nat.le_trans (Nat.le_mul_of_pos_right _ hb1) hm
  have hcap : ¬ (Builtin.nextslicecap (sLen + n) sCap * i.bytes > 2 ^ 48) := by
    rw [hib]
    have := Nat.mul_le_mul_right bytes (next_le hlt)
    have h3 : 16 * (sLen + n + 768) * bytes = 16 * ((sLen + n) * bytes) + 12288 * bytes := by rw [Nat.mul_assoc, Nat.add_mul, Nat.mul_add, ← Nat.mul_assoc 16 768]
    unfold most at *
    omega
  have hbig : ¬ (((sLen + n : Nat) : Int) > IntKind.i64.max ∧ (false = true ∨ i.bytes = 0)) := by
    intro hh
    rcases hh.2 with hh | hh
    · cases hh
    · omega
  have hnle : ¬ sLen + n ≤ sCap := by omega
  subst ha
  have hzr := zeroCells_rep z (c - (sLen + n))
  have g0 : (#[Value.slice base sLen sCap, b] : Array Value)[0]? = some (Value.slice base sLen sCap) := rfl
  have g1 : (#[Value.slice base sLen sCap, b] : Array Value)[1]? = some b := rfl
  have hw : ({ heap := W.heap, tape := W.tape, drawn := W.drawn + 1, os := W.os, output := W.output } : World) = { W with drawn := W.drawn + 1 } := rfl
  have hbig1 : ¬ (((sLen + n : Nat) : Int) > IntKind.i64.max ∧ i.bytes = 0) := fun hh => hbig ⟨hh.1, .inr hh.2⟩
  have key : ∀ d : TypeDesc, P.underlying xT = some d → (d matches .int _) = false → (Builtin.append_ ts ty #[.slice base sLen sCap, b]).run P W = .ok (.slice (some ⟨W.heap.size, 0, none⟩) (sLen + n) c) { W with drawn := W.drawn + 1, heap := W.heap.push (.cells (old.toArray ++ new.toArray ++ Builtin.zeroCells z.cells (c - (sLen + n))) el (0, 0)) } := by
    intro d hd1 hd2
    cases d <;> first | (cases hd2; done) | skip
    all_goals
      simp only [Builtin.append_, h0, h1, g0, g1, Sem.run_bind, r_underlying hel, Result.andThen_ok, r_sizeOf hsz, r_underlying hd1, Sem.run_pure, Bool.false_eq_true, if_false, hln, Bool.not_false, if_true, if_neg hnle, hi, false_or, if_neg hbig1, if_neg hcap, hrun, hi2, run_askRoom, ho, hn, r_zero hz, newRow, run_newObj]
  rw [key d hd1 hd2, hzr]
  simp
theorem append_in {ts : Array TypeId} {ty sT xT el : TypeId} {ad : Addr} {sLen sCap size n : Nat} {b : Value} {new : List Value} (h0 : ts[0]? = some sT) (h1 : ts[1]? = some xT) (hel : P.underlying sT = some (.slice el)) (hni : notInt P xT = true)
    (hsz : sizeOf? P el = some size) (hln : (Builtin.lenOf b).run P W = .ok n W) (hle : sLen + n ≤ sCap) (hn : (Builtin.firstCells size n b).run P W = .ok new.toArray W) (hst : (storeCells (ad.add (sLen * size)) new).run P W = .ok () W') :
    (Builtin.append_ ts ty #[.slice (some ad) sLen sCap, b]).run P W = .ok (.slice (some ad) (sLen + n) sCap) W' := by
  have hd : ∃ d, P.underlying xT = some d ∧ (d matches .int _) = false := by
    unfold notInt at hni
    split at hni
    · cases hni
    · rename_i d hnd hd
      refine ⟨d, hd, ?_⟩
      cases d <;> first | rfl | exact absurd rfl (hnd _)
    · cases hni
  obtain ⟨d, hd1, hd2⟩ := hd
  have g0 : (#[Value.slice (some ad) sLen sCap, b] : Array Value)[0]? = some (Value.slice (some ad) sLen sCap) := rfl
  have g1 : (#[Value.slice (some ad) sLen sCap, b] : Array Value)[1]? = some b := rfl
  cases d <;> first | (cases hd2; done) | skip
  all_goals
    simp only [Builtin.append_, h0, h1, g0, g1, Sem.run_bind, r_underlying hel, Result.andThen_ok, r_sizeOf hsz, r_underlying hd1, Sem.run_pure, Bool.false_eq_true, if_false, hln, Bool.not_false, if_true, if_pos hle, hn, hst]
theorem append_nil {ts : Array TypeId} {ty sT xT el : TypeId} {size : Nat} {b : Value} (h0 : ts[0]? = some sT) (h1 : ts[1]? = some xT) (hel : P.underlying sT = some (.slice el)) (hni : notInt P xT = true)
    (hsz : sizeOf? P el = some size) (hln : (Builtin.lenOf b).run P W = .ok 0 W) (hn : (Builtin.firstCells size 0 b).run P W = .ok #[] W) :
    (Builtin.append_ ts ty #[.slice none 0 0, b]).run P W = .ok (.slice none 0 0) W := by
  have hd : ∃ d, P.underlying xT = some d ∧ (d matches .int _) = false := by
    unfold notInt at hni
    split at hni
    · cases hni
    · rename_i d hnd hd
      refine ⟨d, hd, ?_⟩
      cases d <;> first | rfl | exact absurd rfl (hnd _)
    · cases hni
  obtain ⟨d, hd1, hd2⟩ := hd
  have g0 : (#[Value.slice none 0 0, b] : Array Value)[0]? = some (Value.slice none 0 0) := rfl
  have g1 : (#[Value.slice none 0 0, b] : Array Value)[1]? = some b := rfl
  cases d <;> first | (cases hd2; done) | skip
  all_goals
    simp only [Builtin.append_, h0, h1, g0, g1, Sem.run_bind, r_underlying hel, Result.andThen_ok, r_sizeOf hsz, r_underlying hd1, Sem.run_pure, Bool.false_eq_true, if_false, hln, Bool.not_false, if_true, Nat.add_zero, Nat.le_refl, hn]
/-- 'Res' for what gives a value -/
def ResV (P : Program) (m : Mp) (s : S) (W : World) (x : Sem Value) (v : RV) (s' : S) : Prop :=
  ∃ m' W', Rel m' s'.H W'.heap ∧ Grow m s.H W m' s'.H W' ∧ (∀ id, id ≠ s.nx → m' id = m id) ∧ ((s'.nx = s.nx ∧ m' s.nx = none) ∨ s'.nx = s.nx + 1) ∧ ∃ u, x.run P W = .ok u W' ∧ RVal m' v u
theorem ResV.res {x : Sem Value} (h : ResV P m s W x v s') : Res P m s W (do pure (.value (← x))) v s' := by
  obtain ⟨m', W', h1, h2, h3, h4, u, h5, h6⟩ := h
  exact ⟨m', W', h1, h2, h3, h4, .inl ⟨u, by simp [h5], h6⟩⟩
theorem resV_same {x : Sem Value} {u : Value} (r : Rel m s.H W.heap) (hn : m s.nx = none) (hx : x.run P W = .ok u W) (hv : RVal m v u) : ResV P m s W x v s :=
  ⟨m, W, r, .refl _ _ _, fun _ _ => rfl, .inl ⟨rfl, hn⟩, u, hx, hv⟩
theorem ok_append {ts : Array TypeId} {ty sT xT : TypeId} {x y : RV} {a b : Value} (h : appendEv P s sT xT x y = some (v, s')) (h0 : ts[0]? = some sT) (h1 : ts[1]? = some xT) (hx : RVal m x a) (hy : RVal m y b) (r : Rel m s.H W.heap) (hn : m s.nx = none) :
    ResV P m s W (Builtin.append_ ts ty #[a, b]) v s' := by
  unfold appendEv at h
  split at h
  · rename_i el hel
    split at h
    · rename_i size bytes z hsz hby hz
      split at h
      · rename_i n k hnl hkl hni
        split at h
        · rename_i old new hold hnew
          cases hc : (Nat.ble 1 size && Nat.ble 1 bytes && Nat.ble ((n + k) * bytes) most && z.cells.size == size && ones new) with
          | false => rw [hc] at h; cases h
          | true =>
            rw [hc] at h
            simp only [cond_true] at h
            simp only [Bool.and_eq_true, beq_iff_eq] at hc
            obtain ⟨⟨⟨⟨c1, c2⟩, c3⟩, c4⟩, c5⟩ := hc
            have c1 := Nat.le_of_ble_eq_true c1
            have c2 := Nat.le_of_ble_eq_true c2
            have c3 := Nat.le_of_ble_eq_true c3
            have hlb := lenEv_ok (P := P) hkl hy W
            obtain ⟨nv, n1, n2⟩ := first_ok (P := P) (W := W) hnew hy r
            have hnlen := first_len hnew hkl
            have hmk : ∀ {base : Option Addr} {sCap : Nat}, a = .slice base n sCap → sCap < n + k → ∀ (H0 : T AObj), Sub H0 s.H → (v, s') = (.slice s.nx 0 (n + k) (.opened size), (⟨H0.set D s.nx (some (.cells (old ++ new))), s.nx + 1⟩ : S)) → ResV P m s W (Builtin.append_ ts ty #[a, b]) v s' := by
              intro base sCap ha hlt H0 hsub hvs
              obtain ⟨rfl, rfl⟩ := Prod.mk.inj hvs
              obtain ⟨ov, o1, o2⟩ := first_ok (P := P) (W := { W with drawn := W.drawn + 1 }) hold hx r
              obtain ⟨nv', n1', n2'⟩ := first_ok (P := P) (W := { W with drawn := W.drawn + 1 }) hnew hy r
              obtain ⟨c, rest, q1, q2, q3⟩ := append_new (P := P) (W := W) (ts := ts) (ty := ty) h0 h1 hel hni hsz hby hz c4 ha hlb hlt c2 c3 o1 n1'
              have holen := first_len hold hnl
              have e1 := o2.length
              have e2 := n2'.length
              have hmul : (n + k) * size + (c - (n + k)) * size = c * size := by rw [← Nat.add_mul]; congr 1; omega
              have hadd : (n + k) * size = n * size + k * size := Nat.add_mul _ _ _
              obtain ⟨d1, d2⟩ := r.drop hsub
              obtain ⟨k1, k2⟩ := d1.make' (W' := { W with drawn := W.drawn + 1, heap := W.heap.push (.cells (ov ++ nv' ++ rest).toArray el (0, 0)) }) (id := s.nx) (o := .cells (old ++ new)) (o0 := 0) (n := c * size) hn (by simp) (fun q hq => by simp [Array.getElem?_push_lt hq])
                ⟨(ov ++ nv' ++ rest).toArray, el, (0, 0), by simp, by simp; omega, fun i _ => by simp, by simp; omega, fun i w hw => by
                  obtain ⟨u, hu, hr⟩ := (o2.append n2').get hw
                  refine ⟨u, ?_, hr.mono (le_upd hn)⟩
                  simp only [Nat.zero_add, List.getElem?_toArray]
                  rw [List.getElem?_append_left (List.getElem?_eq_some_iff.1 hu).1]
                  exact hu⟩ rfl rfl rfl
              refine ⟨_, _, k1, d2.trans k2, fun id hid => if_neg hid, .inr rfl, _, q3, ?_⟩
              exact .opened (off := 0) (upd_at _ _ _) q1 (by simp)
            split at h
            · -- room known
              rename_i id off len c
              obtain ⟨p, hp, hlc, hu⟩ := hx.known_inv
              simp only [lenEv, Option.some.injEq] at hnl
              subst hnl
              cases hb : Nat.ble (len + k) c with
              | true =>
                rw [hb] at h
                simp only [cond_true] at h
                have hb := Nat.le_of_ble_eq_true hb
                split at h
                · rename_i cs hcs
                  cases hq : Nat.ble (off + (len + k) * size) cs.length with
                  | false => rw [hq] at h; cases h
                  | true =>
                    rw [hq] at h
                    simp only [cond_true, Option.some.injEq, Prod.mk.injEq] at h
                    obtain ⟨rfl, rfl⟩ := h
                    have hq := Nat.le_of_ble_eq_true hq
                    have hadd : (len + k) * size = len * size + k * size := Nat.add_mul _ _ _
                    obtain ⟨W', k1, k2, k3⟩ := r_store (P := P) (off := off + len * size) r (cells_of hcs) hp n2 c5 (by omega)
                    refine ⟨m, W', k2, k3, fun _ _ => rfl, .inl ⟨rfl, hn⟩, .slice (some ⟨p.b, p.o + off, none⟩) (len + k) c, ?_, .known hp hb⟩
                    rw [hu]
                    exact append_in h0 h1 hel hni hsz hlb hb n1 (by rw [addrN, Nat.add_assoc]; exact k1)
                · cases h
              | false =>
                rw [hb] at h
                simp only [cond_false, Option.some.injEq] at h
                have hb : c < len + k := by
                  rcases Nat.lt_or_ge c (len + k) with z | z
                  · exact z
                  · rw [Nat.ble_eq_true_of_le z] at hb; cases hb
                exact hmk hu hb s.H (fun _ _ h => h) h.symm
            · -- room not known
              rename_i id off len sz
              obtain ⟨p, c, hp, hlc, hroom, hu⟩ := hx.opened_inv
              simp only [lenEv, Option.some.injEq] at hnl
              subst hnl
              cases hk0 : (k == 0) with
              | true =>
                rw [hk0] at h
                simp only [cond_true, Option.some.injEq, Prod.mk.injEq] at h
                obtain ⟨rfl, rfl⟩ := h
                rw [beq_iff_eq] at hk0
                subst hk0
                have hnil : nv = [] := List.eq_nil_of_length_eq_zero (by rw [n2.length, hnlen]; simp)
                subst hnil
                refine resV_same r hn (u := .slice (some ⟨p.b, p.o + off, none⟩) len c) ?_ (.opened hp hlc hroom)
                rw [hu]
                have := append_in (P := P) (W := W) (W' := W) (ts := ts) (ty := ty) (ad := ⟨p.b, p.o + off, none⟩) (sLen := len) (sCap := c) h0 h1 hel hni hsz hlb (by omega) n1 rfl
                simpa using this
              | false =>
                rw [hk0] at h
                simp only [cond_false] at h
                cases hsz2 : (sz == size) with
                | false => rw [hsz2] at h; cases h
                | true =>
                  rw [hsz2] at h
                  simp only [cond_true, Option.some.injEq] at h
                  rw [beq_iff_eq] at hsz2
                  subst hsz2
                  rcases Nat.lt_or_ge c (len + k) with hlt | hge
                  · exact hmk hu hlt (s.H.set D id none) (sub_none _ _) h.symm
                  · obtain ⟨rfl, rfl⟩ := Prod.mk.inj h
                    -- in place
                    unfold firstEv at hold
                    simp only at hold
                    split at hold
                    · rename_i cs hcs
                      cases hq : Nat.ble (off + len * sz) cs.length with
                      | false => rw [hq] at hold; cases hold
                      | true =>
                        rw [hq] at hold
                        simp only [cond_true, Option.some.injEq] at hold
                        subst hold
                        have hq := Nat.le_of_ble_eq_true hq
                        obtain ⟨q, hq', arr, t, fz, a1, a2, a3, a5, a4⟩ := r.obj id _ (cells_of hcs)
                        have e1 : q = p := Option.some.inj (hq'.symm.trans hp)
                        subst e1
                        have hadd : (len + k) * sz = len * sz + k * sz := Nat.add_mul _ _ _
                        have hmul : (len + k) * sz ≤ c * sz := Nat.mul_le_mul_right _ hge
                        have hnl := n2.length
                        obtain ⟨W', arr', k1, k2, k3, k4, k5, k6, k7, k8, k9⟩ := r_storeCells (P := P) (b := q.b) (vs := nv) (W := W) (o := q.o + (off + len * sz)) (i := 0) a1 a3 (by omega) (n2.ones c5)
                        obtain ⟨j1, j2⟩ := r.rename (W' := W') (id' := s.nx) (p' := ⟨q.b, q.o + off, q.n⟩) (o := .cells ((cs.drop off).take (len * sz) ++ new)) (cells_of hcs) hp hn rfl
                          ⟨arr', t, fz, k2, by rw [k3]; exact a2, by rw [k3]; exact a3, by
                            rw [k3, List.length_append, List.length_take, List.length_drop]
                            show q.o + off + _ ≤ _
                            omega, fun i w hw => by
                            show ∃ v, arr'[q.o + off + i]? = some v ∧ _
                            rw [k4 (q.o + off + i)]
                            rcases Nat.lt_or_ge i (len * sz) with z | z
                            · rw [List.getElem?_append_left (by rw [List.length_take, List.length_drop]; omega), List.getElem?_take, if_pos z, List.getElem?_drop] at hw
                              rw [if_neg (by omega)]
                              obtain ⟨u, hu1, hu2⟩ := a4 (off + i) w hw
                              exact ⟨u, by rw [Nat.add_assoc]; exact hu1, hu2.mono (le_upd hn)⟩
                            · have hl2 : ((cs.drop off).take (len * sz)).length = len * sz := by rw [List.length_take, List.length_drop]; omega
                              rw [List.getElem?_append_right (by omega), hl2] at hw
                              obtain ⟨u, hu1, hu2⟩ := n2.get hw
                              have := (List.getElem?_eq_some_iff.1 hu1).1
                              rw [if_pos (by omega), show q.o + off + i - (q.o + (off + len * sz) + 0) = i - len * sz by omega]
                              exact ⟨u, hu1, hu2.mono (le_upd hn)⟩⟩ k5 k6 k7 k8 k9
                        refine ⟨_, W', j1, j2, fun id hid => if_neg hid, .inr rfl, .slice (some ⟨q.b, q.o + off, none⟩) (len + k) c, ?_, .opened (off := 0) (upd_at _ _ _) hge (by show q.o + off + 0 + c * sz ≤ q.n; omega)⟩
                        rw [hu]
                        exact append_in h0 h1 hel hni hsz hlb hge n1 (by rw [addrN, Nat.add_assoc]; exact k1)
                    · cases hold
            · -- nil
              rename_i l
              have hu := hx.val_inv
              have hl0 : l = 0 ∧ n = 0 := by
                simp only [lenEv] at hnl
                cases hb : (l == 0) with
                | false => rw [hb] at hnl; cases hnl
                | true => rw [hb] at hnl; simp at hnl; simp at hb; exact ⟨hb, hnl.symm⟩
              obtain ⟨rfl, rfl⟩ := hl0
              cases hk0 : (k == 0) with
              | true =>
                rw [hk0] at h
                simp only [cond_true, Option.some.injEq, Prod.mk.injEq] at h
                obtain ⟨rfl, rfl⟩ := h
                rw [beq_iff_eq] at hk0
                subst hk0
                have hnil : nv = [] := List.eq_nil_of_length_eq_zero (by rw [n2.length, hnlen]; simp)
                subst hnil
                refine resV_same r hn (u := .slice none 0 0) ?_ (.val _)
                rw [hu]
                exact append_nil h0 h1 hel hni hsz hlb n1
              | false =>
                rw [hk0] at h
                simp only [cond_false, Option.some.injEq] at h
                have hk0 : k ≠ 0 := by simpa using hk0
                exact hmk hu (by omega) s.H (fun _ _ h => h) h.symm
            · -- empty
              obtain ⟨ad, c, hu⟩ := hx.empty_inv
              simp only [lenEv, Option.some.injEq] at hnl
              subst hnl
              cases hk0 : (k == 0) with
              | true =>
                rw [hk0] at h
                simp only [cond_true, Option.some.injEq, Prod.mk.injEq] at h
                obtain ⟨rfl, rfl⟩ := h
                rw [beq_iff_eq] at hk0
                subst hk0
                have hnil : nv = [] := List.eq_nil_of_length_eq_zero (by rw [n2.length, hnlen]; simp)
                subst hnil
                refine resV_same r hn (u := .slice (some ad) 0 c) ?_ (.empty _ _)
                rw [hu]
                have := append_in (P := P) (W := W) (W' := W) (ts := ts) (ty := ty) (ad := ad) (sLen := 0) (sCap := c) h0 h1 hel hni hsz hlb (by omega) n1 rfl
                simpa using this
              | false => rw [hk0] at h; cases h
            · cases h
        · cases h
      · cases h
    · cases h
  · cases h
end
section
variable {P : Program} {m : Mp} {e : T RV} {ρ : Operand → Value} {s s' : S} {W W' : World} {o : Oper} {v : RV}
theorem ok_builtin {b : Builtin} {args : Array Operand} {ts : Array TypeId} (ho : o.op = .call { callee := .builtin b, args, argTypes := ts }) (h : opEv P e s o = some (v, s')) (he : Eval m e ρ) (r : Rel m s.H W.heap) (hn : m s.nx = none) : Res P m s W (execOp ρ o) v s' := by
  simp only [opEv, ho] at h
  split at h
  · rename_i l hl
    obtain ⟨consts, hex⟩ := r_builtin (ρ := ρ) ho
    have hr := he.list hl
    rw [hex]
    generalize (args.toList.map ρ) = us at hr
    have unary : ∀ x a, l = [x] → us = [a] → RVal m x a → ∀ f : Array Value → Sem Value, (s' = s ∧ ∃ u, (f [a].toArray).run P W = .ok u W ∧ RVal m v u) → Res P m s W (do pure (.value (← f us.toArray))) v s' := by
      intro x a hl hu hx f ⟨h1, u, h2, h3⟩
      subst h1 hu
      exact res_val r hn h2 h3
    have change : ∀ f : Array Value → Sem Value, (s'.nx = s.nx ∧ ∃ u W', (f us.toArray).run P W = .ok u W' ∧ RVal m v u ∧ Rel m s'.H W'.heap ∧ Grow m s.H W m s'.H W') → Res P m s W (do pure (.value (← f us.toArray))) v s' := by
      intro f ⟨h1, u, W', h2, h3, h4, h5⟩
      exact ⟨m, W', h4, h5, fun _ _ => rfl, .inl ⟨h1, hn⟩, .inl ⟨u, by simp [h2], h3⟩⟩
    have plain : ∀ f : Array Value → Sem Value, (match RV.grounds l with | some vs => (match calm P (f vs.toArray) with | some v => some (RV.val v, s) | none => none) | none => none) = some (v, s') → Res P m s W (do pure (.value (← f us.toArray))) v s' := by
      intro f h
      split at h
      · rename_i vs hv
        split at h
        · rename_i u hu
          simp only [Option.some.injEq, Prod.mk.injEq] at h
          obtain ⟨rfl, rfl⟩ := h
          have : us = vs := hr.ground hv
          subst this
          exact res_val r hn (calm_run hu W) (.val u)
        · cases h
      · cases h
    unfold builtinEv at h
    split at h
    · rename_i x y
      split at h
      · rename_i t u ht hu
        obtain ⟨a, b', rfl, hx, hy⟩ := hr.two_inv
        exact (ok_append h ht hu hx hy r hn).res
      · cases h
    · rename_i x
      obtain ⟨a, rfl, hx⟩ := hr.one_inv
      exact unary x a rfl rfl hx _ (ok_len (ty := o.type) h hx r)
    · rename_i x
      obtain ⟨a, rfl, hx⟩ := hr.one_inv
      exact unary x a rfl rfl hx _ (ok_cap (ty := o.type) h hx r)
    · rename_i x y
      obtain ⟨a, b', rfl, hx, hy⟩ := hr.two_inv
      exact change _ (ok_copy (ty := o.type) h hx hy r)
    · rename_i x
      obtain ⟨a, rfl, hx⟩ := hr.one_inv
      exact change _ (ok_clear (ty := o.type) h hx r)
    · exact plain _ h
    · exact plain _ h
    · cases h
  · cases h
theorem op_ok (h : opEv P e s o = some (v, s')) (he : Eval m e ρ) (r : Rel m s.H W.heap) (hn : m s.nx = none) : Res P m s W (execOp ρ o) v s' := by
  have bad : ∀ {x : Option (RV × S)}, opEv P e s o = x → x = none → Res P m s W (execOp ρ o) v s' := fun h1 h2 => by rw [h1, h2] at h; cases h
  cases ho : o.op with
  | move x => exact ok_move (.inl ho) h he r hn
  | assign x => exact ok_move (.inr ho) h he r hn
  | pick c a b => exact ok_pick ho h he r hn
  | alloc t => exact ok_alloc ho h he r hn
  | box t x => exact ok_box ho h he r hn
  | build t ps => exact ok_build ho h he r hn
  | buildSlice t l ps => exact ok_buildSlice ho h he r hn
  | insert t mm k x => exact ok_mapUpdate (.inr ho) h he r hn
  | load t a => exact ok_load ho h he r hn
  | store t a x => exact ok_store ho h he r hn
  | nilCheck x => exact ok_nilCheck ho h he r hn
  | binOp op t x y t' => exact ok_binOp ho h he r hn
  | unOp op t x => exact ok_unOp ho h he r hn
  | convert a b x => exact ok_convert ho h he r hn
  | makeFunc fn first caps =>
    cases fn with
    | func f => exact ok_makeFunc ho h he r hn
    | _ => simp [opEv, ho] at h
  | makeMap t rv =>
    cases rv with
    | none => exact ok_makeMap ho h he r hn
    | some x => simp [opEv, ho] at h
  | makeSlice t l c => exact ok_makeSlice ho h he r hn
  | slice t x lo hi mx => exact ok_slice ho h he r hn
  | fieldAddr t x i => exact ok_fieldAddr ho h he r hn
  | field t x i => exact ok_field ho h he r hn
  | indexAddr t x i => exact ok_indexAddr ho h he r hn
  | index t x i => exact ok_index ho h he r hn
  | lookup t x i ok => exact ok_lookup ho h he r hn
  | mapUpdate t mm k x => exact ok_mapUpdate (.inl ho) h he r hn
  | mapEntry t mm k => exact ok_mapEntry ho h he r hn
  | entryStore t mm st x => exact ok_entryStore ho h he r hn
  | extract x i => exact ok_extract ho h he r hn
  | call c =>
    obtain ⟨cal, args, ts⟩ := c
    cases cal with
    | builtin b => exact ok_builtin ho h he r hn
    | value f => simp [opEv, ho] at h
    | invoke a b => simp [opEv, ho] at h
  | _ => simp [opEv, ho] at h
end
end Go.Proofs.YtmknchdciblfjaaGreat.Ev

/- top35Awake: states of the evaluator beside the walk; the checksum as a call that is known. -/
import Derived.Test.YtmknchdciblfjaaGreatJg
import Derived.Test.YtmknchdciblfjaaGreatVyz
set_option linter.unusedVariables false
set_option linter.unusedSimpArgs false
namespace Go.Proofs.YtmknchdciblfjaaGreat.Ev
open Go Go.RowKit Go.Proofs.YtmknchdciblfjaaGreat
def crcO : FuncId → List RV → Option Value := fun f args => bif Nat.beq f 145 then (match args with | [.val (.string s)] => bif Nat.ble s.size 65536 then some (.tuple #[.string (B (sealE s.data.toList)), .int .i64 0]) else none | _ => none) else none
theorem crcO_ok : Known Tryz.prog crcO := by
  intro f args v h
  unfold crcO at h
  cases hf : Nat.beq f 145 with
  | false => rw [hf] at h; cases h
  | true =>
    rw [hf] at h
    obtain rfl : f = 145 := Nat.eq_of_beq_eq_true hf
    refine ⟨⟨_, Tryz.func145, by kernel_rfl⟩, fun m us ha W => ?_⟩
    simp only [cond_true] at h
    split at h
    · rename_i s
      cases hs : Nat.ble s.size 65536 with
      | false => rw [hs] at h; cases h
      | true =>
        rw [hs] at h
        simp only [cond_true, Option.some.injEq] at h
        subst h
        obtain ⟨a, ea, hav⟩ := ha.one_inv
        subst ea
        obtain rfl := hav.val_inv
        have hl : s.data.toList.length ≤ 65536 := by rw [Array.length_toList]; exact Nat.le_of_ble_eq_true hs
        have := seal_ok s.data.toList W hl
        rw [show B s.data.toList = s from rfl] at this
        exact this
    · cases h
/-- a state of the evaluator, and the world beside it; its objects lie from B on -/
structure ES (m : Mp) (s : S) (V : World) (B : Nat) : Prop where
  rel : Rel m s.H V.heap
  fresh : ∀ id, s.nx ≤ id → m id = none
  lo : ∀ b, live m s.H b → B ≤ b
theorem ES.nil (V : World) (B : Nat) : ES (fun _ => none) ⟨.nil, 0⟩ V B := ⟨⟨fun id o ho => (by cases ho), fun id id' o o' p p' ho => (by cases ho)⟩, fun _ _ => rfl, fun b ⟨id, o, p, h, _⟩ => by cases h⟩
theorem ES.mono {m : Mp} {s : S} {V : World} {B C : Nat} (h : ES m s V B) (k : C ≤ B) : ES m s V C := ⟨h.rel, h.fresh, fun b hb => Nat.le_trans k (h.lo b hb)⟩
theorem ES.lt {m : Mp} {s : S} {V : World} {B b : Nat} (h : ES m s V B) (hb : live m s.H b) : b < V.heap.size := by
  obtain ⟨id, o, p, h1, h2, rfl⟩ := hb
  obtain ⟨p', e, k⟩ := h.rel.obj id o h1
  rw [h2] at e
  injection e with e
  subst e
  exact k.lt
theorem ES.keep {m : Mp} {s : S} {V V' : World} {B : Nat} (h : ES m s V B) (k : ∀ b, B ≤ b → b < V.heap.size → V'.heap[b]? = V.heap[b]?) : ES m s V' B := by
  refine ⟨⟨fun id o ho => ?_, h.rel.inj⟩, h.fresh, h.lo⟩
  obtain ⟨p, e, q⟩ := h.rel.obj id o ho
  exact ⟨p, e, q.mono (.refl m) (k _ (h.lo _ ⟨id, o, p, ho, e, rfl⟩) q.lt)⟩
theorem ES.below {m : Mp} {s : S} {V V' : World} {B : Nat} (h : ES m s V B) (k : Below V.heap.size V V') : ES m s V' B := h.keep fun b _ hb => k.block b hb
/-- a call from such a state -/
theorem es_call {f N : Nat} {args : List RV} {s s1 : S} {v : RV} (h : (evO Tryz.prog crcO N).call f args s = some (v, s1)) {m : Mp} {V : World} {B : Nat} (he : ES m s V B) (hB : B ≤ V.heap.size) {us : List Value} (ha : RVals m args us) :
    Calls Tryz.prog f us.toArray V fun e V' => ∃ m' u, e = .returned u ∧ RVal m' v u ∧ m.le m' ∧ ES m' s1 V' B ∧ Below B V V' := by
  refine (call_from crcO_ok (named_of (by kernel_rfl)) (by kernel_rfl) h he.rel he.fresh ha).mono fun e V' hp => ?_
  obtain ⟨m', u, rfl, g, hr, hf, hv⟩ := hp
  exact ⟨m', u, rfl, hv, g.ext, ⟨hr, hf.1, fun b hb => (g.own b hb).elim (he.lo b) (Nat.le_trans hB)⟩, ⟨g.os, g.tape, g.output, g.size, fun b hb => g.keep b (Nat.lt_of_lt_of_le hb hB) fun hl => by have := he.lo b hl; omega⟩⟩
/-- a row more, whose block is none of the state's -/
theorem ES.add {m : Mp} {s : S} {V : World} {B g : Nat} {vs : List Value} {e : TypeId} (h : ES m s V B) (hg : V.heap[g]? = some (.cells vs.toArray e (0, 0))) (hn : ¬ live m s.H g) (hB : B ≤ g) : ES (upd m s.nx ⟨g, 0, vs.length⟩) (s.new (.cells (vs.map .val))) V B := by
  have hm : m s.nx = none := h.fresh _ (Nat.le_refl _)
  have hle : m.le (upd m s.nx ⟨g, 0, vs.length⟩) := le_upd hm
  have hget : ∀ id o, (s.H.set D s.nx (some (.cells (vs.map .val)))).get id = some o → (id = s.nx ∧ o = .cells (vs.map .val)) ∨ (id ≠ s.nx ∧ s.H.get id = some o) := fun id o ho => by
    rcases T.get_set _ _ _ _ _ _ ho with ⟨e, h⟩ | ⟨e, h⟩
    · injection h with h; exact .inl ⟨e, h.symm⟩
    · exact .inr ⟨e, h⟩
  have hold : ∀ id o, s.H.get id = some o → ∃ p, m id = some p ∧ upd m s.nx ⟨g, 0, vs.length⟩ id = some p ∧ p.b ≠ g ∧ ORel m V.heap p o := fun id o ho => by
    obtain ⟨p, e1, e2⟩ := h.rel.obj id o ho
    exact ⟨p, e1, hle _ _ e1, fun e => hn ⟨id, o, p, ho, e1, e⟩, e2⟩
  refine ⟨⟨fun id o ho => ?_, fun id id' o o' p p' h1 h2 h3 h4 h5 => ?_⟩, fun id hid => ?_, fun b hb => ?_⟩
  · rcases hget id o ho with ⟨rfl, rfl⟩ | ⟨hne, ho⟩
    · refine ⟨_, upd_at _ _ _, vs.toArray, e, (0, 0), hg, by simp, fun i _ => by simp, by simp, fun i x hx => ?_⟩
      rw [List.getElem?_map] at hx
      cases hv : vs[i]? with
      | none => rw [hv] at hx; cases hx
      | some y =>
        rw [hv] at hx
        injection hx with hx
        subst hx
        exact ⟨y, by simp [hv], .val y⟩
    · obtain ⟨p, e1, e2, e3, e4⟩ := hold id o ho
      exact ⟨p, e2, e4.mono hle rfl⟩
  · have key : ∀ id o q, (s.H.set D s.nx (some (.cells (vs.map .val)))).get id = some o → upd m s.nx ⟨g, 0, vs.length⟩ id = some q → (id = s.nx ∧ q.b = g) ∨ (id ≠ s.nx ∧ q.b ≠ g ∧ s.H.get id = some o ∧ m id = some q) := fun id o q k1 k2 => by
      rcases hget id o k1 with ⟨rfl, rfl⟩ | ⟨hne, ho⟩
      · rw [upd_at] at k2; injection k2 with k2; subst k2; exact .inl ⟨rfl, rfl⟩
      · obtain ⟨p, e1, e2, e3, _⟩ := hold id o ho
        rw [e2] at k2; injection k2 with k2; subst k2
        exact .inr ⟨hne, e3, ho, e1⟩
    rcases key id o p h1 h3 with ⟨a1, a2⟩ | ⟨a1, a2, a3, a4⟩ <;> rcases key id' o' p' h2 h4 with ⟨b1, b2⟩ | ⟨b1, b2, b3, b4⟩
    · rw [a1, b1]
    · exact absurd (h5 ▸ a2) b2
    · exact absurd (h5.symm ▸ b2) a2
    · exact h.rel.inj id id' o o' p p' a3 b3 a4 b4 h5
  · have hid' : s.nx + 1 ≤ id := hid
    show (if id = s.nx then _ else m id) = none
    rw [if_neg (by omega)]
    exact h.fresh id (by omega)
  · obtain ⟨id, o, p, k1, k2, rfl⟩ := hb
    rcases hget id o k1 with ⟨rfl, rfl⟩ | ⟨hne, ho⟩
    · rw [upd_at] at k2; injection k2 with k2; subst k2; exact hB
    · obtain ⟨q, e1, e2, e3, _⟩ := hold id o ho
      rw [e2] at k2; injection k2 with k2; subst k2
      exact h.lo _ ⟨id, o, q, ho, e1, rfl⟩
/-- one row alone -/
theorem ES.one {m : Mp} {s : S} {V : World} {B i : Nat} {vs : List Value} (h : ES m s V B) (hi : s.H.get i = some (.cells (vs.map .val))) : ES (fun j => if j = 0 then m i else none) ((⟨.nil, 0⟩ : S).new (.cells (vs.map .val))) V B := by
  obtain ⟨p, e1, e2⟩ := h.rel.obj i _ hi
  have hget : ∀ id o, ((⟨.nil, 0⟩ : S).new (.cells (vs.map .val))).H.get id = some o → id = 0 ∧ o = .cells (vs.map .val) := fun id o ho => by
    rcases T.get_set _ _ _ _ _ _ ho with ⟨e, h⟩ | ⟨e, h⟩
    · injection h with h; exact ⟨e, h.symm⟩
    · cases h
  refine ⟨⟨fun id o ho => ?_, fun id id' o o' q q' h1 h2 _ _ _ => ?_⟩, fun id hid => ?_, fun b hb => ?_⟩
  · obtain ⟨rfl, rfl⟩ := hget id o ho
    refine ⟨p, by simpa using e1, ?_⟩
    obtain ⟨arr, e, fz, k1, k2, k3, k4, k5⟩ := e2
    refine ⟨arr, e, fz, k1, k2, k3, k4, fun j x hx => ?_⟩
    obtain ⟨v, hv, hr⟩ := k5 j x hx
    refine ⟨v, hv, ?_⟩
    rw [List.getElem?_map] at hx
    cases hv2 : vs[j]? with
    | none => rw [hv2] at hx; cases hx
    | some y =>
      rw [hv2] at hx
      injection hx with hx
      subst hx
      rw [hr.val_inv]
      exact .val y
  · rw [(hget id o h1).1, (hget id' o' h2).1]
  · have hid' : 0 + 1 ≤ id := hid
    show (if id = 0 then m i else none) = none
    rw [if_neg (by omega)]
  · obtain ⟨id, o, q, k1, k2, rfl⟩ := hb
    obtain ⟨rfl, rfl⟩ := hget id o k1
    have k2' : m i = some q := by simpa using k2
    exact h.lo _ ⟨i, _, q, hi, k2', rfl⟩
/-- a cell of a row -/
theorem ES.cell {m : Mp} {s : S} {V : World} {B i j : Nat} {cs : List RV} {v : Value} {p : Pl} (h : ES m s V B) (hi : s.H.get i = some (.cells cs)) (hp : m i = some p) (hj : cs[j]? = some (.val v)) : V.cell? ⟨p.b, p.o + j, none⟩ = some v := by
  obtain ⟨p', e1, arr, e, fz, k1, k2, k3, k4, k5⟩ := h.rel.obj i _ hi
  rw [hp] at e1
  injection e1 with e1
  subst e1
  obtain ⟨u, hu, hr⟩ := k5 j _ hj
  rw [hr.val_inv] at hu
  unfold World.cell?
  simp only [k1]
  simpa using hu
end Go.Proofs.YtmknchdciblfjaaGreat.Ev

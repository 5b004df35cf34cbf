/- Layer 12 (block), the program: Put. -/
import Derived.Test.YtdnbegcebloodaaEm
import Derived.Test.YtdnbegcebloodaaRF
import Derived.Test.YtdnbegcebloodaaEe
set_option linter.unusedVariables false
set_option linter.unusedSimpArgs false
namespace Go.Proofs.Ytdnbegcebloodaa
open Go Go.RowKit
attribute [local go_sem] B_getElem B_size B_app B_extract B_get B_toList

def putL (l : List Blk) (b : Blk) : List Blk := l.filter (fun x => decide (x.kind < b.kind)) ++ [b] ++ l.filter (fun x => decide (b.kind < x.kind))
/-- what Put answers -/
def putS (l : List Blk) (b : Blk) : List Blk × Int := if chkAll l ≠ 0 then ([], 1) else if blkE b ≠ 0 then ([], blkE b) else if 8 < (putL l b).length then ([], 4) else (putL l b, 0)
def PutPost (r : List Blk × Int) (w : World) (e : Ending) (w' : World) : Prop := ∃ v, e = .returned (.tuple #[v, .int .i64 r.2]) ∧ RBlks w' w'.heap.size v r.1 ∧ Below w.heap.size w w' ∧ RFrom w.heap.size v
theorem RFrom.of_own {w : World} {base n size : Nat} {e : TypeId} {v : Value} {xs : List Value} (h : w.ownsRow base e size v n xs) : RFrom base v := fun a n c hv => (h.lt a.block (by rw [hv]; rfl)).1
/-- append(v, nil...) -/
theorem wpList_append_skip {P : Program} {ops : Array Oper} {rest : List Oper} {o : Oper} {a : Act} {Q : Exit → Act → World → Prop} (w : World) (hgd : o.guard = none) (s x : Operand) (t : TypeId)
    (ho : o.op = .call { callee := .builtin .append, args := #[s, x], argTypes := #[t, t] }) (v : Value) (hs : a.eval s = v) (hx : a.eval x = .slice none 0 0)
    (hr : (Builtin.append_ #[t, t] t #[v, .slice none 0 0]).run P w = .ok v w) (h : wpList P ops Q rest (a.put o.dst v) w) (ht : o.type = t := by rfl) : wpList P ops Q (o :: rest) a w := by
  refine wpList_plain hgd fun K hK => ?_
  unfold Oper.wp execOp
  simp only [ho, resolve, invoke, builtin, Sem.run_bind, Sem.run_pure, Result.andThen_ok, List.map_toArray, List.map_cons, List.map_nil, hs, hx, ht, hr]
  exact hK _ _ h

set_option maxRecDepth 100000 in
set_option maxHeartbeats 3000000 in
theorem put_any (l : List Blk) (u : Value) (b : Blk) (w : World) (h : RBlks w w.heap.size u l) (hd : ∀ x ∈ l, x.data.length ≤ maxLen) (hb : b.data.length ≤ maxLen) :
    Calls Try.prog 19 #[u, .agg #[.int .i64 b.kind, .int .i64 b.flags, .string (B b.data)]] w (PutPost (putS l b) w) := by
  obtain ⟨ua, uc, rfl, _⟩ := id h
  have HR := Lib.hid h
  have HD := Lib.hid hd
  unfold maxLen at hb
  clear h hd
  by_cases hc : chkAll l = 0
  case neg =>
    have hp : putS l b = ([], 1) := by unfold putS; rw [if_pos hc]
    have hd2 : Hid (decide (chkAll l = 0) = false) := Lib.hid (decide_eq_false hc)
    rw [hp]
    clear hc hp
    go_enter Try.func19, Try.ntmps19
    go_wp2_with fail
    refine (valid_any l _ _ (HR.out.below (C := w.heap.size) (by repeat' (first | (with_reducible refine bset ?_ ?_) | (with_reducible exact Below.refl _ _) | (with_reducible assumption) | (with_reducible refine bdrewN ?_ _) | (with_reducible refine bdrew ?_) | (with_reducible refine balloc0 ?_) | (with_reducible refine balloc ?_ ?_) | (with_reducible apply btrans0; rotate_left; with_reducible assumption) | (with_reducible apply btrans; rotate_left; with_reducible assumption) | exact Below.refl _ _ | assumption | (apply btrans0; rotate_left; assumption) | (apply btrans; rotate_left; assumption) | (simp; done) | omega | (simp; omega))) (Nat.le_refl _) (by simp)) HD.out).mono ?_
    rw [hd2.out]
    rintro e w1 ⟨rfl, hb1⟩
    go_wp2
    go_ret2
    exact ⟨_, rfl, RBlks.nil _ _, (by repeat' (first | (with_reducible refine bset ?_ ?_) | (with_reducible exact Below.refl _ _) | (with_reducible assumption) | (with_reducible refine bdrewN ?_ _) | (with_reducible refine bdrew ?_) | (with_reducible refine balloc0 ?_) | (with_reducible refine balloc ?_ ?_) | (with_reducible apply btrans0; rotate_left; with_reducible assumption) | (with_reducible apply btrans; rotate_left; with_reducible assumption) | exact Below.refl _ _ | assumption | (apply btrans0; rotate_left; assumption) | (apply btrans; rotate_left; assumption) | (simp; done) | omega | (simp; omega))), RFrom.nil _⟩
  have hd2 : Hid (decide (chkAll l = 0) = true) := Lib.hid (decide_eq_true hc)
  obtain ⟨hl8, _⟩ := chkAll_zero hc
  have HC := Lib.hid hc
  have hl' : l.length ≤ 1000 := by omega
  clear hc
  by_cases hE : blkE b = 0
  case neg =>
    have hp : putS l b = ([], blkE b) := by unfold putS; rw [if_neg (by simp [HC.out]), if_pos hE]
    have hE2 : (blkE b == 0) = false := beq_eq_false_iff_ne.2 hE
    rw [hp]
    obtain ⟨E, hEE⟩ : ∃ E, blkE b = E := ⟨_, rfl⟩
    have HEE := Lib.hid hEE
    rw [hEE] at hE2 ⊢
    clear hp hE hEE
    go_enter Try.func19, Try.ntmps19
    go_wp2_with fail
    refine (valid_any l _ _ (HR.out.below (C := w.heap.size) (by repeat' (first | (with_reducible refine bset ?_ ?_) | (with_reducible exact Below.refl _ _) | (with_reducible assumption) | (with_reducible refine bdrewN ?_ _) | (with_reducible refine bdrew ?_) | (with_reducible refine balloc0 ?_) | (with_reducible refine balloc ?_ ?_) | (with_reducible apply btrans0; rotate_left; with_reducible assumption) | (with_reducible apply btrans; rotate_left; with_reducible assumption) | exact Below.refl _ _ | assumption | (apply btrans0; rotate_left; assumption) | (apply btrans; rotate_left; assumption) | (simp; done) | omega | (simp; omega))) (Nat.le_refl _) (by simp)) HD.out).mono ?_
    rw [hd2.out]
    rintro e w1 ⟨rfl, hb1⟩
    obtain ⟨k1, f1⟩ := bcell hb1
    have z1 : w.heap.size < w1.heap.size := by have := hb1.size; simp at this; omega
    go_wp2_with fail
    refine (bcheck_any b _ hb).mono ?_
    rw [HEE.out]
    rintro e w2 ⟨rfl, hb2⟩
    go_wp2
    go_ret2
    exact ⟨_, rfl, RBlks.nil _ _, (by repeat' (first | (with_reducible refine bset ?_ ?_) | (with_reducible exact Below.refl _ _) | (with_reducible assumption) | (with_reducible refine bdrewN ?_ _) | (with_reducible refine bdrew ?_) | (with_reducible refine balloc0 ?_) | (with_reducible refine balloc ?_ ?_) | (with_reducible apply btrans0; rotate_left; with_reducible assumption) | (with_reducible apply btrans; rotate_left; with_reducible assumption) | exact Below.refl _ _ | assumption | (apply btrans0; rotate_left; assumption) | (apply btrans; rotate_left; assumption) | (simp; done) | omega | (simp; omega))), RFrom.nil _⟩
  have HE := Lib.hid hE
  obtain ⟨i0, hin, hz0, hz1, hz2⟩ := info_parts infoBlk
  clear hE
  go_enter Try.func19, Try.ntmps19
  go_wp2_with fail
  refine (valid_any l _ _ (HR.out.below (C := w.heap.size) (by repeat' (first | (with_reducible refine bset ?_ ?_) | (with_reducible exact Below.refl _ _) | (with_reducible assumption) | (with_reducible refine bdrewN ?_ _) | (with_reducible refine bdrew ?_) | (with_reducible refine balloc0 ?_) | (with_reducible refine balloc ?_ ?_) | (with_reducible apply btrans0; rotate_left; with_reducible assumption) | (with_reducible apply btrans; rotate_left; with_reducible assumption) | exact Below.refl _ _ | assumption | (apply btrans0; rotate_left; assumption) | (apply btrans; rotate_left; assumption) | (simp; done) | omega | (simp; omega))) (Nat.le_refl _) (by simp)) HD.out).mono ?_
  rw [hd2.out]
  rintro e w1 ⟨rfl, hb1⟩
  have z1 : w.heap.size < w1.heap.size := by have := hb1.size; simp at this; omega
  have hB1 : Below w.heap.size w w1 := (by repeat' (first | (with_reducible refine bset ?_ ?_) | (with_reducible exact Below.refl _ _) | (with_reducible assumption) | (with_reducible refine bdrewN ?_ _) | (with_reducible refine bdrew ?_) | (with_reducible refine balloc0 ?_) | (with_reducible refine balloc ?_ ?_) | (with_reducible apply btrans0; rotate_left; with_reducible assumption) | (with_reducible apply btrans; rotate_left; with_reducible assumption) | exact Below.refl _ _ | assumption | (apply btrans0; rotate_left; assumption) | (apply btrans; rotate_left; assumption) | (simp; done) | omega | (simp; omega)))
  have K1 : w1.heap[w.heap.size]? = some (.cells #[.int .i64 b.kind, .int .i64 b.flags, .string (B b.data)] 29 (0, 0)) := (hb1.block _ (by simp)).trans heap_new
  have ca := fun o => cellB K1 o
  clear hb1
  go_wp2_with fail
  refine (bcheck_any b _ hb).mono ?_
  rw [HE.out]
  rintro e w2 ⟨rfl, hb2⟩
  have z2 : w1.heap.size ≤ w2.heap.size := hb2.size
  have z2' : w.heap.size < w2.heap.size := by omega
  have hB2 : Below w.heap.size w w2 := (by repeat' (first | (with_reducible refine bset ?_ ?_) | (with_reducible exact Below.refl _ _) | (with_reducible assumption) | (with_reducible refine bdrewN ?_ _) | (with_reducible refine bdrew ?_) | (with_reducible refine balloc0 ?_) | (with_reducible refine balloc ?_ ?_) | (with_reducible apply btrans0; rotate_left; with_reducible assumption) | (with_reducible apply btrans; rotate_left; with_reducible assumption) | exact Below.refl _ _ | assumption | (apply btrans0; rotate_left; assumption) | (apply btrans; rotate_left; assumption) | (simp; done) | omega | (simp; omega)))
  have K2 := (hb2.block w.heap.size z1).trans K1
  clear hb2 ca K1 hB1
  go_wp2
  have ca := fun o => cellB K2 o
  refine wp_region_fork (fun V => ∀ o, V.cell? ⟨w.heap.size, o, none⟩ = #[Value.int .i64 b.kind, Value.int .i64 b.flags, Value.string (B b.data)][o]?) [0, 0, 2, 1, 2, 3, 0] [0, 1, 3] 2 4 [4, 5, 6] [2, 5, 6] (by kernel_rfl) (by kernel_rfl) ?_ ?_
  · exact ca
  (iterate 3 (refine planR_held rfl (by rfl) (fun w1 hS => by (try (have hS := hS rfl; obtain hS := hS; repeat (obtain ⟨_, hS⟩ := hS))); go_simp; rfl) ?_; simp only [Act.put, List.setIfInBounds_toArray, List.set_cons_zero, List.set_cons_succ]))
  refine ⟨?_, ?_⟩
  · (refine fork_op rfl (by rfl) (fun K hK => ?_); go_simp)
    refine (filter_pred l _ _ _ (fun x => decide (x.kind < b.kind)) w2.drew (HR.out.below (C := w.heap.size) (show Below w.heap.size w w2.drew from bdrew hB2) (Nat.le_refl _) hB2.size) ((put1_pred l b.kind w.heap.size w2.heap.size w2.drew z2' (Nat.le_refl _) (ca 0)).at (Nat.le_refl _)) hl').mono ?_
    rintro e w3 ⟨v3, rfl, hr3, hb3, ho3⟩
    have hB3 : Below w.heap.size w w3 := (by repeat' (first | (with_reducible refine bset ?_ ?_) | (with_reducible exact Below.refl _ _) | (with_reducible assumption) | (with_reducible refine bdrewN ?_ _) | (with_reducible refine bdrew ?_) | (with_reducible refine balloc0 ?_) | (with_reducible refine balloc ?_ ?_) | (with_reducible apply btrans0; rotate_left; with_reducible assumption) | (with_reducible apply btrans; rotate_left; with_reducible assumption) | exact Below.refl _ _ | assumption | (apply btrans0; rotate_left; assumption) | (apply btrans; rotate_left; assumption) | (simp; done) | omega | (simp; omega)))
    have z3 : w2.heap.size ≤ w3.heap.size := hb3.size
    have z3' : w.heap.size < w3.heap.size := by omega
    have K3 : w3.heap[w.heap.size]? = _ := (hb3.block w.heap.size (by simpa using z2')).trans K2
    clear hr3 hb3 ca
    have ca := fun o => cellB K3 o
    (refine hK _ _ (by exact ca) ?_; clear hK K; (try simp only [Act.put, List.setIfInBounds_toArray, List.set_cons_zero, List.set_cons_succ]))
    (refine plan_keep rfl rfl (by rfl) (fun K hK => ?_); go_simp)
    (refine hK _ _ (by exact fun o => (World.cell?_alloc_lt _ _ _ z3').trans (ca o)) ?_; clear hK K; (try simp only [Act.put, List.setIfInBounds_toArray, List.set_cons_zero, List.set_cons_succ]))
    refine plan_late rfl rfl (by rfl) (fun K hK => ?_)
    have hN1 : (l.filter (fun x => decide (x.kind < b.kind))).length ≤ l.length := List.length_filter_le _ _
    refine wp_append_lies _ _ _ _ rfl w2.heap.size 29 i0 _ 3 32 Try.underlying22 hin hz0 hz1 hz2 rfl (by omega) v3 _ _ (by rfl) (ho3.alloc _) ⟨w3.heap.size, 0, none⟩ 1 1 (blkC b) (by rfl) rfl (news_one (t := 29) (by exact heap_new)) (blkC_one b) (by omega) (by simp only [maxLen]; omega) (by omega) (by simp; omega) (w3.heap.size + 1) (by simp) ?_
    intro g5 cap5 w5 hown5 hg5 hat5 hlt5
    have K5 : w5.heap[w.heap.size]? = some (.cells #[.int .i64 b.kind, .int .i64 b.flags, .string (B b.data)] 29 (0, 0)) := (hg5.block _ (by simp; omega) (fun e => by have h := (ho3.lt _ e.symm).1; have h : w2.heap.size ≤ w.heap.size := h; omega)).trans ((Below.heap_alloc _ _ _ z3').trans K3)
    have hB5 : Below w.heap.size w w5 := (balloc hB3 (by omega)).grown hg5 (by simp; omega) (fun q hq => by have h := (ho3.lt q hq).1; have h : w2.heap.size ≤ q := h; omega)
    have z5 : w.heap.size < w5.heap.size := by have := hg5.size; simp at this; omega
    have zb : w2.heap.size ≤ w5.heap.size := by have := hg5.size; simp at this; omega
    have HO5 := Lib.hid hown5
    clear hown5 hg5 hat5 ho3 K3 hB3 ca
    refine hK _ _ ?_
    clear hK K
    simp only [Act.put, List.setIfInBounds_toArray, List.set_cons_zero, List.set_cons_succ]
    (iterate 1 (refine plan_held rfl (by decide) (by rfl) (fun w1 hS => by (try (have hS := hS rfl; obtain hS := hS; repeat (obtain ⟨_, hS⟩ := hS))); go_simp; rfl) ?_; simp only [Act.put, List.setIfInBounds_toArray, List.set_cons_zero, List.set_cons_succ]))
    refine plan_done ?_
    obtain ⟨vo, hvo⟩ : ∃ vo, Value.slice (some ⟨g5, 0, none⟩) ((l.filter (fun x => decide (x.kind < b.kind))).length + 1) cap5 = vo := ⟨_, rfl⟩
    rw [hvo] at HO5 ⊢
    clear hvo
    go_wp2_with fail
    refine (filter_pred l _ _ _ (fun x => decide (b.kind < x.kind)) _ (HR.out.below (C := w.heap.size) hB5 (Nat.le_refl _) hB5.size) ((put2_pred l b.kind w.heap.size w5.heap.size _ z5 (Nat.le_refl _) (cellB K5 0)).at (Nat.le_refl _)) hl').mono ?_
    rintro e w6 ⟨v6, rfl, hr6, hb6, ho6⟩
    have hB6 : Below w.heap.size w w6 := (by repeat' (first | (with_reducible refine bset ?_ ?_) | (with_reducible exact Below.refl _ _) | (with_reducible assumption) | (with_reducible refine bdrewN ?_ _) | (with_reducible refine bdrew ?_) | (with_reducible refine balloc0 ?_) | (with_reducible refine balloc ?_ ?_) | (with_reducible apply btrans0; rotate_left; with_reducible assumption) | (with_reducible apply btrans; rotate_left; with_reducible assumption) | exact Below.refl _ _ | assumption | (apply btrans0; rotate_left; assumption) | (apply btrans; rotate_left; assumption) | (simp; done) | omega | (simp; omega)))
    have z6 : w5.heap.size ≤ w6.heap.size := hb6.size
    have hown6 := own_kept HO5.out (fun q _ cs e f hq => hb6.block q (by
      rcases Nat.lt_or_ge q w5.heap.size with h | h
      · exact h
      · rw [Array.getElem?_eq_none h] at hq; cases hq))
    have hL : ((l.filter (fun x => decide (x.kind < b.kind))).flatMap blkC ++ blkC b) ++ (l.filter (fun x => decide (b.kind < x.kind))).flatMap blkC = (putL l b).flatMap blkC := by simp [putL, List.flatMap_append]
    have hN : (putL l b).length = (l.filter (fun x => decide (x.kind < b.kind))).length + 1 + (l.filter (fun x => decide (b.kind < x.kind))).length := by simp [putL]; omega
    have hN1 : (l.filter (fun x => decide (x.kind < b.kind))).length ≤ l.length := List.length_filter_le _ _
    have hN2 : (l.filter (fun x => decide (b.kind < x.kind))).length ≤ l.length := List.length_filter_le _ _
    have hfin : ∀ (v' : Value) (w7 : World) (base : Nat), w7.ownsRow base 29 3 v' ((l.filter (fun x => decide (x.kind < b.kind))).length + 1 + (l.filter (fun x => decide (b.kind < x.kind))).length) (((l.filter (fun x => decide (x.kind < b.kind))).flatMap blkC ++ blkC b) ++ (l.filter (fun x => decide (b.kind < x.kind))).flatMap blkC) → (∃ a c, v' = .slice a (putL l b).length c) ∧ RBlks w7 w7.heap.size v' (putL l b) ∧ RFrom base v' := fun v' w7 base ho => by
      rw [hL, ← hN] at ho
      have := RBlks.of_own ho
      obtain ⟨a, c, e, _⟩ := id this
      exact ⟨⟨a, c, e⟩, this, RFrom.of_own ho⟩
    have HFin := Lib.hid hfin
    have HN := Lib.hid hN
    clear hfin hL hb6 hN
    rcases ho6.2 with ⟨rfl, hz⟩ | ⟨g6, cap6, cur6, rfl, hbg6, hg6, hc6, hm6, _⟩
    · have happ := run_append_owned_none (P := Try.prog) (w := w6) w2.heap.size 22 22 29 i0 3 Try.underlying22 hin vo _ _ hown6
      have hown7 : w6.ownsRow w2.heap.size 29 3 vo ((l.filter (fun x => decide (x.kind < b.kind))).length + 1 + (l.filter (fun x => decide (b.kind < x.kind))).length) (((l.filter (fun x => decide (x.kind < b.kind))).flatMap blkC ++ blkC b) ++ (l.filter (fun x => decide (b.kind < x.kind))).flatMap blkC) := by
        have e2 : l.filter (fun x => decide (b.kind < x.kind)) = [] := List.eq_nil_of_length_eq_zero hz
        rw [e2]
        simpa using hown6
      obtain ⟨⟨va, vcap, rfl⟩, hr7, hfr⟩ := HFin.out vo w6 _ hown7
      have HFR := Lib.hid (hfr.mono (show w.heap.size ≤ w2.heap.size by omega))
      clear hfr
      clear hown7 hown6 ho6 HFin
      have H7 := Lib.hid hr7
      by_cases h8 : 8 < (putL l b).length
      · have h8' : (8 : Int) < ((putL l b).length : Int) := by omega
        have hp : putS l b = ([], 4) := by unfold putS; rw [if_neg (by simp [HC.out]), if_neg (by simp [HE.out]), if_pos h8]
        have HP := Lib.hid hp
        clear hp
        go_wp2_with (at_builtin; refine wpList_append_skip _ rfl _ _ _ rfl (.slice va (putL l b).length vcap) rfl rfl happ ?_)
        go_ret2
        refine ⟨_, by rw [HP.out]; rfl, by rw [HP.out]; exact RBlks.nil _ _, (by repeat' (first | (with_reducible refine bset ?_ ?_) | (with_reducible exact Below.refl _ _) | (with_reducible assumption) | (with_reducible refine bdrewN ?_ _) | (with_reducible refine bdrew ?_) | (with_reducible refine balloc0 ?_) | (with_reducible refine balloc ?_ ?_) | (with_reducible apply btrans0; rotate_left; with_reducible assumption) | (with_reducible apply btrans; rotate_left; with_reducible assumption) | exact Below.refl _ _ | assumption | (apply btrans0; rotate_left; assumption) | (apply btrans; rotate_left; assumption) | (simp; done) | omega | (simp; omega))), RFrom.nil _⟩
      · have h8' : ¬ (8 : Int) < ((putL l b).length : Int) := by omega
        have hp : putS l b = (putL l b, 0) := by unfold putS; rw [if_neg (by simp [HC.out]), if_neg (by simp [HE.out]), if_neg h8]
        have HP := Lib.hid hp
        clear hp
        go_wp2_with (at_builtin; refine wpList_append_skip _ rfl _ _ _ rfl (.slice va (putL l b).length vcap) rfl rfl happ ?_)
        go_ret2
        refine ⟨_, by rw [HP.out]; rfl, by rw [HP.out]; exact H7.out, (by repeat' (first | (with_reducible refine bset ?_ ?_) | (with_reducible exact Below.refl _ _) | (with_reducible assumption) | (with_reducible refine bdrewN ?_ _) | (with_reducible refine bdrew ?_) | (with_reducible refine balloc0 ?_) | (with_reducible refine balloc ?_ ?_) | (with_reducible apply btrans0; rotate_left; with_reducible assumption) | (with_reducible apply btrans; rotate_left; with_reducible assumption) | exact Below.refl _ _ | assumption | (apply btrans0; rotate_left; assumption) | (apply btrans; rotate_left; assumption) | (simp; done) | omega | (simp; omega))), HFR.out⟩
    · have hn6 : 0 ≤ (l.filter (fun x => decide (b.kind < x.kind))).length := Nat.zero_le _
      unfold maxLen at hm6
      by_cases h8 : 8 < (putL l b).length
      · have h8' : (8 : Int) < ((putL l b).length : Int) := by omega
        have hp : putS l b = ([], 4) := by unfold putS; rw [if_neg (by simp [HC.out]), if_neg (by simp [HE.out]), if_pos h8]
        have HP := Lib.hid hp
        clear hp
        go_wp2_with (at_builtin; refine wpList_append_own_at _ rfl _ _ _ rfl (w2.heap.size) 29 i0 _ 3 32 Try.underlying22 hin hz0 hz1 hz2 rfl (by omega) vo _ _ rfl hown6 ⟨g6, 0, none⟩ _ cap6 _ rfl (flat_len blkC 3 blkC_len _) (fun j u hj => own_get ho6 rfl hj) (blk_one _) (by simp only [maxLen]; omega) (by omega) (by omega) ?_; intro v' w7 hown7 hg7 _ hat7; obtain ⟨⟨va, vcap, rfl⟩, hr7, hfr⟩ := HFin.out v' w7 _ hown7; have HFR := Lib.hid (hfr.mono (show w.heap.size ≤ w2.heap.size by omega)); clear hown7 hfr; have H7 := Lib.hid hr7; have hB7 : Below w.heap.size w w7 := hB6.grown hg7 (by omega) (fun q hq => by have := (hown6.lt q hq).1; omega); clear hg7 hr7)
        go_ret2
        refine ⟨_, by rw [HP.out]; rfl, by rw [HP.out]; exact RBlks.nil _ _, (by repeat' (first | (with_reducible refine bset ?_ ?_) | (with_reducible exact Below.refl _ _) | (with_reducible assumption) | (with_reducible refine bdrewN ?_ _) | (with_reducible refine bdrew ?_) | (with_reducible refine balloc0 ?_) | (with_reducible refine balloc ?_ ?_) | (with_reducible apply btrans0; rotate_left; with_reducible assumption) | (with_reducible apply btrans; rotate_left; with_reducible assumption) | exact Below.refl _ _ | assumption | (apply btrans0; rotate_left; assumption) | (apply btrans; rotate_left; assumption) | (simp; done) | omega | (simp; omega))), RFrom.nil _⟩
      · have h8' : ¬ (8 : Int) < ((putL l b).length : Int) := by omega
        have hp : putS l b = (putL l b, 0) := by unfold putS; rw [if_neg (by simp [HC.out]), if_neg (by simp [HE.out]), if_neg h8]
        have HP := Lib.hid hp
        clear hp
        go_wp2_with (at_builtin; refine wpList_append_own_at _ rfl _ _ _ rfl (w2.heap.size) 29 i0 _ 3 32 Try.underlying22 hin hz0 hz1 hz2 rfl (by omega) vo _ _ rfl hown6 ⟨g6, 0, none⟩ _ cap6 _ rfl (flat_len blkC 3 blkC_len _) (fun j u hj => own_get ho6 rfl hj) (blk_one _) (by simp only [maxLen]; omega) (by omega) (by omega) ?_; intro v' w7 hown7 hg7 _ hat7; obtain ⟨⟨va, vcap, rfl⟩, hr7, hfr⟩ := HFin.out v' w7 _ hown7; have HFR := Lib.hid (hfr.mono (show w.heap.size ≤ w2.heap.size by omega)); clear hown7 hfr; have H7 := Lib.hid hr7; have hB7 : Below w.heap.size w w7 := hB6.grown hg7 (by omega) (fun q hq => by have := (hown6.lt q hq).1; omega); clear hg7 hr7)
        go_ret2
        refine ⟨_, by rw [HP.out]; rfl, by rw [HP.out]; exact H7.out, (by repeat' (first | (with_reducible refine bset ?_ ?_) | (with_reducible exact Below.refl _ _) | (with_reducible assumption) | (with_reducible refine bdrewN ?_ _) | (with_reducible refine bdrew ?_) | (with_reducible refine balloc0 ?_) | (with_reducible refine balloc ?_ ?_) | (with_reducible apply btrans0; rotate_left; with_reducible assumption) | (with_reducible apply btrans; rotate_left; with_reducible assumption) | exact Below.refl _ _ | assumption | (apply btrans0; rotate_left; assumption) | (apply btrans; rotate_left; assumption) | (simp; done) | omega | (simp; omega))), HFR.out⟩
  · (refine fork_op rfl (by rfl) (fun K hK => ?_); go_simp)
    have zc : (w2.alloc (.cells #[.int .i64 b.kind, .int .i64 b.flags, .string (B b.data)] 29)).drew.heap.size = w2.heap.size + 1 := by simp
    have hBc : Below w.heap.size w (w2.alloc (.cells #[.int .i64 b.kind, .int .i64 b.flags, .string (B b.data)] 29)).drew := bdrew (balloc hB2 hB2.size)
    have Kc : (w2.alloc (.cells #[.int .i64 b.kind, .int .i64 b.flags, .string (B b.data)] 29)).drew.heap[w.heap.size]? = some (.cells #[.int .i64 b.kind, .int .i64 b.flags, .string (B b.data)] 29 (0, 0)) := (Below.heap_alloc w2 _ _ z2').trans K2
    have Nc : (w2.alloc (.cells #[.int .i64 b.kind, .int .i64 b.flags, .string (B b.data)] 29)).drew.heap[w2.heap.size]? = some (.cells #[.int .i64 b.kind, .int .i64 b.flags, .string (B b.data)] 29 (0, 0)) := heap_alloc_new w2 _
    obtain ⟨Wc, hWc⟩ : ∃ Wc, (w2.alloc (.cells #[.int .i64 b.kind, .int .i64 b.flags, .string (B b.data)] 29)).drew = Wc := ⟨_, rfl⟩
    rw [hWc] at zc hBc Kc Nc
    try rw [hWc]
    clear ca
    have ca := fun o => cellB Kc o
    (refine hK _ _ (by exact ca) ?_; clear hK K; (try simp only [Act.put, List.setIfInBounds_toArray, List.set_cons_zero, List.set_cons_succ]))
    (refine plan_keep rfl rfl (by rfl) (fun K hK => ?_); go_simp)
    refine (filter_pred l _ _ _ (fun x => decide (x.kind < b.kind)) Wc (HR.out.below (C := w.heap.size) hBc (Nat.le_refl _) hBc.size) ((put1_pred l b.kind w.heap.size w2.heap.size Wc z2' (by omega) (ca 0)).at (by omega)) hl').mono ?_
    rintro e w3 ⟨v3, rfl, hr3, hb3, ho3⟩
    have hB3 : Below w.heap.size w w3 := (by repeat' (first | (with_reducible refine bset ?_ ?_) | (with_reducible exact Below.refl _ _) | (with_reducible assumption) | (with_reducible refine bdrewN ?_ _) | (with_reducible refine bdrew ?_) | (with_reducible refine balloc0 ?_) | (with_reducible refine balloc ?_ ?_) | (with_reducible apply btrans0; rotate_left; with_reducible assumption) | (with_reducible apply btrans; rotate_left; with_reducible assumption) | exact Below.refl _ _ | assumption | (apply btrans0; rotate_left; assumption) | (apply btrans; rotate_left; assumption) | (simp; done) | omega | (simp; omega)))
    have z3 : Wc.heap.size ≤ w3.heap.size := hb3.size
    have z3' : w.heap.size < w3.heap.size := by omega
    have K3 : w3.heap[w.heap.size]? = _ := (hb3.block w.heap.size (by omega)).trans Kc
    have N3 : w3.heap[w2.heap.size]? = _ := (hb3.block w2.heap.size (by omega)).trans Nc
    clear hr3 hb3 ca
    have ca := fun o => cellB K3 o
    (refine hK _ _ (by exact ca) ?_; clear hK K; (try simp only [Act.put, List.setIfInBounds_toArray, List.set_cons_zero, List.set_cons_succ]))
    refine plan_late rfl rfl (by rfl) (fun K hK => ?_)
    have hN1 : (l.filter (fun x => decide (x.kind < b.kind))).length ≤ l.length := List.length_filter_le _ _
    refine wp_append_lies _ _ _ _ rfl Wc.heap.size 29 i0 _ 3 32 Try.underlying22 hin hz0 hz1 hz2 rfl (by omega) v3 _ _ (by rfl) ho3 ⟨w2.heap.size, 0, none⟩ 1 1 (blkC b) (by rfl) rfl (news_one (t := 29) (by exact N3)) (blkC_one b) (by omega) (by simp only [maxLen]; omega) (by omega) (by omega) w3.heap.size rfl ?_
    intro g5 cap5 w5 hown5 hg5 hat5 hlt5
    have K5 : w5.heap[w.heap.size]? = some (.cells #[.int .i64 b.kind, .int .i64 b.flags, .string (B b.data)] 29 (0, 0)) := (hg5.block _ z3' (fun e => by have h := (ho3.lt _ e.symm).1; omega)).trans K3
    have hB5 : Below w.heap.size w w5 := hB3.grown hg5 (by omega) (fun q hq => by have h := (ho3.lt q hq).1; omega)
    have z5 : w.heap.size < w5.heap.size := by have := hg5.size; omega
    have zb : Wc.heap.size ≤ w5.heap.size := by have := hg5.size; omega
    have HO5 := Lib.hid hown5
    clear hown5 hg5 hat5 ho3 K3 hB3 ca hWc hBc Kc Nc N3
    refine hK _ _ ?_
    clear hK K
    simp only [Act.put, List.setIfInBounds_toArray, List.set_cons_zero, List.set_cons_succ]
    (iterate 1 (refine plan_held rfl (by decide) (by rfl) (fun w1 hS => by (try (have hS := hS rfl; obtain hS := hS; repeat (obtain ⟨_, hS⟩ := hS))); go_simp; rfl) ?_; simp only [Act.put, List.setIfInBounds_toArray, List.set_cons_zero, List.set_cons_succ]))
    refine plan_done ?_
    obtain ⟨vo, hvo⟩ : ∃ vo, Value.slice (some ⟨g5, 0, none⟩) ((l.filter (fun x => decide (x.kind < b.kind))).length + 1) cap5 = vo := ⟨_, rfl⟩
    rw [hvo] at HO5 ⊢
    clear hvo
    go_wp2_with fail
    refine (filter_pred l _ _ _ (fun x => decide (b.kind < x.kind)) _ (HR.out.below (C := w.heap.size) hB5 (Nat.le_refl _) hB5.size) ((put2_pred l b.kind w.heap.size w5.heap.size _ z5 (Nat.le_refl _) (cellB K5 0)).at (Nat.le_refl _)) hl').mono ?_
    rintro e w6 ⟨v6, rfl, hr6, hb6, ho6⟩
    have hB6 : Below w.heap.size w w6 := (by repeat' (first | (with_reducible refine bset ?_ ?_) | (with_reducible exact Below.refl _ _) | (with_reducible assumption) | (with_reducible refine bdrewN ?_ _) | (with_reducible refine bdrew ?_) | (with_reducible refine balloc0 ?_) | (with_reducible refine balloc ?_ ?_) | (with_reducible apply btrans0; rotate_left; with_reducible assumption) | (with_reducible apply btrans; rotate_left; with_reducible assumption) | exact Below.refl _ _ | assumption | (apply btrans0; rotate_left; assumption) | (apply btrans; rotate_left; assumption) | (simp; done) | omega | (simp; omega)))
    have z6 : w5.heap.size ≤ w6.heap.size := hb6.size
    have hown6 := own_kept HO5.out (fun q _ cs e f hq => hb6.block q (by
      rcases Nat.lt_or_ge q w5.heap.size with h | h
      · exact h
      · rw [Array.getElem?_eq_none h] at hq; cases hq))
    have hL : ((l.filter (fun x => decide (x.kind < b.kind))).flatMap blkC ++ blkC b) ++ (l.filter (fun x => decide (b.kind < x.kind))).flatMap blkC = (putL l b).flatMap blkC := by simp [putL, List.flatMap_append]
    have hN : (putL l b).length = (l.filter (fun x => decide (x.kind < b.kind))).length + 1 + (l.filter (fun x => decide (b.kind < x.kind))).length := by simp [putL]; omega
    have hN1 : (l.filter (fun x => decide (x.kind < b.kind))).length ≤ l.length := List.length_filter_le _ _
    have hN2 : (l.filter (fun x => decide (b.kind < x.kind))).length ≤ l.length := List.length_filter_le _ _
    have hfin : ∀ (v' : Value) (w7 : World) (base : Nat), w7.ownsRow base 29 3 v' ((l.filter (fun x => decide (x.kind < b.kind))).length + 1 + (l.filter (fun x => decide (b.kind < x.kind))).length) (((l.filter (fun x => decide (x.kind < b.kind))).flatMap blkC ++ blkC b) ++ (l.filter (fun x => decide (b.kind < x.kind))).flatMap blkC) → (∃ a c, v' = .slice a (putL l b).length c) ∧ RBlks w7 w7.heap.size v' (putL l b) ∧ RFrom base v' := fun v' w7 base ho => by
      rw [hL, ← hN] at ho
      have := RBlks.of_own ho
      obtain ⟨a, c, e, _⟩ := id this
      exact ⟨⟨a, c, e⟩, this, RFrom.of_own ho⟩
    have HFin := Lib.hid hfin
    have HN := Lib.hid hN
    clear hfin hL hb6 hN
    rcases ho6.2 with ⟨rfl, hz⟩ | ⟨g6, cap6, cur6, rfl, hbg6, hg6, hc6, hm6, _⟩
    · have happ := run_append_owned_none (P := Try.prog) (w := w6) Wc.heap.size 22 22 29 i0 3 Try.underlying22 hin vo _ _ hown6
      have hown7 : w6.ownsRow Wc.heap.size 29 3 vo ((l.filter (fun x => decide (x.kind < b.kind))).length + 1 + (l.filter (fun x => decide (b.kind < x.kind))).length) (((l.filter (fun x => decide (x.kind < b.kind))).flatMap blkC ++ blkC b) ++ (l.filter (fun x => decide (b.kind < x.kind))).flatMap blkC) := by
        have e2 : l.filter (fun x => decide (b.kind < x.kind)) = [] := List.eq_nil_of_length_eq_zero hz
        rw [e2]
        simpa using hown6
      obtain ⟨⟨va, vcap, rfl⟩, hr7, hfr⟩ := HFin.out vo w6 _ hown7
      have HFR := Lib.hid (hfr.mono (show w.heap.size ≤ Wc.heap.size by omega))
      clear hfr
      clear hown7 hown6 ho6 HFin
      have H7 := Lib.hid hr7
      by_cases h8 : 8 < (putL l b).length
      · have h8' : (8 : Int) < ((putL l b).length : Int) := by omega
        have hp : putS l b = ([], 4) := by unfold putS; rw [if_neg (by simp [HC.out]), if_neg (by simp [HE.out]), if_pos h8]
        have HP := Lib.hid hp
        clear hp
        go_wp2_with (at_builtin; refine wpList_append_skip _ rfl _ _ _ rfl (.slice va (putL l b).length vcap) rfl rfl happ ?_)
        go_ret2
        refine ⟨_, by rw [HP.out]; rfl, by rw [HP.out]; exact RBlks.nil _ _, (by repeat' (first | (with_reducible refine bset ?_ ?_) | (with_reducible exact Below.refl _ _) | (with_reducible assumption) | (with_reducible refine bdrewN ?_ _) | (with_reducible refine bdrew ?_) | (with_reducible refine balloc0 ?_) | (with_reducible refine balloc ?_ ?_) | (with_reducible apply btrans0; rotate_left; with_reducible assumption) | (with_reducible apply btrans; rotate_left; with_reducible assumption) | exact Below.refl _ _ | assumption | (apply btrans0; rotate_left; assumption) | (apply btrans; rotate_left; assumption) | (simp; done) | omega | (simp; omega))), RFrom.nil _⟩
      · have h8' : ¬ (8 : Int) < ((putL l b).length : Int) := by omega
        have hp : putS l b = (putL l b, 0) := by unfold putS; rw [if_neg (by simp [HC.out]), if_neg (by simp [HE.out]), if_neg h8]
        have HP := Lib.hid hp
        clear hp
        go_wp2_with (at_builtin; refine wpList_append_skip _ rfl _ _ _ rfl (.slice va (putL l b).length vcap) rfl rfl happ ?_)
        go_ret2
        refine ⟨_, by rw [HP.out]; rfl, by rw [HP.out]; exact H7.out, (by repeat' (first | (with_reducible refine bset ?_ ?_) | (with_reducible exact Below.refl _ _) | (with_reducible assumption) | (with_reducible refine bdrewN ?_ _) | (with_reducible refine bdrew ?_) | (with_reducible refine balloc0 ?_) | (with_reducible refine balloc ?_ ?_) | (with_reducible apply btrans0; rotate_left; with_reducible assumption) | (with_reducible apply btrans; rotate_left; with_reducible assumption) | exact Below.refl _ _ | assumption | (apply btrans0; rotate_left; assumption) | (apply btrans; rotate_left; assumption) | (simp; done) | omega | (simp; omega))), HFR.out⟩
    · have hn6 : 0 ≤ (l.filter (fun x => decide (b.kind < x.kind))).length := Nat.zero_le _
      unfold maxLen at hm6
      by_cases h8 : 8 < (putL l b).length
      · have h8' : (8 : Int) < ((putL l b).length : Int) := by omega
        have hp : putS l b = ([], 4) := by unfold putS; rw [if_neg (by simp [HC.out]), if_neg (by simp [HE.out]), if_pos h8]
        have HP := Lib.hid hp
        clear hp
        go_wp2_with (at_builtin; refine wpList_append_own_at _ rfl _ _ _ rfl (Wc.heap.size) 29 i0 _ 3 32 Try.underlying22 hin hz0 hz1 hz2 rfl (by omega) vo _ _ rfl hown6 ⟨g6, 0, none⟩ _ cap6 _ rfl (flat_len blkC 3 blkC_len _) (fun j u hj => own_get ho6 rfl hj) (blk_one _) (by simp only [maxLen]; omega) (by omega) (by omega) ?_; intro v' w7 hown7 hg7 _ hat7; obtain ⟨⟨va, vcap, rfl⟩, hr7, hfr⟩ := HFin.out v' w7 _ hown7; have HFR := Lib.hid (hfr.mono (show w.heap.size ≤ Wc.heap.size by omega)); clear hown7 hfr; have H7 := Lib.hid hr7; have hB7 : Below w.heap.size w w7 := hB6.grown hg7 (by omega) (fun q hq => by have := (hown6.lt q hq).1; omega); clear hg7 hr7)
        go_ret2
        refine ⟨_, by rw [HP.out]; rfl, by rw [HP.out]; exact RBlks.nil _ _, (by repeat' (first | (with_reducible refine bset ?_ ?_) | (with_reducible exact Below.refl _ _) | (with_reducible assumption) | (with_reducible refine bdrewN ?_ _) | (with_reducible refine bdrew ?_) | (with_reducible refine balloc0 ?_) | (with_reducible refine balloc ?_ ?_) | (with_reducible apply btrans0; rotate_left; with_reducible assumption) | (with_reducible apply btrans; rotate_left; with_reducible assumption) | exact Below.refl _ _ | assumption | (apply btrans0; rotate_left; assumption) | (apply btrans; rotate_left; assumption) | (simp; done) | omega | (simp; omega))), RFrom.nil _⟩
      · have h8' : ¬ (8 : Int) < ((putL l b).length : Int) := by omega
        have hp : putS l b = (putL l b, 0) := by unfold putS; rw [if_neg (by simp [HC.out]), if_neg (by simp [HE.out]), if_neg h8]
        have HP := Lib.hid hp
        clear hp
        go_wp2_with (at_builtin; refine wpList_append_own_at _ rfl _ _ _ rfl (Wc.heap.size) 29 i0 _ 3 32 Try.underlying22 hin hz0 hz1 hz2 rfl (by omega) vo _ _ rfl hown6 ⟨g6, 0, none⟩ _ cap6 _ rfl (flat_len blkC 3 blkC_len _) (fun j u hj => own_get ho6 rfl hj) (blk_one _) (by simp only [maxLen]; omega) (by omega) (by omega) ?_; intro v' w7 hown7 hg7 _ hat7; obtain ⟨⟨va, vcap, rfl⟩, hr7, hfr⟩ := HFin.out v' w7 _ hown7; have HFR := Lib.hid (hfr.mono (show w.heap.size ≤ Wc.heap.size by omega)); clear hown7 hfr; have H7 := Lib.hid hr7; have hB7 : Below w.heap.size w w7 := hB6.grown hg7 (by omega) (fun q hq => by have := (hown6.lt q hq).1; omega); clear hg7 hr7)
        go_ret2
        refine ⟨_, by rw [HP.out]; rfl, by rw [HP.out]; exact H7.out, (by repeat' (first | (with_reducible refine bset ?_ ?_) | (with_reducible exact Below.refl _ _) | (with_reducible assumption) | (with_reducible refine bdrewN ?_ _) | (with_reducible refine bdrew ?_) | (with_reducible refine balloc0 ?_) | (with_reducible refine balloc ?_ ?_) | (with_reducible apply btrans0; rotate_left; with_reducible assumption) | (with_reducible apply btrans; rotate_left; with_reducible assumption) | exact Below.refl _ _ | assumption | (apply btrans0; rotate_left; assumption) | (apply btrans; rotate_left; assumption) | (simp; done) | omega | (simp; omega))), HFR.out⟩
end Go.Proofs.Ytdnbegcebloodaa

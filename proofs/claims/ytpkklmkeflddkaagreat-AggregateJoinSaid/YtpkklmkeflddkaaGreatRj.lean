/- Chapter 19, the reference: payload, Join. -/
import Derived.BigQuiet
import Derived.BigRegion
import Derived.Deep.DeepCutAuto
import Derived.Deep.CutBlock
import Derived.Test.YtpkklmkeflddkaaGreatQf
import Derived.Test.YtpkklmkeflddkaaGreatRT
import Derived.Test.YtpkklmkeflddkaaGreatJt
set_option linter.unusedVariables false
set_option linter.unusedSimpArgs false
namespace Go.Proofs.YtpkklmkeflddkaaGreat
open Go Go.RowKit
attribute [local go_sem] B_getElem B_size B_app B_extract B_get B_toList

attribute [local go_sem] bunC
set_option maxRecDepth 100000 in
set_option maxHeartbeats 4000000 in
theorem rpayload_any (l : List Bun) (v : Value) (w : World) (h : RBuns w w.heap.size v l) (hf : ∀ x ∈ l, Fits x) (hl : l.length ≤ 20000) :
    Calls Tryz.prog 20 #[v] w fun e w' => e = .returned (.string (B (payS l))) ∧ Below w.heap.size w w' := by
  have HF := Lib.hid hf
  obtain ⟨a, c, rfl, h1, h2, h3, h4⟩ := h
  unfold maxLen at h2
  have hlen : l.length ≤ 9223372036854775807 := by omega
  have H4 := Lib.hid h4
  clear h3 h4 hf
  have i1 := (intE_len (l.length : Int)).2
  obtain ⟨I, hI⟩ : ∃ q, intE (l.length : Int) = q := ⟨_, rfl⟩
  have HI := Lib.hid hI
  rw [hI] at i1
  clear hI
  go_enter Tryz.func20, Tryz.ntmps20
  go_wp2_with fail
  refine (rint_any (l.length : Int) _ (by omega) (by omega)).mono ?_
  rw [HI.out]
  rintro e w0 ⟨rfl, hb0⟩
  go_wp2
  go_loopw [5, 3] (fun i s wr => ∃ (k : Nat) (S : List UInt8), k ≤ l.length ∧ i = .int .i64 k ∧ s = .string (B S) ∧ Hid (S = I ++ (l.take k).flatMap (fun b => textE (bunR b))) ∧ Below w.heap.size w wr) (fun i _ _ => l.length - (intOf i).toNat)
  case atStart => exact ⟨0, I, Nat.zero_le _, rfl, rfl, Lib.hid (by simp), hb0⟩
  case round =>
    obtain ⟨k, S, hk, rfl, rfl, HS, hB⟩ := hrel
    have hSl : S.length ≤ 11 + 30011 * l.length := by
      have := congrArg List.length HS.out
      rw [List.length_append] at this
      have := pay_take l k
      omega
    by_cases hlt : k < l.length
    · skip
      obtain ⟨bb, o, rfl, hbn, hcell⟩ := H4.out (by omega)
      obtain ⟨x, hx⟩ : ∃ x, l[k]? = some x := ⟨_, List.getElem?_eq_getElem hlt⟩
      obtain ⟨ux, hc, hub⟩ := hcell k x hx
      have q0 : wr.cell? ⟨bb, o + k * 12, none⟩ = some (.int .i64 x.src) := (hB.cell (p := ⟨bb, o + k * 12 + 0, none⟩) hbn).trans (hc 0 _ rfl)
      have q1 : wr.cell? ⟨bb, o + k * 12 + 1, none⟩ = some (.int .i64 x.crt) := (hB.cell (p := ⟨bb, o + k * 12 + 1, none⟩) hbn).trans (hc 1 _ rfl)
      have q2 : wr.cell? ⟨bb, o + k * 12 + 2, none⟩ = some (.int .i64 x.seq) := (hB.cell (p := ⟨bb, o + k * 12 + 2, none⟩) hbn).trans (hc 2 _ rfl)
      have q3 : wr.cell? ⟨bb, o + k * 12 + 3, none⟩ = some (.int .i64 x.off) := (hB.cell (p := ⟨bb, o + k * 12 + 3, none⟩) hbn).trans (hc 3 _ rfl)
      have q4 : wr.cell? ⟨bb, o + k * 12 + 4, none⟩ = some (.int .i64 x.tot) := (hB.cell (p := ⟨bb, o + k * 12 + 4, none⟩) hbn).trans (hc 4 _ rfl)
      have q5 : wr.cell? ⟨bb, o + k * 12 + 5, none⟩ = some (.int .i64 x.dk) := (hB.cell (p := ⟨bb, o + k * 12 + 5, none⟩) hbn).trans (hc 5 _ rfl)
      have q6 : wr.cell? ⟨bb, o + k * 12 + 6, none⟩ = some (.int .i64 x.dn) := (hB.cell (p := ⟨bb, o + k * 12 + 6, none⟩) hbn).trans (hc 6 _ rfl)
      have q7 : wr.cell? ⟨bb, o + k * 12 + 7, none⟩ = some (.int .i64 x.life) := (hB.cell (p := ⟨bb, o + k * 12 + 7, none⟩) hbn).trans (hc 7 _ rfl)
      have q8 : wr.cell? ⟨bb, o + k * 12 + 8, none⟩ = some (.int .i64 x.prio) := (hB.cell (p := ⟨bb, o + k * 12 + 8, none⟩) hbn).trans (hc 8 _ rfl)
      have q9 : wr.cell? ⟨bb, o + k * 12 + 9, none⟩ = some (.int .i64 x.flags) := (hB.cell (p := ⟨bb, o + k * 12 + 9, none⟩) hbn).trans (hc 9 _ rfl)
      have q10 : wr.cell? ⟨bb, o + k * 12 + 10, none⟩ = some (ux) := (hB.cell (p := ⟨bb, o + k * 12 + 10, none⟩) hbn).trans (hc 10 _ rfl)
      have q11 : wr.cell? ⟨bb, o + k * 12 + 11, none⟩ = some (.string (B x.payload)) := (hB.cell (p := ⟨bb, o + k * 12 + 11, none⟩) hbn).trans (hc 11 _ rfl)
      have HUB := Lib.hid (hub.below hB (Nat.le_refl _) hB.size)
      obtain ⟨xa, xc, rfl, _⟩ := id hub
      have k0 : (0 : Int) ≤ (k : Int) := by omega
      have k1 : (k : Int) < (l.length : Int) := by omega
      have HX := Lib.hid hx
      have hsz := hB.size
      clear hc hub hx hcell
      have HFX := Lib.hid (HF.out x (List.mem_of_getElem? HX.out))
      have b1 := bunR_len x
      have b2 := (textE_len (bunR x)).2
      obtain ⟨R, hR⟩ : ∃ q, bunR x = q := ⟨_, rfl⟩
      rw [hR] at b1 b2
      have HRR := Lib.hid hR
      obtain ⟨T, hT⟩ : ∃ q, textE R = q := ⟨_, rfl⟩
      rw [hT] at b2
      have HT := Lib.hid hT
      have hcat : ¬ 9223372036854775807 < S.length + T.length := by omega
      have HS2 : Hid (S ++ T = I ++ (l.take (k + 1)).flatMap (fun b => textE (bunR b))) := Lib.hid (by rw [List.take_add_one, HX.out, HS.out, ← HT.out, ← HRR.out]; simp)
      obtain ⟨CE, hCE⟩ : ∃ q, chkE x = q := ⟨_, rfl⟩
      have HCE := Lib.hid hCE
      clear hR hT hCE
      go_wp2_with fail
      refine (rbunEncode_any x _ _ (HUB.out.below' (Below.refl _ _)) HFX.out).mono ?_
      rw [HRR.out, HCE.out]
      rintro e w1 ⟨rfl, hb1⟩
      have hB1 : Below w.heap.size w w1 := btrans0 hB hb1
      clear hb1
      go_wp2_with fail
      refine (rtext_ok R _ (by omega)).mono ?_
      rw [HT.out]
      rintro e w2 ⟨rfl, hb2⟩
      have hB2 : Below w.heap.size w w2 := btrans0 hB1 hb2
      clear hb2
      go_wp2
      go_roundw
      case rel => exact ⟨k + 1, S ++ T, by omega, by go_num, rfl, HS2, hB2⟩
      case measure => simp [intOf]; omega
    · obtain rfl : k = l.length := by omega
      have HSs : Hid (payS l = S) := Lib.hid (by unfold payS; rw [HI.out, HS.out, List.take_length])
      go_wp2
      go_ret
      rw [HSs.out]
      exact ⟨rfl, hB⟩
theorem joinS_rj (l : List Bun) (seq : Int) : joinS l seq = if rjS l seq ≠ 0 then (zBun, rjS l seq) else if 4096 < (payS l).length then (zBun, 4) else match l with
    | [] => (zBun, 20)
    | y :: r => (⟨y.src, crtS l, seq, 0, 0, y.dk, y.dn, endS l - crtS l, y.prio, joinF l, [], payS l⟩, 0) := by
  unfold joinS rjS
  by_cases c1 : chkJ l = 0
  · by_cases c2 : seq < 0 ∨ 1099511627776 < seq
    · simp [c1, c2]
    · by_cases c3 : crtS l < endS l
      · simp [c1, c2, c3]; rfl
      · simp [c1, c2, c3]
  · simp [c1]
theorem flag_rem1 (f : Int) (h1 : 0 ≤ f) (h2 : f ≤ 127) : (f.tmod 2 == 1) = hasF f 1 := by
  obtain ⟨n, rfl⟩ := Int.eq_ofNat_of_zero_le h1
  have h : ∀ n : Fin 128, ((n.val : Int).tmod 2 == 1) = hasF (n.val : Int) 1 := by decide +kernel
  exact h ⟨n, by omega⟩
theorem joinF_step2 {l : List Bun} {k : Nat} {x : Bun} (h : l[k]? = some x) : joinF (l.take (k + 1)) = if custB x = true then 65 else joinF (l.take k) := by
  unfold joinF
  rw [List.take_add_one, h]
  simp only [Option.toList, List.any_append, List.any_cons, List.any_nil, Bool.or_false]
  cases (l.take k).any custB <;> cases custB x <;> rfl
set_option maxRecDepth 100000 in
set_option maxHeartbeats 16000000 in
theorem rjoin_any (l : List Bun) (v : Value) (seq : Int) (w : World) (h : RBuns w w.heap.size v l) (hf : ∀ x ∈ l, Fits x) (hl : l.length ≤ 20000) :
    Calls Tryz.prog 7 #[v, .int .i64 seq] w (JoinPost (joinS l seq) w) := by
  have HR := Lib.hid h
  have HF := Lib.hid hf
  obtain ⟨a, c, rfl, _, _, _, h4⟩ := id h
  have H4 := Lib.hid h4
  obtain ⟨S, hS⟩ : ∃ q, joinS l seq = q := ⟨_, rfl⟩
  rw [hS]
  obtain ⟨J, hJ⟩ : ∃ q, rjS l seq = q := ⟨_, rfl⟩
  obtain ⟨P, hP⟩ : ∃ q, payS l = q := ⟨_, rfl⟩
  have HJ := Lib.hid hJ
  have HP := Lib.hid hP
  have hS1 := joinS_rj l seq
  rw [hS, hJ, hP] at hS1
  clear h hf h4 hS hP
  by_cases j0 : J = 0
  case neg =>
    rw [if_pos j0] at hS1
    subst hS1
    have j1 : (J != 0) = true := by rw [bne_iff_ne]; exact j0
    clear hJ j0
    go_enter Tryz.func7, Tryz.ntmps7
    go_wp2_with fail
    refine (joinable_any l _ seq _ (HR.out.below'' (balloc0 (Below.refl _ _))) HF.out).mono ?_
    rw [HJ.out]
    rintro e w1 ⟨rfl, hb1⟩
    have b1 : Below w.heap.size w w1 := btrans0 (balloc0 (Below.refl _ _)) hb1
    have z1 : w.heap.size < w1.heap.size := by have := hb1.size; (try simp at this); omega
    have R1 : Hid (w1.heap[w.heap.size]? = some (.cells #[.int .i64 0, .int .i64 0, .int .i64 0, .int .i64 0, .int .i64 0, .int .i64 0, .int .i64 0, .int .i64 0, .int .i64 0, .int .i64 0, .slice none 0 0, .string ⟨#[]⟩] 31 (0, 0))) := Lib.hid ((hb1.block _ (by simp)).trans heap_new)
    have cr := fun o => cellB R1.out o
    have fr := fun o => frozenB R1.out o
    clear hb1
    go_wp2_with fail
    refine bodyPost_ret (v := .tuple #[.agg #[.int .i64 0, .int .i64 0, .int .i64 0, .int .i64 0, .int .i64 0, .int .i64 0, .int .i64 0, .int .i64 0, .int .i64 0, .int .i64 0, .slice none 0 0, .string ⟨#[]⟩], .int .i64 J]) (by simp [results, Tryz.results7, go_sem, World.cell?_setCell_same', cr, z1]) rfl ?_
    unfold JoinPost
    exact ⟨rfl, (by repeat' (first | with_reducible (first | refine bset ?_ ?_ | exact Below.refl _ _ | assumption | refine bdrewN ?_ _ | refine bdrew ?_ | refine balloc0 ?_ | refine balloc ?_ ?_ | (apply btrans0; rotate_left; assumption) | (apply btrans; rotate_left; assumption)) | exact Below.refl _ _ | assumption | (apply btrans0; rotate_left; assumption) | (apply btrans; rotate_left; assumption) | (simp; done) | omega | (simp; omega)))⟩
  rw [if_neg (by simpa using j0)] at hS1
  subst j0
  by_cases rp : 4096 < P.length
  · rw [if_pos rp] at hS1
    subst hS1
    have rp2 : (4096 : Int) < (P.length : Int) := by omega
    clear hJ rp
    go_enter Tryz.func7, Tryz.ntmps7
    go_wp2_with fail
    refine (joinable_any l _ seq _ (HR.out.below'' (balloc0 (Below.refl _ _))) HF.out).mono ?_
    rw [HJ.out]
    rintro e w1 ⟨rfl, hb1⟩
    have b1 : Below w.heap.size w w1 := btrans0 (balloc0 (Below.refl _ _)) hb1
    have z1 : w.heap.size < w1.heap.size := by have := hb1.size; (try simp at this); omega
    have R1 : Hid (w1.heap[w.heap.size]? = some (.cells #[.int .i64 0, .int .i64 0, .int .i64 0, .int .i64 0, .int .i64 0, .int .i64 0, .int .i64 0, .int .i64 0, .int .i64 0, .int .i64 0, .slice none 0 0, .string ⟨#[]⟩] 31 (0, 0))) := Lib.hid ((hb1.block _ (by simp)).trans heap_new)
    have cr := fun o => cellB R1.out o
    have fr := fun o => frozenB R1.out o
    clear hb1
    go_wp2_with fail
    refine (rpayload_any l _ _ (HR.out.below'' b1) HF.out hl).mono ?_
    rw [HP.out]
    rintro e w2 ⟨rfl, hb2⟩
    have b2 : Below w.heap.size w w2 := btrans0 b1 hb2
    have z2 : w.heap.size < w2.heap.size := by have := hb2.size; (try simp at this); omega
    have R2 : Hid (w2.heap[w.heap.size]? = some (.cells #[.int .i64 0, .int .i64 0, .int .i64 0, .int .i64 0, .int .i64 0, .int .i64 0, .int .i64 0, .int .i64 0, .int .i64 0, .int .i64 0, .slice none 0 0, .string ⟨#[]⟩] 31 (0, 0))) := Lib.hid ((hb2.block _ z1).trans R1.out)
    clear cr fr
    have cr := fun o => cellB R2.out o
    have fr := fun o => frozenB R2.out o
    clear hb2
    go_wp2_with fail
    refine bodyPost_ret (v := .tuple #[.agg #[.int .i64 0, .int .i64 0, .int .i64 0, .int .i64 0, .int .i64 0, .int .i64 0, .int .i64 0, .int .i64 0, .int .i64 0, .int .i64 0, .slice none 0 0, .string ⟨#[]⟩], .int .i64 4]) (by simp [results, Tryz.results7, go_sem, World.cell?_setCell_same', cr, z2]) rfl ?_
    unfold JoinPost
    exact ⟨rfl, (by repeat' (first | with_reducible (first | refine bset ?_ ?_ | exact Below.refl _ _ | assumption | refine bdrewN ?_ _ | refine bdrew ?_ | refine balloc0 ?_ | refine balloc ?_ ?_ | (apply btrans0; rotate_left; assumption) | (apply btrans; rotate_left; assumption)) | exact Below.refl _ _ | assumption | (apply btrans0; rotate_left; assumption) | (apply btrans; rotate_left; assumption) | (simp; done) | omega | (simp; omega)))⟩
  rw [if_neg rp] at hS1
  have rp2 : ¬ (4096 : Int) < (P.length : Int) := by omega
  have hc0 : chkJ l = 0 := by
    unfold rjS at hJ
    by_cases c1 : chkJ l = 0
    · exact c1
    · rw [if_pos c1] at hJ; exact hJ
  obtain ⟨C, hC⟩ : ∃ q, crtS l = q := ⟨_, rfl⟩
  obtain ⟨E, hE⟩ : ∃ q, endS l = q := ⟨_, rfl⟩
  rw [hC, hE] at hS1
  have HC := Lib.hid hC
  have HE := Lib.hid hE
  obtain ⟨y, rr, hly, hall, _, _⟩ := chkJ_zero hc0
  have htr := times_range hall
  rw [hC, hE] at htr
  obtain ⟨t1, t2, t3, t4⟩ := htr
  have HALL := Lib.hid hall
  have hlp : 0 < l.length := by rw [hly]; simp
  have hl0 : l[0]? = some y := by rw [hly]; rfl
  have HS : Hid ((⟨y.src, C, seq, 0, 0, y.dk, y.dn, E - C, y.prio, joinF l, [], P⟩, 0) = S) := Lib.hid (by rw [hS1, hly])
  have HL0 := Lib.hid hl0
  have hlI : (0 : Int) < (l.length : Int) := by omega
  have hEC : IntKind.i64.wrap (E - C) = E - C := by rw [IntKind.wrap_i64]; omega
  clear hS1 hly hl0 hJ hC hE rp hall hc0
  go_enter Tryz.func7, Tryz.ntmps7
  go_wp2_with fail
  refine (joinable_any l _ seq _ (HR.out.below'' (balloc0 (Below.refl _ _))) HF.out).mono ?_
  rw [HJ.out]
  rintro e w1 ⟨rfl, hb1⟩
  have b1 : Below w.heap.size w w1 := btrans0 (balloc0 (Below.refl _ _)) hb1
  have z1 : w.heap.size < w1.heap.size := by have := hb1.size; (try simp at this); omega
  have R1 : Hid (w1.heap[w.heap.size]? = some (.cells #[.int .i64 0, .int .i64 0, .int .i64 0, .int .i64 0, .int .i64 0, .int .i64 0, .int .i64 0, .int .i64 0, .int .i64 0, .int .i64 0, .slice none 0 0, .string ⟨#[]⟩] 31 (0, 0))) := Lib.hid ((hb1.block _ (by simp)).trans heap_new)
  have cr := fun o => cellB R1.out o
  have fr := fun o => frozenB R1.out o
  clear hb1
  go_wp2_with fail
  refine (rpayload_any l _ _ (HR.out.below'' b1) HF.out hl).mono ?_
  rw [HP.out]
  rintro e w2 ⟨rfl, hb2⟩
  have b2 : Below w.heap.size w w2 := btrans0 b1 hb2
  have z2 : w.heap.size < w2.heap.size := by have := hb2.size; (try simp at this); omega
  have R2 : Hid (w2.heap[w.heap.size]? = some (.cells #[.int .i64 0, .int .i64 0, .int .i64 0, .int .i64 0, .int .i64 0, .int .i64 0, .int .i64 0, .int .i64 0, .int .i64 0, .int .i64 0, .slice none 0 0, .string ⟨#[]⟩] 31 (0, 0))) := Lib.hid ((hb2.block _ z1).trans R1.out)
  clear cr fr
  have cr := fun o => cellB R2.out o
  have fr := fun o => frozenB R2.out o
  clear hb2
  obtain ⟨bb, o, rfl, hbn, hcell⟩ := H4.out hlp
  obtain ⟨uy, hcy, huy⟩ := hcell 0 y HL0.out
  have p0 : w2.cell? ⟨bb, o, none⟩ = some (.int .i64 y.src) := by have := (b2.cell (p := ⟨bb, o + 0 * 12 + 0, none⟩) hbn).trans (hcy 0 _ rfl); simpa using this
  have p5 : w2.cell? ⟨bb, o + 5, none⟩ = some (.int .i64 y.dk) := by have := (b2.cell (p := ⟨bb, o + 0 * 12 + 5, none⟩) hbn).trans (hcy 5 _ rfl); simpa using this
  have p6 : w2.cell? ⟨bb, o + 6, none⟩ = some (.int .i64 y.dn) := by have := (b2.cell (p := ⟨bb, o + 0 * 12 + 6, none⟩) hbn).trans (hcy 6 _ rfl); simpa using this
  have p8 : w2.cell? ⟨bb, o + 8, none⟩ = some (.int .i64 y.prio) := by have := (b2.cell (p := ⟨bb, o + 0 * 12 + 8, none⟩) hbn).trans (hcy 8 _ rfl); simpa using this
  have zbb : bb < w2.heap.size := by have := b2.size; omega
  have HR2 := Lib.hid (HR.out.below'' b2)
  clear hcell hcy huy cr fr
  go_upto_region 7 with fail
  go_cut [8] (fun s8 wx => ∃ g : Nat, s8 = .pointer (some ⟨g, 0, none⟩) ∧ w.heap.size < g ∧ wx.heap[g]? = some (.cells #[.int .i64 y.src, .int .i64 C, .int .i64 seq, .int .i64 0, .int .i64 0, .int .i64 y.dk, .int .i64 y.dn, .int .i64 (E - C), .int .i64 y.prio, .int .i64 64, .slice none 0 0, .string (B P)] 31 (0, 0)) ∧ wx.heap[w.heap.size]? = some (.cells #[.int .i64 0, .int .i64 0, .int .i64 0, .int .i64 0, .int .i64 0, .int .i64 0, .int .i64 0, .int .i64 0, .int .i64 0, .int .i64 0, .slice none 0 0, .string ⟨#[]⟩] 31 (0, 0)) ∧ Below w.heap.size w wx)
  case first =>
    refine wp_region_tree (fun V => Below w2.heap.size w2 V) [0, 0, 0, 0, 1, 0, 2, 0, 0, 0, 0, 0, 1, 0, 2, 0, 2, 0, 0, 0, 0, 1, 0, 0, 2, 3] (.go 0 (.go 1 (.go 2 (.go 3 (.go 4 (.go 5 (.go 7 (.go 9 (.go 10 (.go 11 (.go 12 (.go 13 (.go 15 (.go 18 (.go 19 (.go 20 (.go 21 (.go 22 (.br2 6 24 (.go 8 (.br2 14 24 (.br2 16 24 (.go 17 (.go 23 (.go 24 (.go 25 .fin)))) (.go 16 (.go 17 (.go 23 (.go 25 .fin))))) (.go 14 (.go 16 (.go 17 (.go 23 (.go 25 .fin))))))) (.go 6 (.go 8 (.go 14 (.go 16 (.go 17 (.go 23 (.go 25 .fin)))))))))))))))))))))))))) (by kernel_rfl) (by kernel_rfl) ?_ ?_
    case refine_1 => exact (by repeat' (first | with_reducible (first | refine bset ?_ ?_ | exact Below.refl _ _ | assumption | refine bdrewN ?_ _ | refine bdrew ?_ | refine balloc0 ?_ | refine balloc ?_ ?_ | (apply btrans0; rotate_left; assumption) | (apply btrans; rotate_left; assumption)) | exact Below.refl _ _ | assumption | (apply btrans0; rotate_left; assumption) | (apply btrans; rotate_left; assumption) | (simp; done) | omega | (simp; omega)))
    (iterate 18 (refine tree_held rfl (by decide) (by rfl) (fun w1 hS => by (try (obtain ⟨_, _⟩ := bcell (hS rfl))); go_simp; rfl) ?_; (try simp only [Act.put, List.setIfInBounds_toArray, List.set_cons_zero, List.set_cons_succ])))
    refine ⟨?_, ?_⟩
    · refine tree_op rfl (by rfl) (fun K hK => ?_)
      go_simp
      refine (created_any l _ _ (HR2.out.below'' (by repeat' (first | with_reducible (first | refine bset ?_ ?_ | exact Below.refl _ _ | assumption | refine bdrewN ?_ _ | refine bdrew ?_ | refine balloc0 ?_ | refine balloc ?_ ?_ | (apply btrans0; rotate_left; assumption) | (apply btrans; rotate_left; assumption)) | exact Below.refl _ _ | assumption | (apply btrans0; rotate_left; assumption) | (apply btrans; rotate_left; assumption) | (simp; done) | omega | (simp; omega)))) HF.out).mono ?_
      rw [HC.out]
      rintro e w2x ⟨rfl, hbw2x⟩
      refine hK _ _ (by repeat' (first | with_reducible (first | refine bset ?_ ?_ | exact Below.refl _ _ | assumption | refine bdrewN ?_ _ | refine bdrew ?_ | refine balloc0 ?_ | refine balloc ?_ ?_ | (apply btrans0; rotate_left; assumption) | (apply btrans; rotate_left; assumption)) | exact Below.refl _ _ | assumption | (apply btrans0; rotate_left; assumption) | (apply btrans; rotate_left; assumption) | (simp; done) | omega | (simp; omega))) ?_
      clear hK K
      (try simp only [Act.put, List.setIfInBounds_toArray, List.set_cons_zero, List.set_cons_succ])
      (refine tree_held rfl (by decide) (by rfl) (fun w1 hS => by (try (obtain ⟨_, _⟩ := bcell (hS rfl))); go_simp; rfl) ?_; (try simp only [Act.put, List.setIfInBounds_toArray, List.set_cons_zero, List.set_cons_succ]))
      refine ⟨?_, ?_⟩
      · refine tree_op rfl (by rfl) (fun K hK => ?_)
        go_simp
        refine (ends_any l _ _ (HR2.out.below'' (by repeat' (first | with_reducible (first | refine bset ?_ ?_ | exact Below.refl _ _ | assumption | refine bdrewN ?_ _ | refine bdrew ?_ | refine balloc0 ?_ | refine balloc ?_ ?_ | (apply btrans0; rotate_left; assumption) | (apply btrans; rotate_left; assumption)) | exact Below.refl _ _ | assumption | (apply btrans0; rotate_left; assumption) | (apply btrans; rotate_left; assumption) | (simp; done) | omega | (simp; omega)))) HF.out hlp HALL.out).mono ?_
        rw [HE.out]
        rintro e w2xy ⟨rfl, hbw2xy⟩
        refine hK _ _ (by repeat' (first | with_reducible (first | refine bset ?_ ?_ | exact Below.refl _ _ | assumption | refine bdrewN ?_ _ | refine bdrew ?_ | refine balloc0 ?_ | refine balloc ?_ ?_ | (apply btrans0; rotate_left; assumption) | (apply btrans; rotate_left; assumption)) | exact Below.refl _ _ | assumption | (apply btrans0; rotate_left; assumption) | (apply btrans; rotate_left; assumption) | (simp; done) | omega | (simp; omega))) ?_
        clear hK K
        (try simp only [Act.put, List.setIfInBounds_toArray, List.set_cons_zero, List.set_cons_succ])
        refine ⟨?_, ?_⟩
        · refine tree_op rfl (by rfl) (fun K hK => ?_)
          go_simp
          refine (created_any l _ _ (HR2.out.below'' (by repeat' (first | with_reducible (first | refine bset ?_ ?_ | exact Below.refl _ _ | assumption | refine bdrewN ?_ _ | refine bdrew ?_ | refine balloc0 ?_ | refine balloc ?_ ?_ | (apply btrans0; rotate_left; assumption) | (apply btrans; rotate_left; assumption)) | exact Below.refl _ _ | assumption | (apply btrans0; rotate_left; assumption) | (apply btrans; rotate_left; assumption) | (simp; done) | omega | (simp; omega)))) HF.out).mono ?_
          rw [HC.out]
          rintro e w2xyz ⟨rfl, hbw2xyz⟩
          refine hK _ _ (by repeat' (first | with_reducible (first | refine bset ?_ ?_ | exact Below.refl _ _ | assumption | refine bdrewN ?_ _ | refine bdrew ?_ | refine balloc0 ?_ | refine balloc ?_ ?_ | (apply btrans0; rotate_left; assumption) | (apply btrans; rotate_left; assumption)) | exact Below.refl _ _ | assumption | (apply btrans0; rotate_left; assumption) | (apply btrans; rotate_left; assumption) | (simp; done) | omega | (simp; omega))) ?_
          clear hK K
          (try simp only [Act.put, List.setIfInBounds_toArray, List.set_cons_zero, List.set_cons_succ])
          (refine tree_held rfl (by decide) (by rfl) (fun w1 hS => by (try (obtain ⟨_, _⟩ := bcell (hS rfl))); go_simp; rfl) ?_; (try simp only [Act.put, List.setIfInBounds_toArray, List.set_cons_zero, List.set_cons_succ]))
          (refine tree_held rfl (by decide) (by rfl) (fun w1 hS => by (try (obtain ⟨_, _⟩ := bcell (hS rfl))); go_simp; rfl) ?_; (try simp only [Act.put, List.setIfInBounds_toArray, List.set_cons_zero, List.set_cons_succ]))
          refine tree_keep rfl rfl (by rfl) (fun K hK => ?_)
          go_simp
          obtain ⟨w2xyza, hww2xyza⟩ : ∃ q, w2xyz.alloc (.cells #[.int .i64 0, .int .i64 0, .int .i64 0, .int .i64 0, .int .i64 0, .int .i64 0, .int .i64 0, .int .i64 0, .int .i64 0, .int .i64 0, .slice none 0 0, .string ⟨#[]⟩] 31) = q := ⟨_, rfl⟩
          rw [hww2xyza]
          have nw2xyza : w2xyza.heap[w2xyz.heap.size]? = some (.cells #[.int .i64 0, .int .i64 0, .int .i64 0, .int .i64 0, .int .i64 0, .int .i64 0, .int .i64 0, .int .i64 0, .int .i64 0, .int .i64 0, .slice none 0 0, .string ⟨#[]⟩] 31 (0, 0)) := by rw [← hww2xyza]; exact heap_new
          have hbw2xyza : Below w2xyz.heap.size w2xyz w2xyza := by rw [← hww2xyza]; exact balloc0 (Below.refl _ _)
          have zgw2xyza : w2.heap.size ≤ w2xyz.heap.size := Below.size (show Below w2.heap.size w2 w2xyz from (by repeat' (first | with_reducible (first | refine bset ?_ ?_ | exact Below.refl _ _ | assumption | refine bdrewN ?_ _ | refine bdrew ?_ | refine balloc0 ?_ | refine balloc ?_ ?_ | (apply btrans0; rotate_left; assumption) | (apply btrans; rotate_left; assumption)) | exact Below.refl _ _ | assumption | (apply btrans0; rotate_left; assumption) | (apply btrans; rotate_left; assumption) | (simp; done) | omega | (simp; omega))))
          obtain ⟨g, hg⟩ : ∃ q, w2xyz.heap.size = q := ⟨_, rfl⟩
          have zhw2xyza : w2.heap.size ≤ g := by omega
          rw [hg] at nw2xyza ⊢
          clear hg hww2xyza
          have NG := Lib.hid nw2xyza
          refine hK _ _ (by repeat' (first | with_reducible (first | refine bset ?_ ?_ | exact Below.refl _ _ | assumption | refine bdrewN ?_ _ | refine bdrew ?_ | refine balloc0 ?_ | refine balloc ?_ ?_ | (apply btrans0; rotate_left; assumption) | (apply btrans; rotate_left; assumption)) | exact Below.refl _ _ | assumption | (apply btrans0; rotate_left; assumption) | (apply btrans; rotate_left; assumption) | (simp; done) | omega | (simp; omega))) ?_
          clear hK K
          (try simp only [Act.put, List.setIfInBounds_toArray, List.set_cons_zero, List.set_cons_succ])
          as_aux_lemma =>
            (try simp only [hEC])
            refine tree_late rfl rfl (by rfl) (fun K hK => ?_)
            refine wp_store_block 31 _ _ rfl g #[.int .i64 y.src, .int .i64 C, .int .i64 seq, .int .i64 0, .int .i64 0, .int .i64 y.dk, .int .i64 y.dn, .int .i64 (E - C), .int .i64 y.prio, .int .i64 64, .slice none 0 0, .string (B P)] #[.int .i64 0, .int .i64 0, .int .i64 0, .int .i64 0, .int .i64 0, .int .i64 0, .int .i64 0, .int .i64 0, .int .i64 0, .int .i64 0, .slice none 0 0, .string ⟨#[]⟩] 31 rfl rfl NG.out rfl (by kernel_rfl) (by simp [Value.oneCell']) ?_
            intro Wf hWf hbWf hsWf hoWf
            have hbC : Below w2.heap.size w2 w2xyza := (by repeat' (first | with_reducible (first | refine bset ?_ ?_ | exact Below.refl _ _ | assumption | refine bdrewN ?_ _ | refine bdrew ?_ | refine balloc0 ?_ | refine balloc ?_ ?_ | (apply btrans0; rotate_left; assumption) | (apply btrans; rotate_left; assumption)) | exact Below.refl _ _ | assumption | (apply btrans0; rotate_left; assumption) | (apply btrans; rotate_left; assumption) | (simp; done) | omega | (simp; omega)))
            have hB4 : Below w2.heap.size w2 Wf := hbC.trans (hbWf _ (by omega))
            have b4 : Below w.heap.size w Wf := b2.trans (hB4.mono b2.size)
            have HW4 := Lib.hid hWf
            have HZ4 : Hid (Wf.heap[w.heap.size]? = some (.cells #[.int .i64 0, .int .i64 0, .int .i64 0, .int .i64 0, .int .i64 0, .int .i64 0, .int .i64 0, .int .i64 0, .int .i64 0, .int .i64 0, .slice none 0 0, .string ⟨#[]⟩] 31 (0, 0))) := Lib.hid ((hB4.block _ z2).trans R2.out)
            have zgg : w.heap.size < g := by omega
            refine hK _ _ ?_
            clear hK K hWf hbWf hsWf hoWf hbC p0 p5 p6 p8 NG
            (try simp only [Act.put, List.setIfInBounds_toArray, List.set_cons_zero, List.set_cons_succ])
            refine tree_fin ?_
            go_wp2_with fail
            go_meet
            exact ⟨g, rfl, zgg, HW4.out, HZ4.out, b4⟩
        · refine tree_op rfl (by rfl) (fun K hK => ?_)
          go_simp
          obtain ⟨w2xya, hww2xya⟩ : ∃ q, w2xy.alloc (.cells #[.int .i64 0, .int .i64 0, .int .i64 0, .int .i64 0, .int .i64 0, .int .i64 0, .int .i64 0, .int .i64 0, .int .i64 0, .int .i64 0, .slice none 0 0, .string ⟨#[]⟩] 31) = q := ⟨_, rfl⟩
          rw [hww2xya]
          have nw2xya : w2xya.heap[w2xy.heap.size]? = some (.cells #[.int .i64 0, .int .i64 0, .int .i64 0, .int .i64 0, .int .i64 0, .int .i64 0, .int .i64 0, .int .i64 0, .int .i64 0, .int .i64 0, .slice none 0 0, .string ⟨#[]⟩] 31 (0, 0)) := by rw [← hww2xya]; exact heap_new
          have hbw2xya : Below w2xy.heap.size w2xy w2xya := by rw [← hww2xya]; exact balloc0 (Below.refl _ _)
          have zgw2xya : w2.heap.size ≤ w2xy.heap.size := Below.size (show Below w2.heap.size w2 w2xy from (by repeat' (first | with_reducible (first | refine bset ?_ ?_ | exact Below.refl _ _ | assumption | refine bdrewN ?_ _ | refine bdrew ?_ | refine balloc0 ?_ | refine balloc ?_ ?_ | (apply btrans0; rotate_left; assumption) | (apply btrans; rotate_left; assumption)) | exact Below.refl _ _ | assumption | (apply btrans0; rotate_left; assumption) | (apply btrans; rotate_left; assumption) | (simp; done) | omega | (simp; omega))))
          obtain ⟨g, hg⟩ : ∃ q, w2xy.heap.size = q := ⟨_, rfl⟩
          have zhw2xya : w2.heap.size ≤ g := by omega
          rw [hg] at nw2xya ⊢
          clear hg hww2xya
          have NG := Lib.hid nw2xya
          refine hK _ _ (by repeat' (first | with_reducible (first | refine bset ?_ ?_ | exact Below.refl _ _ | assumption | refine bdrewN ?_ _ | refine bdrew ?_ | refine balloc0 ?_ | refine balloc ?_ ?_ | (apply btrans0; rotate_left; assumption) | (apply btrans; rotate_left; assumption)) | exact Below.refl _ _ | assumption | (apply btrans0; rotate_left; assumption) | (apply btrans; rotate_left; assumption) | (simp; done) | omega | (simp; omega))) ?_
          clear hK K
          (try simp only [Act.put, List.setIfInBounds_toArray, List.set_cons_zero, List.set_cons_succ])
          refine tree_keep rfl rfl (by rfl) (fun K hK => ?_)
          go_simp
          refine (created_any l _ _ (HR2.out.below'' (by repeat' (first | with_reducible (first | refine bset ?_ ?_ | exact Below.refl _ _ | assumption | refine bdrewN ?_ _ | refine bdrew ?_ | refine balloc0 ?_ | refine balloc ?_ ?_ | (apply btrans0; rotate_left; assumption) | (apply btrans; rotate_left; assumption)) | exact Below.refl _ _ | assumption | (apply btrans0; rotate_left; assumption) | (apply btrans; rotate_left; assumption) | (simp; done) | omega | (simp; omega)))) HF.out).mono ?_
          rw [HC.out]
          rintro e w2xyaz ⟨rfl, hbw2xyaz⟩
          have nw2xyaz : w2xyaz.heap[g]? = some (.cells #[.int .i64 0, .int .i64 0, .int .i64 0, .int .i64 0, .int .i64 0, .int .i64 0, .int .i64 0, .int .i64 0, .int .i64 0, .int .i64 0, .slice none 0 0, .string ⟨#[]⟩] 31 (0, 0)) := (hbw2xyaz.block _ (Array.getElem?_eq_some_iff.1 NG.out).1).trans NG.out
          replace NG := Lib.hid nw2xyaz
          refine hK _ _ (by repeat' (first | with_reducible (first | refine bset ?_ ?_ | exact Below.refl _ _ | assumption | refine bdrewN ?_ _ | refine bdrew ?_ | refine balloc0 ?_ | refine balloc ?_ ?_ | (apply btrans0; rotate_left; assumption) | (apply btrans; rotate_left; assumption)) | exact Below.refl _ _ | assumption | (apply btrans0; rotate_left; assumption) | (apply btrans; rotate_left; assumption) | (simp; done) | omega | (simp; omega))) ?_
          clear hK K
          (try simp only [Act.put, List.setIfInBounds_toArray, List.set_cons_zero, List.set_cons_succ])
          (refine tree_held rfl (by decide) (by rfl) (fun w1 hS => by (try (obtain ⟨_, _⟩ := bcell (hS rfl))); go_simp; rfl) ?_; (try simp only [Act.put, List.setIfInBounds_toArray, List.set_cons_zero, List.set_cons_succ]))
          (refine tree_held rfl (by decide) (by rfl) (fun w1 hS => by (try (obtain ⟨_, _⟩ := bcell (hS rfl))); go_simp; rfl) ?_; (try simp only [Act.put, List.setIfInBounds_toArray, List.set_cons_zero, List.set_cons_succ]))
          as_aux_lemma =>
            (try simp only [hEC])
            refine tree_late rfl rfl (by rfl) (fun K hK => ?_)
            refine wp_store_block 31 _ _ rfl g #[.int .i64 y.src, .int .i64 C, .int .i64 seq, .int .i64 0, .int .i64 0, .int .i64 y.dk, .int .i64 y.dn, .int .i64 (E - C), .int .i64 y.prio, .int .i64 64, .slice none 0 0, .string (B P)] #[.int .i64 0, .int .i64 0, .int .i64 0, .int .i64 0, .int .i64 0, .int .i64 0, .int .i64 0, .int .i64 0, .int .i64 0, .int .i64 0, .slice none 0 0, .string ⟨#[]⟩] 31 rfl rfl NG.out rfl (by kernel_rfl) (by simp [Value.oneCell']) ?_
            intro Wf hWf hbWf hsWf hoWf
            have hbC : Below w2.heap.size w2 w2xyaz := (by repeat' (first | with_reducible (first | refine bset ?_ ?_ | exact Below.refl _ _ | assumption | refine bdrewN ?_ _ | refine bdrew ?_ | refine balloc0 ?_ | refine balloc ?_ ?_ | (apply btrans0; rotate_left; assumption) | (apply btrans; rotate_left; assumption)) | exact Below.refl _ _ | assumption | (apply btrans0; rotate_left; assumption) | (apply btrans; rotate_left; assumption) | (simp; done) | omega | (simp; omega)))
            have hB4 : Below w2.heap.size w2 Wf := hbC.trans (hbWf _ (by omega))
            have b4 : Below w.heap.size w Wf := b2.trans (hB4.mono b2.size)
            have HW4 := Lib.hid hWf
            have HZ4 : Hid (Wf.heap[w.heap.size]? = some (.cells #[.int .i64 0, .int .i64 0, .int .i64 0, .int .i64 0, .int .i64 0, .int .i64 0, .int .i64 0, .int .i64 0, .int .i64 0, .int .i64 0, .slice none 0 0, .string ⟨#[]⟩] 31 (0, 0))) := Lib.hid ((hB4.block _ z2).trans R2.out)
            have zgg : w.heap.size < g := by omega
            refine hK _ _ ?_
            clear hK K hWf hbWf hsWf hoWf hbC p0 p5 p6 p8 NG
            (try simp only [Act.put, List.setIfInBounds_toArray, List.set_cons_zero, List.set_cons_succ])
            refine tree_fin ?_
            go_wp2_with fail
            go_meet
            exact ⟨g, rfl, zgg, HW4.out, HZ4.out, b4⟩
      · refine tree_op rfl (by rfl) (fun K hK => ?_)
        go_simp
        obtain ⟨w2xa, hww2xa⟩ : ∃ q, w2x.alloc (.cells #[.int .i64 0, .int .i64 0, .int .i64 0, .int .i64 0, .int .i64 0, .int .i64 0, .int .i64 0, .int .i64 0, .int .i64 0, .int .i64 0, .slice none 0 0, .string ⟨#[]⟩] 31) = q := ⟨_, rfl⟩
        rw [hww2xa]
        have nw2xa : w2xa.heap[w2x.heap.size]? = some (.cells #[.int .i64 0, .int .i64 0, .int .i64 0, .int .i64 0, .int .i64 0, .int .i64 0, .int .i64 0, .int .i64 0, .int .i64 0, .int .i64 0, .slice none 0 0, .string ⟨#[]⟩] 31 (0, 0)) := by rw [← hww2xa]; exact heap_new
        have hbw2xa : Below w2x.heap.size w2x w2xa := by rw [← hww2xa]; exact balloc0 (Below.refl _ _)
        have zgw2xa : w2.heap.size ≤ w2x.heap.size := Below.size (show Below w2.heap.size w2 w2x from (by repeat' (first | with_reducible (first | refine bset ?_ ?_ | exact Below.refl _ _ | assumption | refine bdrewN ?_ _ | refine bdrew ?_ | refine balloc0 ?_ | refine balloc ?_ ?_ | (apply btrans0; rotate_left; assumption) | (apply btrans; rotate_left; assumption)) | exact Below.refl _ _ | assumption | (apply btrans0; rotate_left; assumption) | (apply btrans; rotate_left; assumption) | (simp; done) | omega | (simp; omega))))
        obtain ⟨g, hg⟩ : ∃ q, w2x.heap.size = q := ⟨_, rfl⟩
        have zhw2xa : w2.heap.size ≤ g := by omega
        rw [hg] at nw2xa ⊢
        clear hg hww2xa
        have NG := Lib.hid nw2xa
        refine hK _ _ (by repeat' (first | with_reducible (first | refine bset ?_ ?_ | exact Below.refl _ _ | assumption | refine bdrewN ?_ _ | refine bdrew ?_ | refine balloc0 ?_ | refine balloc ?_ ?_ | (apply btrans0; rotate_left; assumption) | (apply btrans; rotate_left; assumption)) | exact Below.refl _ _ | assumption | (apply btrans0; rotate_left; assumption) | (apply btrans; rotate_left; assumption) | (simp; done) | omega | (simp; omega))) ?_
        clear hK K
        (try simp only [Act.put, List.setIfInBounds_toArray, List.set_cons_zero, List.set_cons_succ])
        refine tree_keep rfl rfl (by rfl) (fun K hK => ?_)
        go_simp
        refine (ends_any l _ _ (HR2.out.below'' (by repeat' (first | with_reducible (first | refine bset ?_ ?_ | exact Below.refl _ _ | assumption | refine bdrewN ?_ _ | refine bdrew ?_ | refine balloc0 ?_ | refine balloc ?_ ?_ | (apply btrans0; rotate_left; assumption) | (apply btrans; rotate_left; assumption)) | exact Below.refl _ _ | assumption | (apply btrans0; rotate_left; assumption) | (apply btrans; rotate_left; assumption) | (simp; done) | omega | (simp; omega)))) HF.out hlp HALL.out).mono ?_
        rw [HE.out]
        rintro e w2xay ⟨rfl, hbw2xay⟩
        have nw2xay : w2xay.heap[g]? = some (.cells #[.int .i64 0, .int .i64 0, .int .i64 0, .int .i64 0, .int .i64 0, .int .i64 0, .int .i64 0, .int .i64 0, .int .i64 0, .int .i64 0, .slice none 0 0, .string ⟨#[]⟩] 31 (0, 0)) := (hbw2xay.block _ (Array.getElem?_eq_some_iff.1 NG.out).1).trans NG.out
        replace NG := Lib.hid nw2xay
        refine hK _ _ (by repeat' (first | with_reducible (first | refine bset ?_ ?_ | exact Below.refl _ _ | assumption | refine bdrewN ?_ _ | refine bdrew ?_ | refine balloc0 ?_ | refine balloc ?_ ?_ | (apply btrans0; rotate_left; assumption) | (apply btrans; rotate_left; assumption)) | exact Below.refl _ _ | assumption | (apply btrans0; rotate_left; assumption) | (apply btrans; rotate_left; assumption) | (simp; done) | omega | (simp; omega))) ?_
        clear hK K
        (try simp only [Act.put, List.setIfInBounds_toArray, List.set_cons_zero, List.set_cons_succ])
        refine tree_keep rfl rfl (by rfl) (fun K hK => ?_)
        go_simp
        refine (created_any l _ _ (HR2.out.below'' (by repeat' (first | with_reducible (first | refine bset ?_ ?_ | exact Below.refl _ _ | assumption | refine bdrewN ?_ _ | refine bdrew ?_ | refine balloc0 ?_ | refine balloc ?_ ?_ | (apply btrans0; rotate_left; assumption) | (apply btrans; rotate_left; assumption)) | exact Below.refl _ _ | assumption | (apply btrans0; rotate_left; assumption) | (apply btrans; rotate_left; assumption) | (simp; done) | omega | (simp; omega)))) HF.out).mono ?_
        rw [HC.out]
        rintro e w2xayz ⟨rfl, hbw2xayz⟩
        have nw2xayz : w2xayz.heap[g]? = some (.cells #[.int .i64 0, .int .i64 0, .int .i64 0, .int .i64 0, .int .i64 0, .int .i64 0, .int .i64 0, .int .i64 0, .int .i64 0, .int .i64 0, .slice none 0 0, .string ⟨#[]⟩] 31 (0, 0)) := (hbw2xayz.block _ (Array.getElem?_eq_some_iff.1 NG.out).1).trans NG.out
        replace NG := Lib.hid nw2xayz
        refine hK _ _ (by repeat' (first | with_reducible (first | refine bset ?_ ?_ | exact Below.refl _ _ | assumption | refine bdrewN ?_ _ | refine bdrew ?_ | refine balloc0 ?_ | refine balloc ?_ ?_ | (apply btrans0; rotate_left; assumption) | (apply btrans; rotate_left; assumption)) | exact Below.refl _ _ | assumption | (apply btrans0; rotate_left; assumption) | (apply btrans; rotate_left; assumption) | (simp; done) | omega | (simp; omega))) ?_
        clear hK K
        (try simp only [Act.put, List.setIfInBounds_toArray, List.set_cons_zero, List.set_cons_succ])
        (refine tree_held rfl (by decide) (by rfl) (fun w1 hS => by (try (obtain ⟨_, _⟩ := bcell (hS rfl))); go_simp; rfl) ?_; (try simp only [Act.put, List.setIfInBounds_toArray, List.set_cons_zero, List.set_cons_succ]))
        (refine tree_held rfl (by decide) (by rfl) (fun w1 hS => by (try (obtain ⟨_, _⟩ := bcell (hS rfl))); go_simp; rfl) ?_; (try simp only [Act.put, List.setIfInBounds_toArray, List.set_cons_zero, List.set_cons_succ]))
        as_aux_lemma =>
          (try simp only [hEC])
          refine tree_late rfl rfl (by rfl) (fun K hK => ?_)
          refine wp_store_block 31 _ _ rfl g #[.int .i64 y.src, .int .i64 C, .int .i64 seq, .int .i64 0, .int .i64 0, .int .i64 y.dk, .int .i64 y.dn, .int .i64 (E - C), .int .i64 y.prio, .int .i64 64, .slice none 0 0, .string (B P)] #[.int .i64 0, .int .i64 0, .int .i64 0, .int .i64 0, .int .i64 0, .int .i64 0, .int .i64 0, .int .i64 0, .int .i64 0, .int .i64 0, .slice none 0 0, .string ⟨#[]⟩] 31 rfl rfl NG.out rfl (by kernel_rfl) (by simp [Value.oneCell']) ?_
          intro Wf hWf hbWf hsWf hoWf
          have hbC : Below w2.heap.size w2 w2xayz := (by repeat' (first | with_reducible (first | refine bset ?_ ?_ | exact Below.refl _ _ | assumption | refine bdrewN ?_ _ | refine bdrew ?_ | refine balloc0 ?_ | refine balloc ?_ ?_ | (apply btrans0; rotate_left; assumption) | (apply btrans; rotate_left; assumption)) | exact Below.refl _ _ | assumption | (apply btrans0; rotate_left; assumption) | (apply btrans; rotate_left; assumption) | (simp; done) | omega | (simp; omega)))
          have hB4 : Below w2.heap.size w2 Wf := hbC.trans (hbWf _ (by omega))
          have b4 : Below w.heap.size w Wf := b2.trans (hB4.mono b2.size)
          have HW4 := Lib.hid hWf
          have HZ4 : Hid (Wf.heap[w.heap.size]? = some (.cells #[.int .i64 0, .int .i64 0, .int .i64 0, .int .i64 0, .int .i64 0, .int .i64 0, .int .i64 0, .int .i64 0, .int .i64 0, .int .i64 0, .slice none 0 0, .string ⟨#[]⟩] 31 (0, 0))) := Lib.hid ((hB4.block _ z2).trans R2.out)
          have zgg : w.heap.size < g := by omega
          refine hK _ _ ?_
          clear hK K hWf hbWf hsWf hoWf hbC p0 p5 p6 p8 NG
          (try simp only [Act.put, List.setIfInBounds_toArray, List.set_cons_zero, List.set_cons_succ])
          refine tree_fin ?_
          go_wp2_with fail
          go_meet
          exact ⟨g, rfl, zgg, HW4.out, HZ4.out, b4⟩
    · refine tree_op rfl (by rfl) (fun K hK => ?_)
      go_simp
      obtain ⟨w2a, hww2a⟩ : ∃ q, w2.alloc (.cells #[.int .i64 0, .int .i64 0, .int .i64 0, .int .i64 0, .int .i64 0, .int .i64 0, .int .i64 0, .int .i64 0, .int .i64 0, .int .i64 0, .slice none 0 0, .string ⟨#[]⟩] 31) = q := ⟨_, rfl⟩
      rw [hww2a]
      have nw2a : w2a.heap[w2.heap.size]? = some (.cells #[.int .i64 0, .int .i64 0, .int .i64 0, .int .i64 0, .int .i64 0, .int .i64 0, .int .i64 0, .int .i64 0, .int .i64 0, .int .i64 0, .slice none 0 0, .string ⟨#[]⟩] 31 (0, 0)) := by rw [← hww2a]; exact heap_new
      have hbw2a : Below w2.heap.size w2 w2a := by rw [← hww2a]; exact balloc0 (Below.refl _ _)
      have zgw2a : w2.heap.size ≤ w2.heap.size := Below.size (show Below w2.heap.size w2 w2 from (by repeat' (first | with_reducible (first | refine bset ?_ ?_ | exact Below.refl _ _ | assumption | refine bdrewN ?_ _ | refine bdrew ?_ | refine balloc0 ?_ | refine balloc ?_ ?_ | (apply btrans0; rotate_left; assumption) | (apply btrans; rotate_left; assumption)) | exact Below.refl _ _ | assumption | (apply btrans0; rotate_left; assumption) | (apply btrans; rotate_left; assumption) | (simp; done) | omega | (simp; omega))))
      obtain ⟨g, hg⟩ : ∃ q, w2.heap.size = q := ⟨_, rfl⟩
      have zhw2a : w2.heap.size ≤ g := by omega
      rw [hg] at nw2a ⊢
      clear hg hww2a
      have NG := Lib.hid nw2a
      refine hK _ _ (by repeat' (first | with_reducible (first | refine bset ?_ ?_ | exact Below.refl _ _ | assumption | refine bdrewN ?_ _ | refine bdrew ?_ | refine balloc0 ?_ | refine balloc ?_ ?_ | (apply btrans0; rotate_left; assumption) | (apply btrans; rotate_left; assumption)) | exact Below.refl _ _ | assumption | (apply btrans0; rotate_left; assumption) | (apply btrans; rotate_left; assumption) | (simp; done) | omega | (simp; omega))) ?_
      clear hK K
      (try simp only [Act.put, List.setIfInBounds_toArray, List.set_cons_zero, List.set_cons_succ])
      refine tree_keep rfl rfl (by rfl) (fun K hK => ?_)
      go_simp
      refine (created_any l _ _ (HR2.out.below'' (by repeat' (first | with_reducible (first | refine bset ?_ ?_ | exact Below.refl _ _ | assumption | refine bdrewN ?_ _ | refine bdrew ?_ | refine balloc0 ?_ | refine balloc ?_ ?_ | (apply btrans0; rotate_left; assumption) | (apply btrans; rotate_left; assumption)) | exact Below.refl _ _ | assumption | (apply btrans0; rotate_left; assumption) | (apply btrans; rotate_left; assumption) | (simp; done) | omega | (simp; omega)))) HF.out).mono ?_
      rw [HC.out]
      rintro e w2ax ⟨rfl, hbw2ax⟩
      have nw2ax : w2ax.heap[g]? = some (.cells #[.int .i64 0, .int .i64 0, .int .i64 0, .int .i64 0, .int .i64 0, .int .i64 0, .int .i64 0, .int .i64 0, .int .i64 0, .int .i64 0, .slice none 0 0, .string ⟨#[]⟩] 31 (0, 0)) := (hbw2ax.block _ (Array.getElem?_eq_some_iff.1 NG.out).1).trans NG.out
      replace NG := Lib.hid nw2ax
      refine hK _ _ (by repeat' (first | with_reducible (first | refine bset ?_ ?_ | exact Below.refl _ _ | assumption | refine bdrewN ?_ _ | refine bdrew ?_ | refine balloc0 ?_ | refine balloc ?_ ?_ | (apply btrans0; rotate_left; assumption) | (apply btrans; rotate_left; assumption)) | exact Below.refl _ _ | assumption | (apply btrans0; rotate_left; assumption) | (apply btrans; rotate_left; assumption) | (simp; done) | omega | (simp; omega))) ?_
      clear hK K
      (try simp only [Act.put, List.setIfInBounds_toArray, List.set_cons_zero, List.set_cons_succ])
      (refine tree_held rfl (by decide) (by rfl) (fun w1 hS => by (try (obtain ⟨_, _⟩ := bcell (hS rfl))); go_simp; rfl) ?_; (try simp only [Act.put, List.setIfInBounds_toArray, List.set_cons_zero, List.set_cons_succ]))
      refine tree_keep rfl rfl (by rfl) (fun K hK => ?_)
      go_simp
      refine (ends_any l _ _ (HR2.out.below'' (by repeat' (first | with_reducible (first | refine bset ?_ ?_ | exact Below.refl _ _ | assumption | refine bdrewN ?_ _ | refine bdrew ?_ | refine balloc0 ?_ | refine balloc ?_ ?_ | (apply btrans0; rotate_left; assumption) | (apply btrans; rotate_left; assumption)) | exact Below.refl _ _ | assumption | (apply btrans0; rotate_left; assumption) | (apply btrans; rotate_left; assumption) | (simp; done) | omega | (simp; omega)))) HF.out hlp HALL.out).mono ?_
      rw [HE.out]
      rintro e w2axy ⟨rfl, hbw2axy⟩
      have nw2axy : w2axy.heap[g]? = some (.cells #[.int .i64 0, .int .i64 0, .int .i64 0, .int .i64 0, .int .i64 0, .int .i64 0, .int .i64 0, .int .i64 0, .int .i64 0, .int .i64 0, .slice none 0 0, .string ⟨#[]⟩] 31 (0, 0)) := (hbw2axy.block _ (Array.getElem?_eq_some_iff.1 NG.out).1).trans NG.out
      replace NG := Lib.hid nw2axy
      refine hK _ _ (by repeat' (first | with_reducible (first | refine bset ?_ ?_ | exact Below.refl _ _ | assumption | refine bdrewN ?_ _ | refine bdrew ?_ | refine balloc0 ?_ | refine balloc ?_ ?_ | (apply btrans0; rotate_left; assumption) | (apply btrans; rotate_left; assumption)) | exact Below.refl _ _ | assumption | (apply btrans0; rotate_left; assumption) | (apply btrans; rotate_left; assumption) | (simp; done) | omega | (simp; omega))) ?_
      clear hK K
      (try simp only [Act.put, List.setIfInBounds_toArray, List.set_cons_zero, List.set_cons_succ])
      refine tree_keep rfl rfl (by rfl) (fun K hK => ?_)
      go_simp
      refine (created_any l _ _ (HR2.out.below'' (by repeat' (first | with_reducible (first | refine bset ?_ ?_ | exact Below.refl _ _ | assumption | refine bdrewN ?_ _ | refine bdrew ?_ | refine balloc0 ?_ | refine balloc ?_ ?_ | (apply btrans0; rotate_left; assumption) | (apply btrans; rotate_left; assumption)) | exact Below.refl _ _ | assumption | (apply btrans0; rotate_left; assumption) | (apply btrans; rotate_left; assumption) | (simp; done) | omega | (simp; omega)))) HF.out).mono ?_
      rw [HC.out]
      rintro e w2axyz ⟨rfl, hbw2axyz⟩
      have nw2axyz : w2axyz.heap[g]? = some (.cells #[.int .i64 0, .int .i64 0, .int .i64 0, .int .i64 0, .int .i64 0, .int .i64 0, .int .i64 0, .int .i64 0, .int .i64 0, .int .i64 0, .slice none 0 0, .string ⟨#[]⟩] 31 (0, 0)) := (hbw2axyz.block _ (Array.getElem?_eq_some_iff.1 NG.out).1).trans NG.out
      replace NG := Lib.hid nw2axyz
      refine hK _ _ (by repeat' (first | with_reducible (first | refine bset ?_ ?_ | exact Below.refl _ _ | assumption | refine bdrewN ?_ _ | refine bdrew ?_ | refine balloc0 ?_ | refine balloc ?_ ?_ | (apply btrans0; rotate_left; assumption) | (apply btrans; rotate_left; assumption)) | exact Below.refl _ _ | assumption | (apply btrans0; rotate_left; assumption) | (apply btrans; rotate_left; assumption) | (simp; done) | omega | (simp; omega))) ?_
      clear hK K
      (try simp only [Act.put, List.setIfInBounds_toArray, List.set_cons_zero, List.set_cons_succ])
      (refine tree_held rfl (by decide) (by rfl) (fun w1 hS => by (try (obtain ⟨_, _⟩ := bcell (hS rfl))); go_simp; rfl) ?_; (try simp only [Act.put, List.setIfInBounds_toArray, List.set_cons_zero, List.set_cons_succ]))
      (refine tree_held rfl (by decide) (by rfl) (fun w1 hS => by (try (obtain ⟨_, _⟩ := bcell (hS rfl))); go_simp; rfl) ?_; (try simp only [Act.put, List.setIfInBounds_toArray, List.set_cons_zero, List.set_cons_succ]))
      as_aux_lemma =>
        (try simp only [hEC])
        refine tree_late rfl rfl (by rfl) (fun K hK => ?_)
        refine wp_store_block 31 _ _ rfl g #[.int .i64 y.src, .int .i64 C, .int .i64 seq, .int .i64 0, .int .i64 0, .int .i64 y.dk, .int .i64 y.dn, .int .i64 (E - C), .int .i64 y.prio, .int .i64 64, .slice none 0 0, .string (B P)] #[.int .i64 0, .int .i64 0, .int .i64 0, .int .i64 0, .int .i64 0, .int .i64 0, .int .i64 0, .int .i64 0, .int .i64 0, .int .i64 0, .slice none 0 0, .string ⟨#[]⟩] 31 rfl rfl NG.out rfl (by kernel_rfl) (by simp [Value.oneCell']) ?_
        intro Wf hWf hbWf hsWf hoWf
        have hbC : Below w2.heap.size w2 w2axyz := (by repeat' (first | with_reducible (first | refine bset ?_ ?_ | exact Below.refl _ _ | assumption | refine bdrewN ?_ _ | refine bdrew ?_ | refine balloc0 ?_ | refine balloc ?_ ?_ | (apply btrans0; rotate_left; assumption) | (apply btrans; rotate_left; assumption)) | exact Below.refl _ _ | assumption | (apply btrans0; rotate_left; assumption) | (apply btrans; rotate_left; assumption) | (simp; done) | omega | (simp; omega)))
        have hB4 : Below w2.heap.size w2 Wf := hbC.trans (hbWf _ (by omega))
        have b4 : Below w.heap.size w Wf := b2.trans (hB4.mono b2.size)
        have HW4 := Lib.hid hWf
        have HZ4 : Hid (Wf.heap[w.heap.size]? = some (.cells #[.int .i64 0, .int .i64 0, .int .i64 0, .int .i64 0, .int .i64 0, .int .i64 0, .int .i64 0, .int .i64 0, .int .i64 0, .int .i64 0, .slice none 0 0, .string ⟨#[]⟩] 31 (0, 0))) := Lib.hid ((hB4.block _ z2).trans R2.out)
        have zgg : w.heap.size < g := by omega
        refine hK _ _ ?_
        clear hK K hWf hbWf hsWf hoWf hbC p0 p5 p6 p8 NG
        (try simp only [Act.put, List.setIfInBounds_toArray, List.set_cons_zero, List.set_cons_succ])
        refine tree_fin ?_
        go_wp2_with fail
        go_meet
        exact ⟨g, rfl, zgg, HW4.out, HZ4.out, b4⟩
  case rest =>
    obtain ⟨g, rfl, zgg, hw4, hz4, b4⟩ := hcut
    have HW4 := Lib.hid hw4
    have HZ4 := Lib.hid hz4
    clear hw4 hz4 p0 p5 p6 p8
    go_wp2
    go_loopw [9] (fun i wr => ∃ k : Nat, k ≤ l.length ∧ i = .int .i64 k ∧ Hid (wr.heap[g]? = some (.cells #[.int .i64 y.src, .int .i64 C, .int .i64 seq, .int .i64 0, .int .i64 0, .int .i64 y.dk, .int .i64 y.dn, .int .i64 (E - C), .int .i64 y.prio, .int .i64 (joinF (l.take k)), .slice none 0 0, .string (B P)] 31 (0, 0))) ∧ Hid (wr.heap[w.heap.size]? = some (.cells #[.int .i64 0, .int .i64 0, .int .i64 0, .int .i64 0, .int .i64 0, .int .i64 0, .int .i64 0, .int .i64 0, .int .i64 0, .int .i64 0, .slice none 0 0, .string ⟨#[]⟩] 31 (0, 0))) ∧ Below w.heap.size w wr) (fun i _ => l.length - (intOf i).toNat)
    case atStart => exact ⟨0, Nat.zero_le _, rfl, Lib.hid (by rw [show joinF (l.take 0) = 64 from by simp [joinF]]; exact HW4.out), HZ4, b4⟩
    case round =>
      obtain ⟨k, hk, rfl, HB, HZ, hB⟩ := hrel
      have zB : g < wr.heap.size := (Array.getElem?_eq_some_iff.1 HB.out).1
      have zR : w.heap.size < wr.heap.size := by omega
      have cr := fun o => cellB HZ.out o
      have fr := fun o => frozenB HZ.out o
      have cb := fun o => cellB HB.out o
      have fb := fun o => frozenB HB.out o
      by_cases hlt : k < l.length
      · skip
        obtain ⟨b2, o2, e2, hbn2, hcell⟩ := H4.out (by omega)
        obtain ⟨rfl, rfl⟩ : bb = b2 ∧ o = o2 := by injection e2 with e2; injection e2 with e2 e3 _; exact ⟨e2, e3⟩
        clear e2
        obtain ⟨x, hx⟩ : ∃ x, l[k]? = some x := ⟨_, List.getElem?_eq_getElem hlt⟩
        obtain ⟨ux, hc, hub⟩ := hcell k x hx
        have q0 : wr.cell? ⟨bb, o + k * 12, none⟩ = some (.int .i64 x.src) := (hB.cell (p := ⟨bb, o + k * 12 + 0, none⟩) hbn2).trans (hc 0 _ rfl)
        have q1 : wr.cell? ⟨bb, o + k * 12 + 1, none⟩ = some (.int .i64 x.crt) := (hB.cell (p := ⟨bb, o + k * 12 + 1, none⟩) hbn2).trans (hc 1 _ rfl)
        have q2 : wr.cell? ⟨bb, o + k * 12 + 2, none⟩ = some (.int .i64 x.seq) := (hB.cell (p := ⟨bb, o + k * 12 + 2, none⟩) hbn2).trans (hc 2 _ rfl)
        have q3 : wr.cell? ⟨bb, o + k * 12 + 3, none⟩ = some (.int .i64 x.off) := (hB.cell (p := ⟨bb, o + k * 12 + 3, none⟩) hbn2).trans (hc 3 _ rfl)
        have q4 : wr.cell? ⟨bb, o + k * 12 + 4, none⟩ = some (.int .i64 x.tot) := (hB.cell (p := ⟨bb, o + k * 12 + 4, none⟩) hbn2).trans (hc 4 _ rfl)
        have q5 : wr.cell? ⟨bb, o + k * 12 + 5, none⟩ = some (.int .i64 x.dk) := (hB.cell (p := ⟨bb, o + k * 12 + 5, none⟩) hbn2).trans (hc 5 _ rfl)
        have q6 : wr.cell? ⟨bb, o + k * 12 + 6, none⟩ = some (.int .i64 x.dn) := (hB.cell (p := ⟨bb, o + k * 12 + 6, none⟩) hbn2).trans (hc 6 _ rfl)
        have q7 : wr.cell? ⟨bb, o + k * 12 + 7, none⟩ = some (.int .i64 x.life) := (hB.cell (p := ⟨bb, o + k * 12 + 7, none⟩) hbn2).trans (hc 7 _ rfl)
        have q8 : wr.cell? ⟨bb, o + k * 12 + 8, none⟩ = some (.int .i64 x.prio) := (hB.cell (p := ⟨bb, o + k * 12 + 8, none⟩) hbn2).trans (hc 8 _ rfl)
        have q9 : wr.cell? ⟨bb, o + k * 12 + 9, none⟩ = some (.int .i64 x.flags) := (hB.cell (p := ⟨bb, o + k * 12 + 9, none⟩) hbn2).trans (hc 9 _ rfl)
        have q10 : wr.cell? ⟨bb, o + k * 12 + 10, none⟩ = some (ux) := (hB.cell (p := ⟨bb, o + k * 12 + 10, none⟩) hbn2).trans (hc 10 _ rfl)
        have q11 : wr.cell? ⟨bb, o + k * 12 + 11, none⟩ = some (.string (B x.payload)) := (hB.cell (p := ⟨bb, o + k * 12 + 11, none⟩) hbn2).trans (hc 11 _ rfl)
        have HUB := Lib.hid (hub.below hB (Nat.le_refl _) hB.size)
        obtain ⟨xa, xc, rfl, _⟩ := id hub
        have k0 : (0 : Int) ≤ (k : Int) := by omega
        have k1 : (k : Int) < (l.length : Int) := by omega
        have HX := Lib.hid hx
        have hsz := hB.size
        clear hc hub hx hcell
        have hv := HALL.out x (List.mem_of_getElem? HX.out)
        obtain ⟨f1, f2⟩ := chk_flags hv
        have hfr := flag_rem1 x.flags f1 f2
        have hfr2 : (x.flags % 2 == 1) = hasF x.flags 1 := by rw [← hfr, Int.tmod_eq_emod_of_nonneg f1]
        have hst := joinF_step2 HX.out
        obtain ⟨FL, hFL⟩ : ∃ q, joinF (l.take k) = q := ⟨_, rfl⟩
        rw [hFL] at hst
        have HST := Lib.hid hst
        rw [hFL] at HB cb
        obtain ⟨cu, hcu⟩ : ∃ q, hasF x.flags 1 = q := ⟨_, rfl⟩
        have hcb : custB x = cu := hcu
        rw [hcu] at hfr hfr2
        rw [hcb] at HST
        clear hv hst hFL hcu hcb
        cases cu with
        | true =>
          have HS2 := Lib.hid (HST.out.trans (if_pos rfl))
          clear HST
          go_wp2
          refine ⟨⟨k + 1, by omega, by go_num, Lib.hid (by rw [HS2.out]; simpa using setB HB.out 9 (.int .i64 65)), Lib.hid ((heap_setCell_other _ _ _ _ (by show w.heap.size ≠ g; omega)).trans HZ.out), bset hB (by show w.heap.size ≤ g; omega)⟩, by simp [intOf]; omega⟩
        | false =>
          have HS2 := Lib.hid (HST.out.trans (if_neg (by simp)))
          clear HST
          go_wp2
          refine ⟨⟨k + 1, by omega, by go_num, Lib.hid (by rw [HS2.out]; exact HB.out), HZ, hB⟩, by simp [intOf]; omega⟩
      · obtain rfl : k = l.length := by omega
        have HFj : Hid (joinF (l.take l.length) = joinF l) := Lib.hid (by rw [List.take_length])
        rw [HFj.out] at HB cb
        obtain ⟨FL, hFL⟩ : ∃ q, joinF l = q := ⟨_, rfl⟩
        rw [hFL] at HB cb HS
        clear hFL
        go_wp2
        refine bodyPost_ret (v := .tuple #[.agg #[.int .i64 y.src, .int .i64 C, .int .i64 seq, .int .i64 0, .int .i64 0, .int .i64 y.dk, .int .i64 y.dn, .int .i64 (E - C), .int .i64 y.prio, .int .i64 FL, .slice none 0 0, .string (B P)], .int .i64 0]) (by simp [results, Tryz.results7, go_sem, World.cell?_setCell_same', cr, cb, zR]) rfl ?_
        unfold JoinPost
        rw [← HS.out]
        exact ⟨rfl, (by repeat' (first | with_reducible (first | refine bset ?_ ?_ | exact Below.refl _ _ | assumption | refine bdrewN ?_ _ | refine bdrew ?_ | refine balloc0 ?_ | refine balloc ?_ ?_ | (apply btrans0; rotate_left; assumption) | (apply btrans; rotate_left; assumption)) | exact Below.refl _ _ | assumption | (apply btrans0; rotate_left; assumption) | (apply btrans; rotate_left; assumption) | (simp; done) | omega | (simp; omega)))⟩
end Go.Proofs.YtpkklmkeflddkaaGreat

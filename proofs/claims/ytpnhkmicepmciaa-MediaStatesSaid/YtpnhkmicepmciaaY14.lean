/- A part of this claim's walks: functions' contracts, or plain lemmas; conditions: each one's own. -/
import Derived.Test.YtpnhkmicepmciaaY0
import Derived.Test.YtpnhkmicepmciaaY4
import Derived.Test.YtpnhkmicepmciaaY6
import Derived.Test.YtpnhkmicepmciaaY10
namespace Go.Proofs.Ytpnhkmicepmciaa.Y
open Go.RowKit Go.Proofs.YtpnhkmicepmciaaW.PrintWords Go.Proofs.YtpnhkmicepmciaaW.PrintLast Go.Proofs.YtpnhkmicepmciaaW.PrintMore
attribute [local go_sem] max2_int min2_int max_two min_two max_three min_three max_four min_four   -- for this text's walks alone
set_option linter.unusedVariables false
set_option linter.unusedSimpArgs false
theorem name_step (c : Int) (A : Option Bool) : (if c < 97 then (if c < 48 then (if c = 45 then A else (if c = 95 then A else (if c = 46 then A else (some false)))) else (if c > 57 then (if c = 45 then A else (if c = 95 then A else (if c = 46 then A else (some false)))) else A)) else (if c > 122 then (if c < 48 then (if c = 45 then A else (if c = 95 then A else (if c = 46 then A else (some false)))) else (if c > 57 then (if c = 45 then A else (if c = 95 then A else (if c = 46 then A else (some false)))) else A)) else A)) = if okName c = true then A else some false := by
 have h : okName c = true ↔ (97 ≤ c ∧ c ≤ 122) ∨ (48 ≤ c ∧ c ≤ 57) ∨ c = 45 ∨ c = 95 ∨ c = 46 := by
  unfold okName
  simp only [Bool.or_eq_true, Bool.and_eq_true, decide_eq_true_eq, beq_iff_eq]
  omega
 by_cases ho : okName c = true
 ·rw [if_pos ho]
  have := h.1 ho
  repeat' split
  all_goals first | rfl | (exfalso; omega)
 ·rw [if_neg ho]
  have hn : ¬ ((97 ≤ c ∧ c ≤ 122) ∨ (48 ≤ c ∧ c ≤ 57) ∨ c = 45 ∨ c = 95 ∨ c = 46) := fun q => ho (h.2 q)
  repeat' split
  all_goals first | rfl | (exfalso; omega)
theorem refName_l (x : ByteArray) (hx : x.size ≤ 140737488351232) : ∀ n i : Nat, i + n = x.size → cutroomref23_ValidName.l0 (n + 1) x (i : Int) = some (decide (∀ j, j < x.size → i ≤ j → okName (bt x j) = true) && (decide (1 ≤ x.size) && decide (x.size ≤ 32)))
 | 0, i, h => by
  unfold cutroomref23_ValidName.l0
  rw [if_neg (by omega), decide_eq_true (p := ∀ j, j < x.size → i ≤ j → okName (bt x j) = true) (fun j h1 h2 => absurd h1 (by omega)), Bool.true_and]
  by_cases h1 : 1 ≤ x.size
  ·rw [if_pos (by omega), decide_eq_true h1, Bool.true_and]
   by_cases h2 : x.size ≤ 32
   ·rw [decide_eq_true h2, decide_eq_true (by omega)]
   ·rw [decide_eq_false h2, decide_eq_false (by omega)]
  ·rw [if_neg (by omega), decide_eq_false h1, Bool.false_and]
 | n + 1, i, h => by
  have hw : wrap64 ((i : Int) + 1) = ((i + 1 : Nat) : Int) := by unfold wrap64; omega
  unfold cutroomref23_ValidName.l0
  rw [if_pos (by omega), if_pos (by omega), name_step, hw, refName_l x hx n (i + 1) (by omega)]
  by_cases ho : okName (bt x i) = true
  ·rw [if_pos ho]
   congr 2
   rw [Bool.eq_iff_iff, decide_eq_true_eq, decide_eq_true_eq]
   refine ⟨fun hh j h1 h2 => ?_, fun hh j h1 h2 => hh j h1 (by omega)⟩
   rcases Nat.lt_or_ge i j with h3 | h3
   ·exact hh j h1 h3
   ·obtain rfl : j = i := by omega
    exact ho
  ·rw [if_neg ho, decide_eq_false (fun hh => ho (hh i (by omega) (Nat.le_refl _))), Bool.false_and]
theorem refName_f (x : ByteArray) (hx : x.size ≤ 140737488351232) : cutroomref23_ValidName.f (x.size + 1) x = some (vName x) := by
 unfold cutroomref23_ValidName.f
 have h := refName_l x hx x.size 0 (by omega)
 rw [show (0 : Int) = ((0 : Nat) : Int) from rfl, h]
 unfold vName
 have e : (decide (∀ j, j < x.size → 0 ≤ j → okName (bt x j) = true)) = decide (∀ j, j < x.size → okName (bt x j) = true) := by
  rw [Bool.eq_iff_iff, decide_eq_true_eq, decide_eq_true_eq]
  exact ⟨fun hh j h1 => hh j h1 (Nat.zero_le _), fun hh j h1 _ => hh j h1⟩
 rw [e, Bool.and_comm]
def evV (k : Int) (m f p : ByteArray) (s : Int) : Bool :=
 if k = 1 then vName f && m.toList.isEmpty && p.toList.isEmpty
 else if k = 2 then vName f && m.toList.isEmpty && p.toList.isEmpty && s == 0
 else if k = 3 ∨ k = 4 then vName m && vName f && p.toList.isEmpty && s == 0
 else if k = 5 then vName m && f.toList.isEmpty && (p.toList.isEmpty || vName p) && s == 0
 else false
theorem name_f (a : ByteArray) (h : a.size ≤ 140737488351232) : timeline_ValidName.f a = some (vName a) := by unfold timeline_ValidName.f; rw [if_pos h]; rfl
theorem valid_f (k : Int) (m f p : ByteArray) (s : Int) (hm : m.size ≤ 140737488351232) (hf : f.size ≤ 140737488351232) (hp : p.size ≤ 140737488351232) : media_valid.f 3 k m f p s = some (evV k m f p s) := by
 unfold media_valid.f evV
 rw [name_f m hm, name_f f hf, Option.bind_some, Option.bind_some]
 by_cases h1 : k = 1
 ·subst h1
  simp only [↓reduceIte]
  cases hv : vName f <;> cases hx : m.toList <;> cases hy : p.toList <;> simp_all
 by_cases h2 : k = 2
 ·subst h2
  cases hv : vName f <;> cases hx : m.toList <;> cases hy : p.toList <;> simp_all
 by_cases h3 : k = 3
 ·subst h3
  unfold media_valid.j0
  cases hv : vName f <;> cases hw : vName m <;> cases hy : p.toList <;> simp_all
 by_cases h4 : k = 4
 ·subst h4
  unfold media_valid.j0
  cases hv : vName f <;> cases hw : vName m <;> cases hy : p.toList <;> simp_all
 have h4' : (k == 4) = false := beq_eq_false_iff_ne.2 h4
 rw [if_neg h1, if_neg h1, if_neg h2, if_neg h2, if_neg h3, if_neg (show ¬ (k = 3 ∨ k = 4) by omega), h4']
 unfold media_valid.j0
 by_cases h5 : k = 5
 ·subst h5
  have hpf := name_f p hp
  cases hw : vName m <;> cases hx : f.toList <;> cases hy : p.toList <;> cases hz : vName p <;> simp_all
 ·simp [h5]
theorem emp_t (a : ByteArray) (h : a.toList.isEmpty = true) : (a.toList == ([] : List UInt8)) = true := by
 rw [List.isEmpty_iff.1 h]; rfl
theorem emp_f (a : ByteArray) (h : a.toList.isEmpty = false) : (a.toList == ([] : List UInt8)) = false := by
 cases hx : a.toList with
 | nil => rw [hx] at h; cases h
 | cons b t => rfl
def badV (m f p : ByteArray) : Bool := (!m.toList.isEmpty && !vName m) || (!f.toList.isEmpty && !vName f) || (!p.toList.isEmpty && !vName p)
theorem vName_nil (a : ByteArray) (h : a.toList.isEmpty = true) : vName a = false := by
 have h0 : a.size = 0 := by
  have h1 := List.isEmpty_iff.1 h
  rw [ByteArray.toList_eq] at h1
  have h2 : a.data.toList.length = 0 := by rw [h1]; rfl
  simpa using h2
 unfold vName
 rw [h0]
 rfl
def cutroomref36_event.f (a0_0 : Int) (a0_1 a0_2 a0_3 : ByteArray) (a0_4 : Int) : Option Bool :=
 if a0_1.size ≤ 140737488351232 ∧ a0_2.size ≤ 140737488351232 ∧ a0_3.size ≤ 140737488351232 then some (evV a0_0 a0_1 a0_2 a0_3 a0_4) else none
set_option maxHeartbeats 4000000 in
set_option maxRecDepth 100000 in
theorem cutroomref36_event.calls (a0_0 : Int) (a0_1 a0_2 a0_3 : ByteArray) (a0_4 : Int) (r : Bool) (w : World) (h : cutroomref36_event.f a0_0 a0_1 a0_2 a0_3 a0_4 = some r) :
  Calls Try.prog 36 #[.agg #[.int .i64 a0_0, .string a0_1, .string a0_2, .string a0_3, .int .u64 a0_4]] w fun e w' => e = .returned (.bool r) ∧ Below w.heap.size w w' := by
 have hu45 := Try.underlying45
 unfold cutroomref36_event.f at h
 split at h
 case isFalse => cases h
 rename_i hsz
 have hm := Aside0.mk hsz.1
 have hf := Aside0.mk hsz.2.1
 have hp := Aside0.mk hsz.2.2
 have HRES := Aside0.mk (Option.some.inj h).symm
 clear h hsz
 go_enter Try.func36, Try.ntmps36
 go_wp2
 obtain ⟨be, hbe⟩ : ∃ b, b = w.heap.size := ⟨_, rfl⟩
 obtain ⟨w1, hw1⟩ : ∃ w', w' = w.alloc (.cells #[.int .i64 a0_0, .string a0_1, .string a0_2, .string a0_3, .int .u64 a0_4] 45) := ⟨_, rfl⟩
 have XK1 := Aside0.mk (show w1.heap[be]? = some (.cells #[.int .i64 a0_0, .string a0_1, .string a0_2, .string a0_3, .int .u64 a0_4] 45 (0, 0)) by rw [hw1, hbe]; exact blk_new _ _)
 have HB1 := Aside0.mk (show Below w.heap.size w w1 by rw [hw1]; exact below_alloc (Below.refl _ _) _)
 rw [← hw1, ← hbe]
 clear hw1 hbe
 have hx0 : w1.cell? ⟨be, 0, none⟩ = some (.int .i64 a0_0) := (blk_cell XK1.out 0).trans rfl
 have hx1 : w1.cell? ⟨be, 1, none⟩ = some (.string a0_1) := (blk_cell XK1.out 1).trans rfl
 have hx2 : w1.cell? ⟨be, 2, none⟩ = some (.string a0_2) := (blk_cell XK1.out 2).trans rfl
 have hx3 : w1.cell? ⟨be, 3, none⟩ = some (.string a0_3) := (blk_cell XK1.out 3).trans rfl
 have hx4 : w1.cell? ⟨be, 4, none⟩ = some (.int .u64 a0_4) := (blk_cell XK1.out 4).trans rfl
 go_quiet (fail)
 go_upto_region 2 with (fail)
 go_cut [3, 4, 5, 6, 46] (fun s3 s4 s5 s6 s46 wc => s3 = .bool a0_1.toList.isEmpty ∧ s4 = .bool a0_2.toList.isEmpty ∧ s5 = .bool a0_3.toList.isEmpty ∧ s6 = .bool (a0_4 == 0) ∧ s46 = .bool (badV a0_1 a0_2 a0_3) ∧ Aside0 (wc.heap[be]? = some (.cells #[.int .i64 a0_0, .string a0_1, .string a0_2, .string a0_3, .int .u64 a0_4] 45 (0, 0))) ∧ Aside0 (Below w.heap.size w wc))
 case first =>
  by_cases e1 : a0_1.toList.isEmpty = true
  ·have e1' : (a0_1.toList == ([] : List UInt8)) = true := emp_t _ e1
   by_cases e2 : a0_2.toList.isEmpty = true
   ·have e2' : (a0_2.toList == ([] : List UInt8)) = true := emp_t _ e2
    by_cases e3 : a0_3.toList.isEmpty = true
    ·have e3' : (a0_3.toList == ([] : List UInt8)) = true := emp_t _ e3
     go_wp2
     go_meet
     case rel => exact ⟨by first | rfl | simp only [e1, e2, e3], by first | rfl | simp only [e1, e2, e3], by first | rfl | simp only [e1, e2, e3], rfl, by unfold badV; simp only [e1, e2, e3, Bool.not_true, Bool.not_false, Bool.false_and, Bool.true_and, Bool.or_true, Bool.true_or, Bool.or_false, Bool.false_or], ⟨by (with_reducible repeat (first | refine blk_drewN ?_ _ | refine blk_drew ?_)); exact XK1.out⟩, ⟨by (with_reducible repeat (first | exact HB1.out | apply pw_below_drewN | apply below_drew1))⟩⟩
    ·have e30 : a0_3.toList.isEmpty = false := Bool.eq_false_iff.mpr e3
     have e3' : (a0_3.toList == ([] : List UInt8)) = false := emp_f _ e30
     clear e3
     go_wp2_with fail
     refine (cutroomref23_ValidName.calls (a0_3.size + 1) a0_3 _ _ (refName_f a0_3 hp.out)).mono ?_
     rintro e w23 ⟨rfl, ⟨nd3, rfl⟩⟩
     cases v3 : vName a0_3 with
     | false =>
      go_wp2
      go_meet
      case rel => exact ⟨by first | rfl | simp only [e1, e2, e30, v3], by first | rfl | simp only [e1, e2, e30, v3], by first | rfl | simp only [e1, e2, e30, v3], rfl, by unfold badV; simp only [e1, e2, e30, v3, Bool.not_true, Bool.not_false, Bool.false_and, Bool.true_and, Bool.or_true, Bool.true_or, Bool.or_false, Bool.false_or], ⟨by (with_reducible repeat (first | refine blk_drewN ?_ _ | refine blk_drew ?_)); exact XK1.out⟩, ⟨by (with_reducible repeat (first | exact HB1.out | apply pw_below_drewN | apply below_drew1))⟩⟩
     | true =>
      go_wp2
      go_meet
      case rel => exact ⟨by first | rfl | simp only [e1, e2, e30, v3], by first | rfl | simp only [e1, e2, e30, v3], by first | rfl | simp only [e1, e2, e30, v3], rfl, by unfold badV; simp only [e1, e2, e30, v3, Bool.not_true, Bool.not_false, Bool.false_and, Bool.true_and, Bool.or_true, Bool.true_or, Bool.or_false, Bool.false_or], ⟨by (with_reducible repeat (first | refine blk_drewN ?_ _ | refine blk_drew ?_)); exact XK1.out⟩, ⟨by (with_reducible repeat (first | exact HB1.out | apply pw_below_drewN | apply below_drew1))⟩⟩
   ·have e20 : a0_2.toList.isEmpty = false := Bool.eq_false_iff.mpr e2
    have e2' : (a0_2.toList == ([] : List UInt8)) = false := emp_f _ e20
    clear e2
    go_wp2_with fail
    refine (cutroomref23_ValidName.calls (a0_2.size + 1) a0_2 _ _ (refName_f a0_2 hf.out)).mono ?_
    rintro e w22 ⟨rfl, ⟨nd2, rfl⟩⟩
    cases v2 : vName a0_2 with
    | false =>
     go_wp2
     go_meet
     case rel => exact ⟨by first | rfl | simp only [e1, e20, v2], by first | rfl | simp only [e1, e20, v2], by first | rfl | simp only [e1, e20, v2], rfl, by unfold badV; simp only [e1, e20, v2, Bool.not_true, Bool.not_false, Bool.false_and, Bool.true_and, Bool.or_true, Bool.true_or, Bool.or_false, Bool.false_or], ⟨by (with_reducible repeat (first | refine blk_drewN ?_ _ | refine blk_drew ?_)); exact XK1.out⟩, ⟨by (with_reducible repeat (first | exact HB1.out | apply pw_below_drewN | apply below_drew1))⟩⟩
    | true =>
     by_cases e3 : a0_3.toList.isEmpty = true
     ·have e3' : (a0_3.toList == ([] : List UInt8)) = true := emp_t _ e3
      go_wp2
      go_meet
      case rel => exact ⟨by first | rfl | simp only [e1, e20, v2, e3], by first | rfl | simp only [e1, e20, v2, e3], by first | rfl | simp only [e1, e20, v2, e3], rfl, by unfold badV; simp only [e1, e20, v2, e3, Bool.not_true, Bool.not_false, Bool.false_and, Bool.true_and, Bool.or_true, Bool.true_or, Bool.or_false, Bool.false_or], ⟨by (with_reducible repeat (first | refine blk_drewN ?_ _ | refine blk_drew ?_)); exact XK1.out⟩, ⟨by (with_reducible repeat (first | exact HB1.out | apply pw_below_drewN | apply below_drew1))⟩⟩
     ·have e30 : a0_3.toList.isEmpty = false := Bool.eq_false_iff.mpr e3
      have e3' : (a0_3.toList == ([] : List UInt8)) = false := emp_f _ e30
      clear e3
      go_wp2_with fail
      refine (cutroomref23_ValidName.calls (a0_3.size + 1) a0_3 _ _ (refName_f a0_3 hp.out)).mono ?_
      rintro e w23 ⟨rfl, ⟨nd3, rfl⟩⟩
      cases v3 : vName a0_3 with
      | false =>
       go_wp2
       go_meet
       case rel => exact ⟨by first | rfl | simp only [e1, e20, v2, e30, v3], by first | rfl | simp only [e1, e20, v2, e30, v3], by first | rfl | simp only [e1, e20, v2, e30, v3], rfl, by unfold badV; simp only [e1, e20, v2, e30, v3, Bool.not_true, Bool.not_false, Bool.false_and, Bool.true_and, Bool.or_true, Bool.true_or, Bool.or_false, Bool.false_or], ⟨by (with_reducible repeat (first | refine blk_drewN ?_ _ | refine blk_drew ?_)); exact XK1.out⟩, ⟨by (with_reducible repeat (first | exact HB1.out | apply pw_below_drewN | apply below_drew1))⟩⟩
      | true =>
       go_wp2
       go_meet
       case rel => exact ⟨by first | rfl | simp only [e1, e20, v2, e30, v3], by first | rfl | simp only [e1, e20, v2, e30, v3], by first | rfl | simp only [e1, e20, v2, e30, v3], rfl, by unfold badV; simp only [e1, e20, v2, e30, v3, Bool.not_true, Bool.not_false, Bool.false_and, Bool.true_and, Bool.or_true, Bool.true_or, Bool.or_false, Bool.false_or], ⟨by (with_reducible repeat (first | refine blk_drewN ?_ _ | refine blk_drew ?_)); exact XK1.out⟩, ⟨by (with_reducible repeat (first | exact HB1.out | apply pw_below_drewN | apply below_drew1))⟩⟩
  ·have e10 : a0_1.toList.isEmpty = false := Bool.eq_false_iff.mpr e1
   have e1' : (a0_1.toList == ([] : List UInt8)) = false := emp_f _ e10
   clear e1
   go_wp2_with fail
   refine (cutroomref23_ValidName.calls (a0_1.size + 1) a0_1 _ _ (refName_f a0_1 hm.out)).mono ?_
   rintro e w21 ⟨rfl, ⟨nd1, rfl⟩⟩
   cases v1 : vName a0_1 with
   | false =>
    go_wp2
    go_meet
    case rel => exact ⟨by first | rfl | simp only [e10, v1], by first | rfl | simp only [e10, v1], by first | rfl | simp only [e10, v1], rfl, by unfold badV; simp only [e10, v1, Bool.not_true, Bool.not_false, Bool.false_and, Bool.true_and, Bool.or_true, Bool.true_or, Bool.or_false, Bool.false_or], ⟨by (with_reducible repeat (first | refine blk_drewN ?_ _ | refine blk_drew ?_)); exact XK1.out⟩, ⟨by (with_reducible repeat (first | exact HB1.out | apply pw_below_drewN | apply below_drew1))⟩⟩
   | true =>
    by_cases e2 : a0_2.toList.isEmpty = true
    ·have e2' : (a0_2.toList == ([] : List UInt8)) = true := emp_t _ e2
     by_cases e3 : a0_3.toList.isEmpty = true
     ·have e3' : (a0_3.toList == ([] : List UInt8)) = true := emp_t _ e3
      go_wp2
      go_meet
      case rel => exact ⟨by first | rfl | simp only [e10, v1, e2, e3], by first | rfl | simp only [e10, v1, e2, e3], by first | rfl | simp only [e10, v1, e2, e3], rfl, by unfold badV; simp only [e10, v1, e2, e3, Bool.not_true, Bool.not_false, Bool.false_and, Bool.true_and, Bool.or_true, Bool.true_or, Bool.or_false, Bool.false_or], ⟨by (with_reducible repeat (first | refine blk_drewN ?_ _ | refine blk_drew ?_)); exact XK1.out⟩, ⟨by (with_reducible repeat (first | exact HB1.out | apply pw_below_drewN | apply below_drew1))⟩⟩
     ·have e30 : a0_3.toList.isEmpty = false := Bool.eq_false_iff.mpr e3
      have e3' : (a0_3.toList == ([] : List UInt8)) = false := emp_f _ e30
      clear e3
      go_wp2_with fail
      refine (cutroomref23_ValidName.calls (a0_3.size + 1) a0_3 _ _ (refName_f a0_3 hp.out)).mono ?_
      rintro e w23 ⟨rfl, ⟨nd3, rfl⟩⟩
      cases v3 : vName a0_3 with
      | false =>
       go_wp2
       go_meet
       case rel => exact ⟨by first | rfl | simp only [e10, v1, e2, e30, v3], by first | rfl | simp only [e10, v1, e2, e30, v3], by first | rfl | simp only [e10, v1, e2, e30, v3], rfl, by unfold badV; simp only [e10, v1, e2, e30, v3, Bool.not_true, Bool.not_false, Bool.false_and, Bool.true_and, Bool.or_true, Bool.true_or, Bool.or_false, Bool.false_or], ⟨by (with_reducible repeat (first | refine blk_drewN ?_ _ | refine blk_drew ?_)); exact XK1.out⟩, ⟨by (with_reducible repeat (first | exact HB1.out | apply pw_below_drewN | apply below_drew1))⟩⟩
      | true =>
       go_wp2
       go_meet
       case rel => exact ⟨by first | rfl | simp only [e10, v1, e2, e30, v3], by first | rfl | simp only [e10, v1, e2, e30, v3], by first | rfl | simp only [e10, v1, e2, e30, v3], rfl, by unfold badV; simp only [e10, v1, e2, e30, v3, Bool.not_true, Bool.not_false, Bool.false_and, Bool.true_and, Bool.or_true, Bool.true_or, Bool.or_false, Bool.false_or], ⟨by (with_reducible repeat (first | refine blk_drewN ?_ _ | refine blk_drew ?_)); exact XK1.out⟩, ⟨by (with_reducible repeat (first | exact HB1.out | apply pw_below_drewN | apply below_drew1))⟩⟩
    ·have e20 : a0_2.toList.isEmpty = false := Bool.eq_false_iff.mpr e2
     have e2' : (a0_2.toList == ([] : List UInt8)) = false := emp_f _ e20
     clear e2
     go_wp2_with fail
     refine (cutroomref23_ValidName.calls (a0_2.size + 1) a0_2 _ _ (refName_f a0_2 hf.out)).mono ?_
     rintro e w22 ⟨rfl, ⟨nd2, rfl⟩⟩
     cases v2 : vName a0_2 with
     | false =>
      go_wp2
      go_meet
      case rel => exact ⟨by first | rfl | simp only [e10, v1, e20, v2], by first | rfl | simp only [e10, v1, e20, v2], by first | rfl | simp only [e10, v1, e20, v2], rfl, by unfold badV; simp only [e10, v1, e20, v2, Bool.not_true, Bool.not_false, Bool.false_and, Bool.true_and, Bool.or_true, Bool.true_or, Bool.or_false, Bool.false_or], ⟨by (with_reducible repeat (first | refine blk_drewN ?_ _ | refine blk_drew ?_)); exact XK1.out⟩, ⟨by (with_reducible repeat (first | exact HB1.out | apply pw_below_drewN | apply below_drew1))⟩⟩
     | true =>
      by_cases e3 : a0_3.toList.isEmpty = true
      ·have e3' : (a0_3.toList == ([] : List UInt8)) = true := emp_t _ e3
       go_wp2
       go_meet
       case rel => exact ⟨by first | rfl | simp only [e10, v1, e20, v2, e3], by first | rfl | simp only [e10, v1, e20, v2, e3], by first | rfl | simp only [e10, v1, e20, v2, e3], rfl, by unfold badV; simp only [e10, v1, e20, v2, e3, Bool.not_true, Bool.not_false, Bool.false_and, Bool.true_and, Bool.or_true, Bool.true_or, Bool.or_false, Bool.false_or], ⟨by (with_reducible repeat (first | refine blk_drewN ?_ _ | refine blk_drew ?_)); exact XK1.out⟩, ⟨by (with_reducible repeat (first | exact HB1.out | apply pw_below_drewN | apply below_drew1))⟩⟩
      ·have e30 : a0_3.toList.isEmpty = false := Bool.eq_false_iff.mpr e3
       have e3' : (a0_3.toList == ([] : List UInt8)) = false := emp_f _ e30
       clear e3
       go_wp2_with fail
       refine (cutroomref23_ValidName.calls (a0_3.size + 1) a0_3 _ _ (refName_f a0_3 hp.out)).mono ?_
       rintro e w23 ⟨rfl, ⟨nd3, rfl⟩⟩
       cases v3 : vName a0_3 with
       | false =>
        go_wp2
        go_meet
        case rel => exact ⟨by first | rfl | simp only [e10, v1, e20, v2, e30, v3], by first | rfl | simp only [e10, v1, e20, v2, e30, v3], by first | rfl | simp only [e10, v1, e20, v2, e30, v3], rfl, by unfold badV; simp only [e10, v1, e20, v2, e30, v3, Bool.not_true, Bool.not_false, Bool.false_and, Bool.true_and, Bool.or_true, Bool.true_or, Bool.or_false, Bool.false_or], ⟨by (with_reducible repeat (first | refine blk_drewN ?_ _ | refine blk_drew ?_)); exact XK1.out⟩, ⟨by (with_reducible repeat (first | exact HB1.out | apply pw_below_drewN | apply below_drew1))⟩⟩
       | true =>
        go_wp2
        go_meet
        case rel => exact ⟨by first | rfl | simp only [e10, v1, e20, v2, e30, v3], by first | rfl | simp only [e10, v1, e20, v2, e30, v3], by first | rfl | simp only [e10, v1, e20, v2, e30, v3], rfl, by unfold badV; simp only [e10, v1, e20, v2, e30, v3, Bool.not_true, Bool.not_false, Bool.false_and, Bool.true_and, Bool.or_true, Bool.true_or, Bool.or_false, Bool.false_or], ⟨by (with_reducible repeat (first | refine blk_drewN ?_ _ | refine blk_drew ?_)); exact XK1.out⟩, ⟨by (with_reducible repeat (first | exact HB1.out | apply pw_below_drewN | apply below_drew1))⟩⟩
 case rest =>
  obtain ⟨rfl, rfl, rfl, rfl, rfl, XK, HB⟩ := hcut
  have hx0 : wc.cell? ⟨be, 0, none⟩ = some (.int .i64 a0_0) := (blk_cell XK.out 0).trans rfl
  cases hbad : badV a0_1 a0_2 a0_3 with
  | true =>
   obtain rfl : r = false := by
    rw [HRES.out]
    unfold badV at hbad
    unfold evV
    cases h1 : a0_1.toList.isEmpty <;> cases h2 : a0_2.toList.isEmpty <;> cases h3 : a0_3.toList.isEmpty <;> cases h4 : vName a0_1 <;> cases h5 : vName a0_2 <;> cases h6 : vName a0_3 <;> simp_all
   go_wp2
   go_ret
   exact ⟨rfl, HB.out⟩
  | false =>
   have hres : r = evV a0_0 a0_1 a0_2 a0_3 a0_4 := HRES.out
   have n1 := vName_nil a0_1
   have n2 := vName_nil a0_2
   have n3 := vName_nil a0_3
   unfold badV at hbad
   unfold evV at hres
   obtain ⟨mE, hmE⟩ : ∃ b, b = a0_1.toList.isEmpty := ⟨_, rfl⟩
   obtain ⟨fE, hfE⟩ : ∃ b, b = a0_2.toList.isEmpty := ⟨_, rfl⟩
   obtain ⟨pE, hpE⟩ : ∃ b, b = a0_3.toList.isEmpty := ⟨_, rfl⟩
   obtain ⟨sE, hsE⟩ : ∃ b, b = (a0_4 == 0) := ⟨_, rfl⟩
   rw [← hmE, ← hfE, ← hpE] at hbad hres
   rw [← hmE] at n1
   rw [← hfE] at n2
   rw [← hpE] at n3
   rw [← hsE] at hres
   rw [← hmE, ← hfE, ← hpE, ← hsE]
   obtain ⟨vm, hvm⟩ : ∃ b, b = vName a0_1 := ⟨_, rfl⟩
   obtain ⟨vf, hvf⟩ : ∃ b, b = vName a0_2 := ⟨_, rfl⟩
   obtain ⟨vp, hvp⟩ : ∃ b, b = vName a0_3 := ⟨_, rfl⟩
   rw [← hvm, ← hvf, ← hvp] at hbad
   rw [← hvm, ← hvf, ← hvp] at hres
   rw [← hvm] at n1
   rw [← hvf] at n2
   rw [← hvp] at n3
   clear hmE hfE hpE hsE hvm hvf hvp HRES hm hf hp
   have HH := Aside0.mk (And.intro hbad (And.intro hres (And.intro n1 (And.intro n2 n3))))
   clear hbad hres n1 n2 n3
   by_cases h1 : a0_0 = 1
   ·subst h1
    cases mE <;> cases fE <;> cases pE <;>
     (go_wp2; go_ret; exact ⟨by obtain ⟨h1, h2, h3, h4, h5⟩ := HH.out; revert h1 h2 h3 h4 h5; cases vm <;> cases vf <;> cases vp <;> simp, HB.out⟩)
   have b1 : (a0_0 == 1) = false := beq_eq_false_iff_ne.2 h1
   by_cases h2 : a0_0 = 2
   ·subst h2
    cases mE <;> cases fE <;> cases pE <;> cases sE <;>
     (go_wp2; go_ret; exact ⟨by obtain ⟨h1, h2, h3, h4, h5⟩ := HH.out; revert h1 h2 h3 h4 h5; cases vm <;> cases vf <;> cases vp <;> simp, HB.out⟩)
   have b2 : (a0_0 == 2) = false := beq_eq_false_iff_ne.2 h2
   by_cases h3 : a0_0 = 3
   ·subst h3
    cases mE <;> cases fE <;> cases pE <;> cases sE <;>
     (go_wp2; go_ret; exact ⟨by obtain ⟨h1, h2, h3, h4, h5⟩ := HH.out; revert h1 h2 h3 h4 h5; cases vm <;> cases vf <;> cases vp <;> simp, HB.out⟩)
   have b3 : (a0_0 == 3) = false := beq_eq_false_iff_ne.2 h3
   by_cases h4 : a0_0 = 4
   ·subst h4
    cases mE <;> cases fE <;> cases pE <;> cases sE <;>
     (go_wp2; go_ret; exact ⟨by obtain ⟨h1, h2, h3, h4, h5⟩ := HH.out; revert h1 h2 h3 h4 h5; cases vm <;> cases vf <;> cases vp <;> simp, HB.out⟩)
   have b4 : (a0_0 == 4) = false := beq_eq_false_iff_ne.2 h4
   by_cases h5 : a0_0 = 5
   ·subst h5
    cases mE <;> cases fE <;> cases pE <;> cases sE <;>
     (go_wp2; go_ret; exact ⟨by obtain ⟨h1, h2, h3, h4, h5⟩ := HH.out; revert h1 h2 h3 h4 h5; cases vm <;> cases vf <;> cases vp <;> simp, HB.out⟩)
   have b5 : (a0_0 == 5) = false := beq_eq_false_iff_ne.2 h5
   go_wp2
   go_ret
   exact ⟨by obtain ⟨_, hh, _⟩ := HH.out; rw [hh, if_neg h1, if_neg h2, if_neg (by omega), if_neg h5]; rfl, HB.out⟩
end Go.Proofs.Ytpnhkmicepmciaa.Y

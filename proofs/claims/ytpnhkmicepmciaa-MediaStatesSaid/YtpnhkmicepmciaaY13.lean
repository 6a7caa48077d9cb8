/- A part of this claim's walks: functions' contracts, or plain lemmas; conditions: each one's own. -/
import Derived.Test.YtpnhkmicepmciaaY0
import Derived.Test.YtpnhkmicepmciaaY11
import Derived.Test.YtpnhkmicepmciaaPar
namespace Go.Proofs.Ytpnhkmicepmciaa.Y
open Go.RowKit Go.Proofs.YtpnhkmicepmciaaW.PrintWords Go.Proofs.YtpnhkmicepmciaaW.PrintLast Go.Proofs.YtpnhkmicepmciaaW.PrintMore Go.Proofs.Ytpnhkmicepmciaa.Par
attribute [local go_sem] max2_int min2_int max_two min_two max_three min_three max_four min_four   -- for this text's walks alone
set_option linter.unusedVariables false
set_option linter.unusedSimpArgs false
def cutroomref36_Status.j0 : Nat → Int → Int → Bool → List (S37) → List (S39) → Option (Int)
 | 0, _, _, _, _, _ => none
 | k + 1, x5, x6, x30, x223000, x223001 => if x30 = true then (some 3) else (if 0 ≤ x6 then (if x6 < (x223000.length : Int) then (if 0 ≤ x5 then (if x5 < (x223001.length : Int) then (if ((rd_T37 x223000 x6).f1) = ((rd_T39 x223001 x5).f2) then (some 1) else (some 2)) else (none)) else (none)) else (none)) else (none))
def cutroomref36_Status.f (k : Nat) (l0_0 : List (S37)) (l0_1 : List (S39)) (a1 : ByteArray) : Option (Int) := (cutroomref36_link.f k l0_0 l0_1 a1).bind fun t223 => (if t223 < 0 then (some 0) else (if 0 ≤ t223 then (if t223 < (l0_1.length : Int) then ((cutroomref36_file.f k l0_0 l0_1 ((rd_T39 l0_1 t223).f1)).bind fun t225 => (if t225 < 0 then (cutroomref36_Status.j0 k t223 t225 true l0_0 l0_1) else (if 0 ≤ t225 then (if t225 < (l0_0.length : Int) then (cutroomref36_Status.j0 k t223 t225 (!((rd_T37 l0_0 t225).f2)) l0_0 l0_1) else (none)) else (none)))) else (none)) else (none)))
theorem cutroomref36_Status.mono_l : ∀ k, (∀ y0 y1 y2 y3 y4, LeO (cutroomref36_Status.j0 k y0 y1 y2 y3 y4) (cutroomref36_Status.j0 (k + 1) y0 y1 y2 y3 y4))
 | 0 => fun _ _ _ _ _ r h => by simp [cutroomref36_Status.j0] at h
 | k + 1 => by
  have ih0 := cutroomref36_Status.mono_l k
  ·intro y0 y1 y2 y3 y4
   unfold cutroomref36_Status.j0
   repeat' first
   | (with_reducible exact ih0 _ _ _ _ _)
   | (with_reducible exact cutroomref36_file.mono _ _ _ _)
   | (with_reducible exact cutroomref36_link.mono _ _ _ _)
   | (with_reducible exact LeO.refl _)
   | (with_reducible exact LeO.none _)
   | (with_reducible refine LeO.ite ?_ ?_)
   | (with_reducible refine LeO.bind ?_ (fun _ => ?_))
   | exact ih0 _ _ _ _ _
   | exact cutroomref36_file.mono _ _ _ _
   | exact cutroomref36_link.mono _ _ _ _
   | exact LeO.none _
   | refine LeO.ite ?_ ?_
   | refine LeO.bind ?_ (fun _ => ?_)
theorem cutroomref36_Status.mono : ∀ a0 a1 a2 k, LeO (cutroomref36_Status.f k a0 a1 a2) (cutroomref36_Status.f (k + 1) a0 a1 a2) := by
 intro a0 a1 a2 k
 have ih0 := cutroomref36_Status.mono_l k
 unfold cutroomref36_Status.f
 repeat' first
   | (with_reducible exact ih0 _ _ _ _ _)
   | (with_reducible exact cutroomref36_file.mono _ _ _ _)
   | (with_reducible exact cutroomref36_link.mono _ _ _ _)
   | (with_reducible exact LeO.refl _)
   | (with_reducible exact LeO.none _)
   | (with_reducible refine LeO.ite ?_ ?_)
   | (with_reducible refine LeO.bind ?_ (fun _ => ?_))
   | exact ih0 _ _ _ _ _
   | exact cutroomref36_file.mono _ _ _ _
   | exact cutroomref36_link.mono _ _ _ _
   | exact LeO.none _
   | refine LeO.ite ?_ ?_
   | refine LeO.bind ?_ (fun _ => ?_)
def cutroomref36_Status.T4 : Bool × List (List Nat × List Nat) := (true, [([], []), ([], []), ([1], [1]), ([], []), ([2, 3], [2, 3]), ([4], [4]), ([5], [5]), ([0, 6], [0, 6]), ([7, 7, 0, 1, 2, 3, 4, 5, 6, 7], [7])])
def cutroomref36_Status.B4 : List Nat := [0, 0, 2, 0, 14, 30, 62, 127, 255]
theorem cutroomref36_Status.tab4 : rtab .any (opsOf Try.f16 4) = cutroomref36_Status.T4 := by kernel_rfl
theorem cutroomref36_Status.bits4 : waitsOk cutroomref36_Status.T4.2 cutroomref36_Status.B4 = true := by kernel_rfl
def cutroomref36_Status.T7 : Bool × List (List Nat × List Nat) := (true, [([], []), ([0], [0]), ([], []), ([1, 2], [1, 2]), ([3], [3]), ([4], [4]), ([], []), ([6], [6]), ([], []), ([7, 8], [7, 8]), ([9], [9]), ([10], [10]), ([5, 11], [5, 11])])
def cutroomref36_Status.B7 : List Nat := [0, 1, 0, 7, 15, 31, 0, 64, 0, 448, 960, 1984, 4095]
theorem cutroomref36_Status.tab7 : rtab .any (opsOf Try.f16 7) = cutroomref36_Status.T7 := by kernel_rfl
theorem cutroomref36_Status.bits7 : waitsOk cutroomref36_Status.T7.2 cutroomref36_Status.B7 = true := by kernel_rfl
set_option maxHeartbeats 8000000 in
set_option maxRecDepth 100000 in
theorem cutroomref36_Status.calls (k : Nat) (A0_0 : Option Addr) (c0_0 : Nat) (l0_0 : List (S37)) (A0_1 : Option Addr) (c0_1 : Nat) (l0_1 : List (S39)) (a1 : ByteArray) (r : Int) (w : World) (hr0_0 : Kd.C k37 w A0_0 l0_0.length l0_0) (hc0_0 : l0_0.length ≤ c0_0) (hr0_1 : Kd.C k39 w A0_1 l0_1.length l0_1) (hc0_1 : l0_1.length ≤ c0_1) (h : cutroomref36_Status.f k l0_0 l0_1 a1 = some r) :
  Calls Try.prog 16 #[.agg #[.slice A0_0 l0_0.length c0_0, .slice A0_1 l0_1.length c0_1], .string a1] w fun e w' => e = .returned (.int .i64 r) ∧ Below w.heap.size w w' := by
 have hu30 := Try.underlying30
 have HR0_0 := Aside0.mk hr0_0
 have HC0_0 := Aside0.mk hc0_0
 clear hr0_0 hc0_0
 have HR0_1 := Aside0.mk hr0_1
 have HC0_1 := Aside0.mk hc0_1
 clear hr0_1 hc0_1
 have HB := Aside0.mk (Below.refl w.heap.size w)
 have H : ((cutroomref36_link.f k l0_0 l0_1 a1).bind fun t223 => (if t223 < 0 then (some 0) else (if 0 ≤ t223 then (if t223 < (l0_1.length : Int) then ((cutroomref36_file.f k l0_0 l0_1 ((rd_T39 l0_1 t223).f1)).bind fun t225 => (if t225 < 0 then (cutroomref36_Status.j0 k t223 t225 true l0_0 l0_1) else (if 0 ≤ t225 then (if t225 < (l0_0.length : Int) then (cutroomref36_Status.j0 k t223 t225 (!((rd_T37 l0_0 t225).f2)) l0_0 l0_1) else (none)) else (none)))) else (none)) else (none)))) = some r := h
 clear h
 replace H := Option.bind_eq_some_iff.mp H
 obtain ⟨t223, A30, H⟩ := H
 replace H : (if t223 < 0 then (some 0) else (if 0 ≤ t223 then (if t223 < (l0_1.length : Int) then ((cutroomref36_file.f k l0_0 l0_1 ((rd_T39 l0_1 t223).f1)).bind fun t225 => (if t225 < 0 then (cutroomref36_Status.j0 k t223 t225 true l0_0 l0_1) else (if 0 ≤ t225 then (if t225 < (l0_0.length : Int) then (cutroomref36_Status.j0 k t223 t225 (!((rd_T37 l0_0 t225).f2)) l0_0 l0_1) else (none)) else (none)))) else (none)) else (none))) = some r := H
 have A3 := Aside0.mk A30
 clear A30
 by_cases c4 : t223 < 0
 ·rw [if_pos c4] at H
  have c4b0 : decide (t223 < 0) = true := decide_eq_true c4
  clear c4
  obtain rfl := Option.some.inj H
  go_enter Try.func16, Try.ntmps16
  go_wp2_with (first | ((with_reducible refine gate_dst (N := 2) rfl ?_); refine box_event ?hg (N := 2) ?hd (cs := #[.slice A0_0 l0_0.length c0_0, .slice A0_1 l0_1.length c0_1]) (t := 30) ?hr ?_; (case hd => rfl); (case hg => rfl); (case hr => first | (go_simp; done) | (go_simp; rfl)); intro gb222 hg w5 hbox hb; have BK222 := Aside0.mk (hbox); have GW222 := gw_ hg kB; have GE222 := gw_ hg kB; replace HB := cB hb kB; clear hb hbox hg; have hcz6_0 : w5.cell? ⟨gb222, 0, none⟩ = some (.slice A0_0 l0_0.length c0_0) := (blk_cell BK222.out 0).trans rfl; have hcz6_1 : w5.cell? ⟨gb222, 1, none⟩ = some (.slice A0_1 l0_1.length c0_1) := (blk_cell BK222.out 1).trans rfl; have hfz6_0 := blk_frozen BK222.out 0; have hfz6_1 := blk_frozen BK222.out 1) | ((with_reducible refine gate_callee (f := 28) rfl ?_); refine goesL_ (some 9) rfl rfl Try.func28 (by kernel_rfl) rfl #[.agg #[.slice A0_0 l0_0.length c0_0, .slice A0_1 l0_1.length c0_1], .string a1] rfl (by (try simp only [List.map_toArray, List.map_cons, List.map_nil]); first | done | rfl | (simp only [List.length_drop, List.length_take]; rfl)) ?_; (with_reducible refine (cutroomref36_link.calls k _ _ l0_0 _ _ l0_1 a1 t223 _ ?side1 ?side2 ?side3 ?side4 A3.out).mono ?_); (case side1 => repeat (first | exact (Kd.C_below HR0_0.out HB.out) | (with_reducible refine Kd.C_alloc ?_ _) | (with_reducible refine Kd.C_drewN ?_ _) | (with_reducible refine Kd.C_drew ?_))); (case side2 => exact HC0_0.out); (case side3 => repeat (first | exact (Kd.C_below HR0_1.out HB.out) | (with_reducible refine Kd.C_alloc ?_ _) | (with_reducible refine Kd.C_drewN ?_ _) | (with_reducible refine Kd.C_drew ?_))); (case side4 => exact HC0_1.out); rintro e w7 ⟨rfl, hb⟩; refine ⟨_, rfl, ?_⟩; replace BK222 := cb BK222 hb; replace HB := cB hb kB; (try clear hb); (try clear hb2); (try clear hk); (try clear hi)))
  go_ret
  exact ⟨by first | rfl | (simp [errW_none, errW_some] <;> rfl) | (simp [*, errW_none, errW_some] <;> rfl), kB⟩
 ·rw [if_neg c4] at H
  have c4b0 : decide (t223 < 0) = false := decide_eq_false c4
  clear c4
  by_cases c8 : 0 ≤ t223
  ·rw [if_pos c8] at H
   have c8b0 : decide (0 ≤ t223) = true := decide_eq_true c8
   clear c8
   by_cases c9 : t223 < (l0_1.length : Int)
   ·rw [if_pos c9] at H
    have c9b0 : decide (t223 < (l0_1.length : Int)) = true := decide_eq_true c9
    clear c9
    replace H := Option.bind_eq_some_iff.mp H
    obtain ⟨t225, A100, H⟩ := H
    replace H : (if t225 < 0 then (cutroomref36_Status.j0 k t223 t225 true l0_0 l0_1) else (if 0 ≤ t225 then (if t225 < (l0_0.length : Int) then (cutroomref36_Status.j0 k t223 t225 (!((rd_T37 l0_0 t225).f2)) l0_0 l0_1) else (none)) else (none))) = some r := H
    have A10 := Aside0.mk A100
    clear A100
    have HC11 := Aside0.mk H
    clear H
    go_enter Try.func16, Try.ntmps16
    try go_wp2_with (first | ((with_reducible refine gate_dst (N := 2) rfl ?_); refine box_event ?hg (N := 2) ?hd (cs := #[.slice A0_0 l0_0.length c0_0, .slice A0_1 l0_1.length c0_1]) (t := 30) ?hr ?_; (case hd => rfl); (case hg => rfl); (case hr => first | (go_simp; done) | (go_simp; rfl)); intro gb222 hg w12 hbox hb; have BK222 := Aside0.mk (hbox); have GW222 := gw_ hg kB; have GE222 := gw_ hg kB; replace HB := cB hb kB; clear hb hbox hg; have hcz13_0 : w12.cell? ⟨gb222, 0, none⟩ = some (.slice A0_0 l0_0.length c0_0) := (blk_cell BK222.out 0).trans rfl; have hcz13_1 : w12.cell? ⟨gb222, 1, none⟩ = some (.slice A0_1 l0_1.length c0_1) := (blk_cell BK222.out 1).trans rfl; have hfz13_0 := blk_frozen BK222.out 0; have hfz13_1 := blk_frozen BK222.out 1) | ((with_reducible refine gate_callee (f := 28) rfl ?_); refine goesL_ (some 9) rfl rfl Try.func28 (by kernel_rfl) rfl #[.agg #[.slice A0_0 l0_0.length c0_0, .slice A0_1 l0_1.length c0_1], .string a1] rfl (by (try simp only [List.map_toArray, List.map_cons, List.map_nil]); first | done | rfl | (simp only [List.length_drop, List.length_take]; rfl)) ?_; (with_reducible refine (cutroomref36_link.calls k _ _ l0_0 _ _ l0_1 a1 t223 _ ?side1 ?side2 ?side3 ?side4 A3.out).mono ?_); (case side1 => repeat (first | exact (Kd.C_below HR0_0.out HB.out) | (with_reducible refine Kd.C_alloc ?_ _) | (with_reducible refine Kd.C_drewN ?_ _) | (with_reducible refine Kd.C_drew ?_))); (case side2 => exact HC0_0.out); (case side3 => repeat (first | exact (Kd.C_below HR0_1.out HB.out) | (with_reducible refine Kd.C_alloc ?_ _) | (with_reducible refine Kd.C_drewN ?_ _) | (with_reducible refine Kd.C_drew ?_))); (case side4 => exact HC0_1.out); rintro e w14 ⟨rfl, hb⟩; refine ⟨_, rfl, ?_⟩; replace BK222 := cb BK222 hb; replace HB := cB hb kB; (try clear hb); (try clear hb2); (try clear hk); (try clear hi)))
    replace BK222 := Aside0.mk (blk_drew BK222.out)
    replace HB := Aside0.mk (below_drew1 HB.out)
    have p224 : 0 ≤ (t223 : Int) := of_decide_eq_true (by first | (with_reducible assumption) | assumption)
    have q224 : t223 < (l0_1.length : Int) := of_decide_eq_true (by first | (with_reducible assumption) | assumption)
    obtain ⟨ad224, e224, hx224_0, hx224_1, hx224_2, hx224_3⟩ := at_T39 HR0_1.out t223 p224 q224
    have hw224_3 := hx224_3
    have hw224_2 := hx224_2
    have hw224_1 := hx224_1
    have hw224_0 := hx224_0
    cases e224
    replace hx224_0 := (HB.out.cell (World.block_lt_of_cell? w _ hx224_0)).trans hx224_0
    replace hx224_1 := (HB.out.cell (World.block_lt_of_cell? w _ hx224_1)).trans hx224_1
    replace hx224_2 := (HB.out.cell (World.block_lt_of_cell? w _ hx224_2)).trans hx224_2
    replace hx224_3 := (HB.out.cell (World.block_lt_of_cell? w _ hx224_3)).trans hx224_3
    replace p224 := eq_true p224
    replace q224 := eq_true q224
    refine start_ (n := 9) (S := fun w' => w'.cell? ⟨gb222, 0, none⟩ = some (.slice A0_0 l0_0.length c0_0) ∧ w'.cell? ⟨gb222, 1, none⟩ = some (.slice (some ad224) l0_1.length c0_1) ∧ w'.cell? (ad224.add ((t223).toNat * 4)) = some (.string ((rd_T39 l0_1 t223).f0)) ∧ w'.cell? ⟨(ad224.add ((t223).toNat * 4)).block, (ad224.add ((t223).toNat * 4)).off + 1, none⟩ = some (.string ((rd_T39 l0_1 t223).f1)) ∧ w'.cell? ⟨(ad224.add ((t223).toNat * 4)).block, (ad224.add ((t223).toNat * 4)).off + 2, none⟩ = some (.int .u64 ((rd_T39 l0_1 t223).f2)) ∧ w'.cell? ⟨(ad224.add ((t223).toNat * 4)).block, (ad224.add ((t223).toNat * 4)).off + 3, none⟩ = some (.string ((rd_T39 l0_1 t223).f3))) (ds := []) #[false, false, false, false, false, false, false, false, false] (by kernel_rfl) rfl rfl ⟨(blk_cell BK222.out 0).trans rfl, (blk_cell BK222.out 1).trans rfl, ((HB.out.cell (World.block_lt_of_cell? w _ hw224_0)).trans hw224_0), ((HB.out.cell (World.block_lt_of_cell? w _ hw224_1)).trans hw224_1), ((HB.out.cell (World.block_lt_of_cell? w _ hw224_2)).trans hw224_2), ((HB.out.cell (World.block_lt_of_cell? w _ hw224_3)).trans hw224_3)⟩ (fun hHeld => ?_); refine with_tabW cutroomref36_Status.tab4 cutroomref36_Status.bits4 (fun HT_ HW_ => ?_)
    generalize w14.drew = w15 at BK222 HB hx224_0 hx224_1 hx224_2 hx224_3 hHeld ⊢
    refine plan_ [(1, 13, false), (3, 15, false), (0, 12, true), (2, 14, true), (4, 16, false), (5, 17, false), (6, 18, true)] ?_
    repeat (first
     | (
      refine plan_pure (v := ?_) (a' := ?_) rfl rfl (any_of HT_.out (by kernel_rfl)) (Or.inl ⟨by rfl, ?_⟩) ?_ ?_ (fun _ _ _ h => h)
      rotate_left
      ·intro w'
       go_simp
       with_reducible rfl
      rotate_left
      ·simp only [Act.put, List.setIfInBounds_toArray, List.set_cons_zero, List.set_cons_succ, i64_w, i32_w]
       rfl)
     | (
      refine plan_take (v := ?_) (a' := ?_) rfl rfl (take_ofW HT_.out HW_.out (by kernel_rfl)) (Or.inl ⟨by rfl, ?_⟩) hHeld ?_ ?_ (fun _ _ _ h => h)
      rotate_left
      ·rintro w' ⟨s0, s1, s2, s3, s4, s5⟩
       go_simp
       with_reducible rfl
      rotate_left
      ·simp only [Act.put, List.setIfInBounds_toArray, List.set_cons_zero, List.set_cons_succ, i64_w, i32_w]
       rfl))
    refine plan_end ?_
    refine one_ (i := 7) (N := some 19) #[true, true, true, true, true, true, true, true, false] rfl rfl (one_of HT_.out (by kernel_rfl)) (by decide) (fun K hK => ?_)
    refine goes_ Try.func27 (by kernel_rfl) rfl #[.agg #[.slice A0_0 l0_0.length c0_0, .slice (some ad224) l0_1.length c0_1], .string ((rd_T39 l0_1 t223).f1)] (by rfl) rfl rfl (by (try simp only [List.map_toArray, List.map_cons, List.map_nil]); first | done | rfl | (simp only [List.length_drop, List.length_take]; rfl)) ?_
    with_reducible refine (cutroomref36_file.calls k _ _ l0_0 _ _ l0_1 ((rd_T39 l0_1 t223).f1) t225 _ ?side1 ?side2 ?side3 ?side4 A10.out).mono ?_
    (case side1 => repeat (first | exact (Kd.C_below HR0_0.out HB.out) | (with_reducible refine Kd.C_alloc ?_ _) | (with_reducible refine Kd.C_drewN ?_ _) | (with_reducible refine Kd.C_drew ?_)))
    (case side2 => exact HC0_0.out)
    (case side3 => repeat (first | exact (Kd.C_below HR0_1.out HB.out) | (with_reducible refine Kd.C_alloc ?_ _) | (with_reducible refine Kd.C_drewN ?_ _) | (with_reducible refine Kd.C_drew ?_)))
    (case side4 => exact HC0_1.out)
    rintro e w16 ⟨rfl, hb⟩
    refine ⟨_, rfl, ?_⟩
    replace BK222 := cb BK222 hb
    replace HB := cB hb kB
    (try clear hb)
    (try clear hb2)
    (try clear hk)
    (try clear hi)
    refine hK.out _ _ ⟨(blk_cell BK222.out 0).trans rfl, (blk_cell BK222.out 1).trans rfl, ((HB.out.cell (World.block_lt_of_cell? w _ hw224_0)).trans hw224_0), ((HB.out.cell (World.block_lt_of_cell? w _ hw224_1)).trans hw224_1), ((HB.out.cell (World.block_lt_of_cell? w _ hw224_2)).trans hw224_2), ((HB.out.cell (World.block_lt_of_cell? w _ hw224_3)).trans hw224_3)⟩ (fun hHeld => ?_)
    clear hK K
    refine norm_ (a' := ?_) ?_ ?_
    rotate_left
    ·show Act.put _ (some 19) _ = _
     simp only [Act.put, List.setIfInBounds_toArray, List.set_cons_zero, List.set_cons_succ, i64_w, i32_w]
     rfl
    refine pure_ (i := 8) (N := some 6) (v := ?_) (a' := ?_) #[true, true, true, true, true, true, true, true, true] rfl rfl (any_of HT_.out (by kernel_rfl)) (fun _ _ _ h => h) (Or.inl ⟨by rfl, ?_⟩) ?_ ?_
    rotate_left
    ·intro w'
     go_simp
     with_reducible rfl
    rotate_left
    ·simp only [Act.put, List.setIfInBounds_toArray, List.set_cons_zero, List.set_cons_succ, i64_w, i32_w]
     rfl
    refine done_ (done_of HT_.out (by kernel_rfl)) ?_
    go_upto_region 5 with (fail)
    go_cut [30] (fun v30 wc => ∃ (kq : Nat) (x30_10 : Bool), v30 = .bool x30_10 ∧ Aside0 (cutroomref36_Status.j0 kq t223 t225 x30_10 l0_0 l0_1 = some r) ∧ Aside0 (kq ≤ k) ∧ Aside0 (wc.heap[gb222]? = some (.cells #[(.slice A0_0 l0_0.length c0_0), (.slice (some ad224) l0_1.length c0_1)] 30 (0, 0))) ∧ Aside0 (Below w.heap.size w wc))
    case first =>
     have H := HC11.out
     clear HC11
     by_cases c17 : t225 < 0
     ·rw [if_pos c17] at H
      have c17b0 : decide (t225 < 0) = true := decide_eq_true c17
      clear c17
      (first | rw [c17b0] | (simp only [i64_w, i32_w]; rw [c17b0]) | skip)
      have H' := Aside0.mk H
      clear H
      go_wp2
      go_meet
      case rel => exact ⟨_, (true), (by first | rfl | (simp; done) | (simp [*]; done)), H', ⟨by first | omega | exact Nat.le_refl _⟩, ⟨kb BK222⟩, ⟨kB⟩⟩
     ·rw [if_neg c17] at H
      have c17b0 : decide (t225 < 0) = false := decide_eq_false c17
      clear c17
      (first | rw [c17b0] | (simp only [i64_w, i32_w]; rw [c17b0]) | skip)
      by_cases c18 : 0 ≤ t225
      ·rw [if_pos c18] at H
       have c18b0 : decide (0 ≤ t225) = true := decide_eq_true c18
       clear c18
       by_cases c19 : t225 < (l0_0.length : Int)
       ·rw [if_pos c19] at H
        have c19b0 : decide (t225 < (l0_0.length : Int)) = true := decide_eq_true c19
        clear c19
        have H' := Aside0.mk H
        clear H
        have hcz20_0 : w16.cell? ⟨gb222, 0, none⟩ = some (.slice A0_0 l0_0.length c0_0) := (blk_cell BK222.out 0).trans rfl
        have hcz20_1 : w16.cell? ⟨gb222, 1, none⟩ = some (.slice (some ad224) l0_1.length c0_1) := (blk_cell BK222.out 1).trans rfl
        have hfz20_0 := blk_frozen BK222.out 0
        have hfz20_1 := blk_frozen BK222.out 1
        have p226 : 0 ≤ (t225 : Int) := of_decide_eq_true (by first | (with_reducible assumption) | assumption)
        have q226 : t225 < (l0_0.length : Int) := of_decide_eq_true (by first | (with_reducible assumption) | assumption)
        obtain ⟨ad226, e226, hx226_0, hx226_1, hx226_2⟩ := at_T37 HR0_0.out t225 p226 q226
        cases e226
        replace hx226_0 := (HB.out.cell (World.block_lt_of_cell? w _ hx226_0)).trans hx226_0
        replace hx226_1 := (HB.out.cell (World.block_lt_of_cell? w _ hx226_1)).trans hx226_1
        replace hx226_2 := (HB.out.cell (World.block_lt_of_cell? w _ hx226_2)).trans hx226_2
        replace p226 := eq_true p226
        replace q226 := eq_true q226
        go_wp2
        go_meet
        case rel => exact ⟨_, (!((rd_T37 l0_0 t225).f2)), (by first | rfl | (simp; done) | (simp [*]; done)), H', ⟨by first | omega | exact Nat.le_refl _⟩, ⟨kb BK222⟩, ⟨kB⟩⟩
       ·rw [if_neg c19] at H
        exact absurd H (by simp)
      ·rw [if_neg c18] at H
       exact absurd H (by simp)
    case rest =>
     clear HC11
     try clear c1
     try clear c2
     try clear p2
     try clear q2
     try clear hx2
     try clear c4
     try clear c4b0
     try clear c8
     try clear c8b0
     try clear c9
     try clear c9b0
     try clear c16
     try clear c17
     try clear c17b0
     try clear c18
     try clear c18b0
     try clear c19
     try clear c19b0
     try clear hcz13_0
     try clear hcz13_1
     try clear hcz20_0
     try clear hcz20_1
     try clear hcz6_0
     try clear hcz6_1
     try clear hfz13_0
     try clear hfz13_1
     try clear hfz20_0
     try clear hfz20_1
     try clear hfz6_0
     try clear hfz6_1
     try clear hx224_0
     try clear hx224_1
     try clear hx224_2
     try clear hx224_3
     try clear hx226_0
     try clear hx226_1
     try clear hx226_2
     try clear p224
     try clear p226
     try clear q224
     try clear q226
     obtain ⟨kq, x30_10, rfl, HA, HJ10, BK222, HB⟩ := hcut
     cases kq with
     | zero => exact absurd HA.out (by simp [cutroomref36_Status.j0])
     | succ kj10 =>
      have H := HA.out
      clear HA
      simp only [cutroomref36_Status.j0] at H
      by_cases c21 : x30_10 = true
      ·subst c21
       have H1 : (some 3) = some r := by rw [if_pos rfl] at H; exact H
       clear H
       have H := H1
       clear H1
       obtain rfl := Option.some.inj H
       go_wp2
       go_ret
       exact ⟨by first | rfl | (simp [errW_none, errW_some] <;> rfl) | (simp [*, errW_none, errW_some] <;> rfl), kB⟩
      ·replace c21 := Bool.eq_false_iff.mpr c21
       subst c21
       have H1 : (if 0 ≤ t225 then (if t225 < (l0_0.length : Int) then (if 0 ≤ t223 then (if t223 < (l0_1.length : Int) then (if ((rd_T37 l0_0 t225).f1) = ((rd_T39 l0_1 t223).f2) then (some 1) else (some 2)) else (none)) else (none)) else (none)) else (none)) = some r := by rw [if_neg (show ¬ (false = true) by decide)] at H; exact H
       clear H
       have H := H1
       clear H1
       by_cases c22 : 0 ≤ t225
       ·rw [if_pos c22] at H
        have c22b0 : decide (0 ≤ t225) = true := decide_eq_true c22
        clear c22
        by_cases c23 : t225 < (l0_0.length : Int)
        ·rw [if_pos c23] at H
         have c23b0 : decide (t225 < (l0_0.length : Int)) = true := decide_eq_true c23
         clear c23
         by_cases c24 : 0 ≤ t223
         ·rw [if_pos c24] at H
          have c24b0 : decide (0 ≤ t223) = true := decide_eq_true c24
          clear c24
          by_cases c25 : t223 < (l0_1.length : Int)
          ·rw [if_pos c25] at H
           have c25b0 : decide (t223 < (l0_1.length : Int)) = true := decide_eq_true c25
           clear c25
           by_cases c26 : ((rd_T37 l0_0 t225).f1) = ((rd_T39 l0_1 t223).f2)
           ·rw [if_pos c26] at H
            have c26b0 : (((rd_T37 l0_0 t225).f1) == ((rd_T39 l0_1 t223).f2)) = true := beq_iff_eq.mpr c26
            have c26b1 : (((rd_T37 l0_0 t225).f1) != ((rd_T39 l0_1 t223).f2)) = false := bne_eq_false_iff_eq.mpr c26
            clear c26
            obtain rfl := Option.some.inj H
            try go_wp2
            replace BK222 := Aside0.mk (blk_drew BK222.out)
            replace HB := Aside0.mk (below_drew1 HB.out)
            have p227 : 0 ≤ (t225 : Int) := of_decide_eq_true (by first | (with_reducible assumption) | assumption)
            have q227 : t225 < (l0_0.length : Int) := of_decide_eq_true (by first | (with_reducible assumption) | assumption)
            obtain ⟨ad227, e227, hx227_0, hx227_1, hx227_2⟩ := at_T37 HR0_0.out t225 p227 q227
            have hw227_2 := hx227_2
            have hw227_1 := hx227_1
            have hw227_0 := hx227_0
            cases e227
            replace hx227_0 := (HB.out.cell (World.block_lt_of_cell? w _ hx227_0)).trans hx227_0
            replace hx227_1 := (HB.out.cell (World.block_lt_of_cell? w _ hx227_1)).trans hx227_1
            replace hx227_2 := (HB.out.cell (World.block_lt_of_cell? w _ hx227_2)).trans hx227_2
            replace p227 := eq_true p227
            replace q227 := eq_true q227
            have p228 : 0 ≤ (t223 : Int) := of_decide_eq_true (by first | (with_reducible assumption) | assumption)
            have q228 : t223 < (l0_1.length : Int) := of_decide_eq_true (by first | (with_reducible assumption) | assumption)
            obtain ⟨ad228, e228, hx228_0, hx228_1, hx228_2, hx228_3⟩ := at_T39 HR0_1.out t223 p228 q228
            have hw228_3 := hx228_3
            have hw228_2 := hx228_2
            have hw228_1 := hx228_1
            have hw228_0 := hx228_0
            obtain rfl : ad224 = ad228 := (by injection e228)
            replace hx228_0 := (HB.out.cell (World.block_lt_of_cell? w _ hx228_0)).trans hx228_0
            replace hx228_1 := (HB.out.cell (World.block_lt_of_cell? w _ hx228_1)).trans hx228_1
            replace hx228_2 := (HB.out.cell (World.block_lt_of_cell? w _ hx228_2)).trans hx228_2
            replace hx228_3 := (HB.out.cell (World.block_lt_of_cell? w _ hx228_3)).trans hx228_3
            replace p228 := eq_true p228
            replace q228 := eq_true q228
            refine start_ (n := 13) (S := fun w' => w'.cell? ⟨gb222, 0, none⟩ = some (.slice (some ad227) l0_0.length c0_0) ∧ w'.cell? ⟨gb222, 1, none⟩ = some (.slice (some ad224) l0_1.length c0_1) ∧ w'.cell? (ad227.add ((t225).toNat * 3)) = some (.string ((rd_T37 l0_0 t225).f0)) ∧ w'.cell? ⟨(ad227.add ((t225).toNat * 3)).block, (ad227.add ((t225).toNat * 3)).off + 1, none⟩ = some (.int .u64 ((rd_T37 l0_0 t225).f1)) ∧ w'.cell? ⟨(ad227.add ((t225).toNat * 3)).block, (ad227.add ((t225).toNat * 3)).off + 2, none⟩ = some (.bool ((rd_T37 l0_0 t225).f2)) ∧ w'.cell? (ad224.add ((t223).toNat * 4)) = some (.string ((rd_T39 l0_1 t223).f0)) ∧ w'.cell? ⟨(ad224.add ((t223).toNat * 4)).block, (ad224.add ((t223).toNat * 4)).off + 1, none⟩ = some (.string ((rd_T39 l0_1 t223).f1)) ∧ w'.cell? ⟨(ad224.add ((t223).toNat * 4)).block, (ad224.add ((t223).toNat * 4)).off + 2, none⟩ = some (.int .u64 ((rd_T39 l0_1 t223).f2)) ∧ w'.cell? ⟨(ad224.add ((t223).toNat * 4)).block, (ad224.add ((t223).toNat * 4)).off + 3, none⟩ = some (.string ((rd_T39 l0_1 t223).f3))) (ds := []) #[false, false, false, false, false, false, false, false, false, false, false, false, false] (by kernel_rfl) rfl rfl ⟨(blk_cell BK222.out 0).trans rfl, (blk_cell BK222.out 1).trans rfl, ((HB.out.cell (World.block_lt_of_cell? w _ hw227_0)).trans hw227_0), ((HB.out.cell (World.block_lt_of_cell? w _ hw227_1)).trans hw227_1), ((HB.out.cell (World.block_lt_of_cell? w _ hw227_2)).trans hw227_2), ((HB.out.cell (World.block_lt_of_cell? w _ hw228_0)).trans hw228_0), ((HB.out.cell (World.block_lt_of_cell? w _ hw228_1)).trans hw228_1), ((HB.out.cell (World.block_lt_of_cell? w _ hw228_2)).trans hw228_2), ((HB.out.cell (World.block_lt_of_cell? w _ hw228_3)).trans hw228_3)⟩ (fun hHeld => ?_); refine with_tabW cutroomref36_Status.tab7 cutroomref36_Status.bits7 (fun HT_ HW_ => ?_)
            generalize wc.drew = w27 at BK222 HB hx227_0 hx227_1 hx227_2 hx228_0 hx228_1 hx228_2 hx228_3 hHeld ⊢
            refine plan_ [(0, 31, false), (2, 33, false), (6, 37, false), (8, 39, false), (1, 32, true), (3, 34, false), (4, 35, false), (5, 36, true), (7, 38, true), (9, 40, false), (10, 41, false), (11, 42, true), (12, 43, false)] ?_
            repeat (first
             | (
              refine plan_pure (v := ?_) (a' := ?_) rfl rfl (any_of HT_.out (by kernel_rfl)) (Or.inl ⟨by rfl, ?_⟩) ?_ ?_ (fun _ _ _ h => h)
              rotate_left
              ·intro w'
               go_simp
               with_reducible rfl
              rotate_left
              ·simp only [Act.put, List.setIfInBounds_toArray, List.set_cons_zero, List.set_cons_succ, i64_w, i32_w]
               rfl)
             | (
              refine plan_take (v := ?_) (a' := ?_) rfl rfl (take_ofW HT_.out HW_.out (by kernel_rfl)) (Or.inl ⟨by rfl, ?_⟩) hHeld ?_ ?_ (fun _ _ _ h => h)
              rotate_left
              ·rintro w' ⟨s0, s1, s2, s3, s4, s5, s6, s7, s8⟩
               go_simp
               with_reducible rfl
              rotate_left
              ·simp only [Act.put, List.setIfInBounds_toArray, List.set_cons_zero, List.set_cons_succ, i64_w, i32_w]
               rfl))
            refine plan_end ?_
            refine done_ (done_of HT_.out (by kernel_rfl)) ?_
            try go_wp2
            go_ret
            exact ⟨by first | rfl | (simp [errW_none, errW_some] <;> rfl) | (simp [*, errW_none, errW_some] <;> rfl), kB⟩
           ·rw [if_neg c26] at H
            have c26b0 : (((rd_T37 l0_0 t225).f1) == ((rd_T39 l0_1 t223).f2)) = false := beq_eq_false_iff_ne.mpr c26
            have c26b1 : (((rd_T37 l0_0 t225).f1) != ((rd_T39 l0_1 t223).f2)) = true := bne_iff_ne.mpr c26
            obtain rfl := Option.some.inj H
            try go_wp2
            replace BK222 := Aside0.mk (blk_drew BK222.out)
            replace HB := Aside0.mk (below_drew1 HB.out)
            have p227 : 0 ≤ (t225 : Int) := of_decide_eq_true (by first | (with_reducible assumption) | assumption)
            have q227 : t225 < (l0_0.length : Int) := of_decide_eq_true (by first | (with_reducible assumption) | assumption)
            obtain ⟨ad227, e227, hx227_0, hx227_1, hx227_2⟩ := at_T37 HR0_0.out t225 p227 q227
            have hw227_2 := hx227_2
            have hw227_1 := hx227_1
            have hw227_0 := hx227_0
            cases e227
            replace hx227_0 := (HB.out.cell (World.block_lt_of_cell? w _ hx227_0)).trans hx227_0
            replace hx227_1 := (HB.out.cell (World.block_lt_of_cell? w _ hx227_1)).trans hx227_1
            replace hx227_2 := (HB.out.cell (World.block_lt_of_cell? w _ hx227_2)).trans hx227_2
            replace p227 := eq_true p227
            replace q227 := eq_true q227
            have p228 : 0 ≤ (t223 : Int) := of_decide_eq_true (by first | (with_reducible assumption) | assumption)
            have q228 : t223 < (l0_1.length : Int) := of_decide_eq_true (by first | (with_reducible assumption) | assumption)
            obtain ⟨ad228, e228, hx228_0, hx228_1, hx228_2, hx228_3⟩ := at_T39 HR0_1.out t223 p228 q228
            have hw228_3 := hx228_3
            have hw228_2 := hx228_2
            have hw228_1 := hx228_1
            have hw228_0 := hx228_0
            obtain rfl : ad224 = ad228 := (by injection e228)
            replace hx228_0 := (HB.out.cell (World.block_lt_of_cell? w _ hx228_0)).trans hx228_0
            replace hx228_1 := (HB.out.cell (World.block_lt_of_cell? w _ hx228_1)).trans hx228_1
            replace hx228_2 := (HB.out.cell (World.block_lt_of_cell? w _ hx228_2)).trans hx228_2
            replace hx228_3 := (HB.out.cell (World.block_lt_of_cell? w _ hx228_3)).trans hx228_3
            replace p228 := eq_true p228
            replace q228 := eq_true q228
            refine start_ (n := 13) (S := fun w' => w'.cell? ⟨gb222, 0, none⟩ = some (.slice (some ad227) l0_0.length c0_0) ∧ w'.cell? ⟨gb222, 1, none⟩ = some (.slice (some ad224) l0_1.length c0_1) ∧ w'.cell? (ad227.add ((t225).toNat * 3)) = some (.string ((rd_T37 l0_0 t225).f0)) ∧ w'.cell? ⟨(ad227.add ((t225).toNat * 3)).block, (ad227.add ((t225).toNat * 3)).off + 1, none⟩ = some (.int .u64 ((rd_T37 l0_0 t225).f1)) ∧ w'.cell? ⟨(ad227.add ((t225).toNat * 3)).block, (ad227.add ((t225).toNat * 3)).off + 2, none⟩ = some (.bool ((rd_T37 l0_0 t225).f2)) ∧ w'.cell? (ad224.add ((t223).toNat * 4)) = some (.string ((rd_T39 l0_1 t223).f0)) ∧ w'.cell? ⟨(ad224.add ((t223).toNat * 4)).block, (ad224.add ((t223).toNat * 4)).off + 1, none⟩ = some (.string ((rd_T39 l0_1 t223).f1)) ∧ w'.cell? ⟨(ad224.add ((t223).toNat * 4)).block, (ad224.add ((t223).toNat * 4)).off + 2, none⟩ = some (.int .u64 ((rd_T39 l0_1 t223).f2)) ∧ w'.cell? ⟨(ad224.add ((t223).toNat * 4)).block, (ad224.add ((t223).toNat * 4)).off + 3, none⟩ = some (.string ((rd_T39 l0_1 t223).f3))) (ds := []) #[false, false, false, false, false, false, false, false, false, false, false, false, false] (by kernel_rfl) rfl rfl ⟨(blk_cell BK222.out 0).trans rfl, (blk_cell BK222.out 1).trans rfl, ((HB.out.cell (World.block_lt_of_cell? w _ hw227_0)).trans hw227_0), ((HB.out.cell (World.block_lt_of_cell? w _ hw227_1)).trans hw227_1), ((HB.out.cell (World.block_lt_of_cell? w _ hw227_2)).trans hw227_2), ((HB.out.cell (World.block_lt_of_cell? w _ hw228_0)).trans hw228_0), ((HB.out.cell (World.block_lt_of_cell? w _ hw228_1)).trans hw228_1), ((HB.out.cell (World.block_lt_of_cell? w _ hw228_2)).trans hw228_2), ((HB.out.cell (World.block_lt_of_cell? w _ hw228_3)).trans hw228_3)⟩ (fun hHeld => ?_); refine with_tabW cutroomref36_Status.tab7 cutroomref36_Status.bits7 (fun HT_ HW_ => ?_)
            generalize wc.drew = w28 at BK222 HB hx227_0 hx227_1 hx227_2 hx228_0 hx228_1 hx228_2 hx228_3 hHeld ⊢
            refine plan_ [(0, 31, false), (2, 33, false), (6, 37, false), (8, 39, false), (1, 32, true), (3, 34, false), (4, 35, false), (5, 36, true), (7, 38, true), (9, 40, false), (10, 41, false), (11, 42, true), (12, 43, false)] ?_
            repeat (first
             | (
              refine plan_pure (v := ?_) (a' := ?_) rfl rfl (any_of HT_.out (by kernel_rfl)) (Or.inl ⟨by rfl, ?_⟩) ?_ ?_ (fun _ _ _ h => h)
              rotate_left
              ·intro w'
               go_simp
               with_reducible rfl
              rotate_left
              ·simp only [Act.put, List.setIfInBounds_toArray, List.set_cons_zero, List.set_cons_succ, i64_w, i32_w]
               rfl)
             | (
              refine plan_take (v := ?_) (a' := ?_) rfl rfl (take_ofW HT_.out HW_.out (by kernel_rfl)) (Or.inl ⟨by rfl, ?_⟩) hHeld ?_ ?_ (fun _ _ _ h => h)
              rotate_left
              ·rintro w' ⟨s0, s1, s2, s3, s4, s5, s6, s7, s8⟩
               go_simp
               with_reducible rfl
              rotate_left
              ·simp only [Act.put, List.setIfInBounds_toArray, List.set_cons_zero, List.set_cons_succ, i64_w, i32_w]
               rfl))
            refine plan_end ?_
            refine done_ (done_of HT_.out (by kernel_rfl)) ?_
            try go_wp2
            go_ret
            exact ⟨by first | rfl | (simp [errW_none, errW_some] <;> rfl) | (simp [*, errW_none, errW_some] <;> rfl), kB⟩
          ·rw [if_neg c25] at H
           exact absurd H (by simp)
         ·rw [if_neg c24] at H
          exact absurd H (by simp)
        ·rw [if_neg c23] at H
         exact absurd H (by simp)
       ·rw [if_neg c22] at H
        exact absurd H (by simp)
   ·rw [if_neg c9] at H
    exact absurd H (by simp)
  ·rw [if_neg c8] at H
   exact absurd H (by simp)
end Go.Proofs.Ytpnhkmicepmciaa.Y

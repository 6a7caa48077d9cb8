/- A part of this claim's walks: functions' contracts, or plain lemmas; conditions: each one's own. -/
import Derived.Test.YtpnhkmicepmciaaY0
import Derived.Test.YtpnhkmicepmciaaY5
import Derived.Test.YtpnhkmicepmciaaY7
import Derived.Test.YtpnhkmicepmciaaY8
import Derived.Test.YtpnhkmicepmciaaPar
namespace Go.Proofs.Ytpnhkmicepmciaa.Y
open Go.RowKit Go.Proofs.YtpnhkmicepmciaaW.PrintWords Go.Proofs.YtpnhkmicepmciaaW.PrintLast Go.Proofs.YtpnhkmicepmciaaW.PrintMore Go.Proofs.Ytpnhkmicepmciaa.Par
attribute [local go_sem] max2_int min2_int max_two min_two max_three min_three max_four min_four   -- for this text's walks alone
set_option linter.unusedVariables false
set_option linter.unusedSimpArgs false
mutual
def media_Run.l1 : Nat → List Int → List (S61) → List (S45) → Int → Int → List (S37) → List (S39) → Option ((List (S37)) × (List (S39)) × (List (S61)) × List Int)
 | 0, _, _, _, _, _, _, _ => none
 | k + 1, x7, x9, x40, x41, x42, x123000, x123001 => if x42 < x41 then (if 0 ≤ x42 then (if x42 < (x40.length : Int) then ((media_Step.f x123000 x123001 ((rd_T45 x40 x42).f0) ((rd_T45 x40 x42).f1) ((rd_T45 x40 x42).f2) ((rd_T45 x40 x42).f3) ((rd_T45 x40 x42).f4)).bind fun bt125 => (if x42 < (x7.length : Int) then ((some (x7.set (x42 : Int).toNat bt125.2.2.2 : List Int)).bind fun y136 => (if bt125.2.2.2 = 0 then (if x9.length + bt125.2.2.1.length < 5864062014805 then (media_Run.l1 k y136 (x9 ++ bt125.2.2.1) x40 x41 (wrap64 (x42 + 1)) bt125.1 bt125.2.1) else (none)) else (media_Run.l1 k y136 x9 x40 x41 (wrap64 (x42 + 1)) x123000 x123001))) else (none))) else (none)) else (none)) else (some (x123000, x123001, x9, x7))
def media_Run.l0 : Nat → List Int → Int → Int → Option ((List (S37)) × (List (S39)) × (List (S61)) × List Int)
 | 0, _, _, _ => none
 | k + 1, x7, x23, x24 => if x24 < x23 then (if 0 ≤ x24 then (if x24 < (x7.length : Int) then (media_Run.l0 k (x7.set (x24 : Int).toNat 1) x23 (wrap64 (x24 + 1))) else (none)) else (none)) else (some (([] : List (S37)), ([] : List (S39)), ([] : List (S61)), x7))
end
def media_Run.f (k : Nat) (l0_0 : List (S37)) (l0_1 : List (S39)) (l1 : List (S45)) : Option ((List (S37)) × (List (S39)) × (List (S61)) × List Int) := if 0 ≤ (l1.length : Int) then (if ((l1.length : Int) : Int).toNat ≤ 35184372088832 then ((some (List.replicate ((l1.length : Int) : Int).toNat 0 : List Int)).bind fun y111 => ((media_Valid.f l0_0 l0_1).bind fun t114 => (if t114 = true then ((media_File.f l0_0).bind fun t116 => ((media_Link.f l0_1).bind fun t119 => (media_Run.l1 k y111 ([] : List (S61)) l1 (l1.length : Int) 0 t116 t119))) else (media_Run.l0 k y111 (y111.length : Int) 0)))) else (none)) else (none)
theorem media_Run.mono_l : ∀ k, (∀ y0 y1 y2 y3 y4 y5 y6, LeO (media_Run.l1 k y0 y1 y2 y3 y4 y5 y6) (media_Run.l1 (k + 1) y0 y1 y2 y3 y4 y5 y6)) ∧ (∀ y0 y1 y2, LeO (media_Run.l0 k y0 y1 y2) (media_Run.l0 (k + 1) y0 y1 y2))
 | 0 => ⟨fun _ _ _ _ _ _ _ r h => by simp [media_Run.l1] at h, fun _ _ _ r h => by simp [media_Run.l0] at h⟩
 | k + 1 => by
  obtain ⟨ih0, ih1⟩ := media_Run.mono_l k
  refine ⟨?_, ?_⟩
  ·intro y0 y1 y2 y3 y4 y5 y6
   unfold media_Run.l1
   repeat' first
   | (with_reducible exact ih0 _ _ _ _ _ _ _)
   | (with_reducible exact ih1 _ _ _)
   | (with_reducible exact LeO.refl _)
   | (with_reducible exact LeO.none _)
   | (with_reducible refine LeO.ite ?_ ?_)
   | (with_reducible refine LeO.bind ?_ (fun _ => ?_))
   | exact ih0 _ _ _ _ _ _ _
   | exact ih1 _ _ _
   | exact LeO.none _
   | refine LeO.ite ?_ ?_
   | refine LeO.bind ?_ (fun _ => ?_)
  ·intro y0 y1 y2
   unfold media_Run.l0
   repeat' first
   | (with_reducible exact ih0 _ _ _ _ _ _ _)
   | (with_reducible exact ih1 _ _ _)
   | (with_reducible exact LeO.refl _)
   | (with_reducible exact LeO.none _)
   | (with_reducible refine LeO.ite ?_ ?_)
   | (with_reducible refine LeO.bind ?_ (fun _ => ?_))
   | exact ih0 _ _ _ _ _ _ _
   | exact ih1 _ _ _
   | exact LeO.none _
   | refine LeO.ite ?_ ?_
   | refine LeO.bind ?_ (fun _ => ?_)
theorem media_Run.mono : ∀ a0 a1 a2 k, LeO (media_Run.f k a0 a1 a2) (media_Run.f (k + 1) a0 a1 a2) := by
 intro a0 a1 a2 k
 obtain ⟨ih0, ih1⟩ := media_Run.mono_l k
 unfold media_Run.f
 repeat' first
   | (with_reducible exact ih0 _ _ _ _ _ _ _)
   | (with_reducible exact ih1 _ _ _)
   | (with_reducible exact LeO.refl _)
   | (with_reducible exact LeO.none _)
   | (with_reducible refine LeO.ite ?_ ?_)
   | (with_reducible refine LeO.bind ?_ (fun _ => ?_))
   | exact ih0 _ _ _ _ _ _ _
   | exact ih1 _ _ _
   | exact LeO.none _
   | refine LeO.ite ?_ ?_
   | refine LeO.bind ?_ (fun _ => ?_)
def media_Run.T10 : Bool × List (List Nat × List Nat) := (true, [([], []), ([0], [0]), ([1], [1]), ([], []), ([3], [3]), ([4, 2], [4]), ([2, 5], [2, 5]), ([], []), ([7, 6, 5, 0, 1, 2, 3, 4, 5, 6, 7], [6, 7])])
def media_Run.B10 : List Nat := [0, 1, 3, 0, 8, 31, 63, 0, 255]
theorem media_Run.tab10 : rtab .any (opsOf Try.f22 10) = media_Run.T10 := by kernel_rfl
theorem media_Run.bits10 : waitsOk media_Run.T10.2 media_Run.B10 = true := by kernel_rfl
set_option maxHeartbeats 8000000 in
set_option maxRecDepth 100000 in
theorem media_Run.calls (k : Nat) (A0_0 : Option Addr) (c0_0 : Nat) (l0_0 : List (S37)) (A0_1 : Option Addr) (c0_1 : Nat) (l0_1 : List (S39)) (A1 : Option Addr) (c1 : Nat) (l1 : List (S45)) (r1 : List (S37)) (r2 : List (S39)) (r3 : List (S61)) (r4 : List Int) (w : World) (hr0_0 : Kd.C k37 w A0_0 l0_0.length l0_0) (hc0_0 : l0_0.length ≤ c0_0) (hr0_1 : Kd.C k39 w A0_1 l0_1.length l0_1) (hc0_1 : l0_1.length ≤ c0_1) (hr1 : Kd.C k45 w A1 l1.length l1) (hc1 : l1.length ≤ c1) (h : media_Run.f k l0_0 l0_1 l1 = some (r1, r2, r3, r4)) :
  Calls Try.prog 22 #[.agg #[.slice A0_0 l0_0.length c0_0, .slice A0_1 l0_1.length c0_1], .slice A1 l1.length c1] w fun e w' => ∃ v0_ v1_ v2_ v3_ : Value, e = .returned (.tuple #[.agg #[v0_, v1_], v2_, v3_]) ∧ Kd.R k37 37 w' w.heap.size (fun _ => True) v0_ r1 ∧ Kd.R k39 39 w' w.heap.size (fun _ => True) v1_ r2 ∧ Kd.R k61 61 w' w.heap.size (fun _ => True) v2_ r3 ∧ Kd.R (Kd.int .i64) 49 w' w.heap.size (fun _ => True) v3_ r4 ∧ Below w.heap.size w w' := by
 have hu30 := Try.underlying30
 have hu45 := Try.underlying45
 have HR0_0 := Aside0.mk hr0_0
 have HC0_0 := Aside0.mk hc0_0
 clear hr0_0 hc0_0
 have HR0_1 := Aside0.mk hr0_1
 have HC0_1 := Aside0.mk hc0_1
 clear hr0_1 hc0_1
 have HR1 := Aside0.mk hr1
 have HC1 := Aside0.mk hc1
 clear hr1 hc1
 have HB := Aside0.mk (Below.refl w.heap.size w)
 have H : (if 0 ≤ (l1.length : Int) then (if ((l1.length : Int) : Int).toNat ≤ 35184372088832 then ((some (List.replicate ((l1.length : Int) : Int).toNat 0 : List Int)).bind fun y111 => ((media_Valid.f l0_0 l0_1).bind fun t114 => (if t114 = true then ((media_File.f l0_0).bind fun t116 => ((media_Link.f l0_1).bind fun t119 => (media_Run.l1 k y111 ([] : List (S61)) l1 (l1.length : Int) 0 t116 t119))) else (media_Run.l0 k y111 (y111.length : Int) 0)))) else (none)) else (none)) = some (r1, r2, r3, r4) := h
 clear h
 by_cases c3 : 0 ≤ (l1.length : Int)
 ·rw [if_pos c3] at H
  have c3b0 := eq_true c3
  have c3b1 : decide (0 ≤ (l1.length : Int)) = true := decide_eq_true c3
  clear c3
  by_cases c4 : ((l1.length : Int) : Int).toNat ≤ 35184372088832
  ·rw [if_pos c4] at H
   have c4b0 := eq_true c4
   have c4b1 : decide (((l1.length : Int) : Int).toNat ≤ 35184372088832) = true := decide_eq_true c4
   clear c4
   obtain ⟨y111, hy111⟩ : ∃ y_ : List Int, y_ = (List.replicate ((l1.length : Int) : Int).toNat 0) := ⟨_, rfl⟩
   replace H : ((media_Valid.f l0_0 l0_1).bind fun t114 => (if t114 = true then ((media_File.f l0_0).bind fun t116 => ((media_Link.f l0_1).bind fun t119 => (media_Run.l1 k y111 ([] : List (S61)) l1 (l1.length : Int) 0 t116 t119))) else (media_Run.l0 k y111 (y111.length : Int) 0))) = some (r1, r2, r3, r4) := by first | (rw [hy111]; with_reducible exact H) | (have H2_ := (Option.bind_some _ _).symm.trans H; rw [hy111]; with_reducible exact H2_) | (have H2_ := (Option.bind_some _ _).symm.trans H; with_reducible exact H2_) | with_reducible exact H | (rw [hy111]; exact H) | exact H
   have Ny111 := Aside0.mk hy111
   clear hy111
   replace H := Option.bind_eq_some_iff.mp H
   obtain ⟨t114, A50, H⟩ := H
   replace H : (if t114 = true then ((media_File.f l0_0).bind fun t116 => ((media_Link.f l0_1).bind fun t119 => (media_Run.l1 k y111 ([] : List (S61)) l1 (l1.length : Int) 0 t116 t119))) else (media_Run.l0 k y111 (y111.length : Int) 0)) = some (r1, r2, r3, r4) := H
   have A5 := Aside0.mk A50
   clear A50
   by_cases c6 : t114 = true
   ·subst c6
    have H1 : ((media_File.f l0_0).bind fun t116 => ((media_Link.f l0_1).bind fun t119 => (media_Run.l1 k y111 ([] : List (S61)) l1 (l1.length : Int) 0 t116 t119))) = some (r1, r2, r3, r4) := by rw [if_pos rfl] at H; exact H
    clear H
    have H := H1
    clear H1
    replace H := Option.bind_eq_some_iff.mp H
    obtain ⟨t116, A70, H⟩ := H
    replace H : ((media_Link.f l0_1).bind fun t119 => (media_Run.l1 k y111 ([] : List (S61)) l1 (l1.length : Int) 0 t116 t119)) = some (r1, r2, r3, r4) := H
    have A7 := Aside0.mk A70
    clear A70
    replace H := Option.bind_eq_some_iff.mp H
    obtain ⟨t119, A80, H⟩ := H
    replace H : (media_Run.l1 k y111 ([] : List (S61)) l1 (l1.length : Int) 0 t116 t119) = some (r1, r2, r3, r4) := H
    have A8 := Aside0.mk A80
    clear A80
    have H' := Aside0.mk H
    clear H
    go_enter Try.func22, Try.ntmps22
    try go_wp2_with (first | ((with_reducible refine gate_dst (N := 2) rfl ?_); refine box_event ?hg (N := 2) ?hd (cs := #[.slice A0_0 l0_0.length c0_0, .slice A0_1 l0_1.length c0_1]) (t := 30) ?hr ?_; (case hd => rfl); (case hg => rfl); (case hr => first | (go_simp; done) | (go_simp; rfl)); intro gb109 hg w9 hbox hb; have BK109 := Aside0.mk (hbox); have GW109 := gw_ hg kB; have GE109 := gw_ hg kB; replace HB := cB hb kB; clear hb hbox hg) | ((with_reducible refine gate_dst (N := 4) rfl ?_); refine box_event ?hg (N := 4) ?hd (cs := #[.slice none 0 0, .slice none 0 0]) (t := 30) ?hr ?_; (case hd => rfl); (case hg => rfl); (case hr => first | (go_simp; done) | (go_simp; rfl)); intro gb110 hg w10 hbox hb; have BK110 := Aside0.mk (hbox); have GW110 := gw_ hg kB; have GE110 := gw_ hg kB; have NB109_110 := nb_lt hg BK109; have NB110_109 := nb_gt hg BK109; replace BK109 := cb BK109 hb; replace HB := cB hb kB; clear hb hbox hg) | ((with_reducible refine gate_dst (N := 18) rfl ?_); refine Kd.R_make (Kd.int .i64) _ 49 rfl (N := 18) rfl 54 _ _ rfl (l1.length : Int) rfl rfl Try.underlying54 (.int .i64 0) 8 info49 rfl (by decide) (by omega) 0 (ok := fun _ => True) (okp := fun _ => True) rfl (fun _ hk => hk) trivial (of_decide_eq_true (by first | (with_reducible assumption) | assumption)) (Nat.le_trans (Nat.mul_le_mul_right _ (of_decide_eq_true (by first | (with_reducible assumption) | assumption) : (l1.length : Int).toNat ≤ 35184372088832)) (by omega)) (Below.refl _ _) (Nat.le_refl _) ?_; intro v112 w11 ho12 hb hg_ hnew_; clear hg_ hnew_; (first | rw [← Ny111.out] at ho12 | (simp only [Int.reduceToNat] at ho12; rw [← Ny111.out] at ho12)); have HO113 := Aside0.mk (Kd.R_lower ho12 (below_size (kB))); replace BK109 := cb BK109 hb; replace BK110 := cb BK110 hb; replace HB := cB hb kB; clear hb ho12; have hnb13 := NB109_110.out; have hnc13 := NB110_109.out; have hcz14_0 : w11.cell? ⟨gb109, 0, none⟩ = some (.slice A0_0 l0_0.length c0_0) := (blk_cell BK109.out 0).trans rfl; have hcz14_1 : w11.cell? ⟨gb109, 1, none⟩ = some (.slice A0_1 l0_1.length c0_1) := (blk_cell BK109.out 1).trans rfl; have hfz14_0 := blk_frozen BK109.out 0; have hfz14_1 := blk_frozen BK109.out 1) | ((with_reducible refine gate_callee (f := 13) rfl ?_); refine goesL_ (some 20) rfl rfl Try.func13 (by kernel_rfl) rfl #[.agg #[.slice A0_0 l0_0.length c0_0, .slice A0_1 l0_1.length c0_1]] rfl (by (try simp only [List.map_toArray, List.map_cons, List.map_nil]); first | done | rfl | (simp only [List.length_drop, List.length_take]; rfl)) ?_; (with_reducible refine (media_Valid.calls _ _ l0_0 _ _ l0_1 true _ ?side1 ?side2 ?side3 ?side4 A5.out).mono ?_); (case side1 => repeat (first | exact (Kd.C_below HR0_0.out HB.out) | (with_reducible refine Kd.C_alloc ?_ _) | (with_reducible refine Kd.C_drewN ?_ _) | (with_reducible refine Kd.C_drew ?_))); (case side2 => exact HC0_0.out); (case side3 => repeat (first | exact (Kd.C_below HR0_1.out HB.out) | (with_reducible refine Kd.C_alloc ?_ _) | (with_reducible refine Kd.C_drewN ?_ _) | (with_reducible refine Kd.C_drew ?_))); (case side4 => exact HC0_1.out); rintro e w15 ⟨rfl, hb⟩; refine ⟨_, rfl, ?_⟩; replace HO113 := cr HO113 hb; replace BK109 := cb BK109 hb; replace BK110 := cb BK110 hb; replace HB := cB hb kB; (try clear hb); (try clear hb2); (try clear hk); (try clear hi)))
    replace HO113 := Aside0.mk (Kd.R_drew HO113.out)
    replace BK109 := Aside0.mk (blk_drew BK109.out)
    replace BK110 := Aside0.mk (blk_drew BK110.out)
    replace HB := Aside0.mk (below_drew1 HB.out)
    refine start_ (n := 9) (S := fun w' => w'.cell? ⟨gb109, 0, none⟩ = some (.slice A0_0 l0_0.length c0_0) ∧ w'.cell? ⟨gb109, 1, none⟩ = some (.slice A0_1 l0_1.length c0_1)) (ds := []) #[false, false, false, false, false, false, false, false, false] (by kernel_rfl) rfl rfl ⟨(blk_cell BK109.out 0).trans rfl, (blk_cell BK109.out 1).trans rfl⟩ (fun hHeld => ?_); refine with_tabW media_Run.tab10 media_Run.bits10 (fun HT_ HW_ => ?_)
    generalize w15.drew = w16 at HO113 BK109 BK110 HB hHeld ⊢
    refine plan_ [(0, 33, false), (3, 36, false), (1, 34, true), (4, 37, true)] ?_
    repeat (first
     | (
      refine plan_pure (v := ?_) (a' := ?_) rfl rfl (any_of HT_.out (by kernel_rfl)) (Or.inl ⟨by rfl, ?_⟩) ?_ ?_ (fun _ _ _ h => h)
      rotate_left
      ·intro w'
       go_simp
       with_reducible rfl
      rotate_left
      ·simp only [Act.put, List.setIfInBounds_toArray, List.set_cons_zero, List.set_cons_succ, i64_w, i32_w]
       rfl)
     | (
      refine plan_take (v := ?_) (a' := ?_) rfl rfl (take_ofW HT_.out HW_.out (by kernel_rfl)) (Or.inl ⟨by rfl, ?_⟩) hHeld ?_ ?_ (fun _ _ _ h => h)
      rotate_left
      ·rintro w' ⟨s0, s1⟩
       go_simp
       with_reducible rfl
      rotate_left
      ·simp only [Act.put, List.setIfInBounds_toArray, List.set_cons_zero, List.set_cons_succ, i64_w, i32_w]
       rfl))
    refine plan_end ?_
    refine join_ (σ := Value × Value × Nat) 1 #[true, true, true, true, true, true, true, true, false] (fun s_ => [(35, s_.1), (38, s_.2.1), (10, .pointer (some ⟨s_.2.2, 0, none⟩)), (39, .agg #[s_.1, s_.2.1])]) (fun s_ w' => (w'.cell? ⟨gb109, 0, none⟩ = some (.slice A0_0 l0_0.length c0_0) ∧ w'.cell? ⟨gb109, 1, none⟩ = some (.slice A0_1 l0_1.length c0_1)) ∧ (Kd.R (Kd.int .i64) 49 w' w.heap.size (fun _ => True) v112 y111) ∧ (Kd.R k37 37 w' w.heap.size (fun _ => True) s_.1 t116) ∧ (Kd.R k39 39 w' w.heap.size (fun _ => True) s_.2.1 t119) ∧ (w'.heap[gb109]? = some (.cells #[.slice A0_0 l0_0.length c0_0, .slice A0_1 l0_1.length c0_1] 30 (0, 0))) ∧ (w'.heap[gb110]? = some (.cells #[.slice none 0 0, .slice none 0 0] 30 (0, 0))) ∧ (w'.heap[s_.2.2]? = some (.cells #[.slice none 0 0, .slice none 0 0] 30 (0, 0))) ∧ (w.heap.size ≤ s_.2.2) ∧ (w.heap.size ≤ s_.2.2) ∧ (gb109 ≠ s_.2.2) ∧ (s_.2.2 ≠ gb109) ∧ (gb110 ≠ s_.2.2) ∧ (s_.2.2 ≠ gb110) ∧ (Below w.heap.size w w')) ?_ ?_
    rotate_left
    ·intro hCont
     refine two_ (i := 2) (j := 7) (Ni := some 35) (Nj := some 10) #[true, true, true, true, true, false, false, false, false] #[true, true, false, true, true, false, false, true, false] rfl rfl rfl rfl (two_of HT_.out (by kernel_rfl)) (by decide) (by decide) (fun K hK => ?_) (fun K hK => ?_)
     ·skip
      refine goes_ Try.func33 (by kernel_rfl) rfl #[.slice A0_0 l0_0.length c0_0] (by rfl) rfl rfl (by (try simp only [List.map_toArray, List.map_cons, List.map_nil]); first | done | rfl | (simp only [List.length_drop, List.length_take]; rfl)) ?_
      with_reducible refine (media_File.calls _ _ l0_0 t116 _ ?side1 ?side2 A7.out).mono ?_
      (case side1 => repeat (first | exact (Kd.C_below HR0_0.out HB.out) | (with_reducible refine Kd.C_alloc ?_ _) | (with_reducible refine Kd.C_drewN ?_ _) | (with_reducible refine Kd.C_drew ?_)))
      (case side2 => exact HC0_0.out)
      rintro e w17 ⟨v117, rfl, ho0, hb⟩
      refine ⟨_, rfl, ?_⟩
      have HO118 := Aside0.mk (Kd.R_lower ho0 (below_size (kB)))
      replace HO113 := cr HO113 hb
      replace BK109 := cb BK109 hb
      replace BK110 := cb BK110 hb
      replace HB := cB hb kB
      (try clear hb)
      (try clear hb2)
      (try clear hk)
      (try clear hi)
      (try clear ho0)
      refine hK.out _ _ ⟨(blk_cell BK109.out 0).trans rfl, (blk_cell BK109.out 1).trans rfl⟩ (fun hHeld => ?_)
      clear hK K
      refine norm_ (a' := ?_) ?_ ?_
      rotate_left
      ·show Act.put _ (some 35) _ = _
       simp only [Act.put, List.setIfInBounds_toArray, List.set_cons_zero, List.set_cons_succ, i64_w, i32_w]
       rfl
      refine two_ (i := 5) (j := 7) (Ni := some 38) (Nj := some 10) #[true, true, true, true, true, true, false, false, false] #[true, true, true, true, true, false, false, true, false] rfl rfl rfl rfl (two_of HT_.out (by kernel_rfl)) (by decide) (by decide) (fun K hK => ?_) (fun K hK => ?_)
      ·skip
       refine goes_ Try.func34 (by kernel_rfl) rfl #[.slice A0_1 l0_1.length c0_1] (by rfl) rfl rfl (by (try simp only [List.map_toArray, List.map_cons, List.map_nil]); first | done | rfl | (simp only [List.length_drop, List.length_take]; rfl)) ?_
       with_reducible refine (media_Link.calls _ _ l0_1 t119 _ ?side1 ?side2 A8.out).mono ?_
       (case side1 => repeat (first | exact (Kd.C_below HR0_1.out HB.out) | (with_reducible refine Kd.C_alloc ?_ _) | (with_reducible refine Kd.C_drewN ?_ _) | (with_reducible refine Kd.C_drew ?_)))
       (case side2 => exact HC0_1.out)
       rintro e w18 ⟨v120, rfl, ho0, hb⟩
       refine ⟨_, rfl, ?_⟩
       have HO121 := Aside0.mk (Kd.R_lower ho0 (below_size (kB)))
       replace HO113 := cr HO113 hb
       replace HO118 := cr HO118 hb
       replace BK109 := cb BK109 hb
       replace BK110 := cb BK110 hb
       replace HB := cB hb kB
       (try clear hb)
       (try clear hb2)
       (try clear hk)
       (try clear hi)
       (try clear ho0)
       obtain ⟨Ao19, co19, eo19⟩ := Kd.R_slice HO121.out
       (first | subst eo19 | (injection eo19 with f1_ f2_ f3_; have f4_ := f1_.symm; have f5_ := f3_.symm; clear f1_ f2_ f3_; subst f4_; subst f5_))
       obtain ⟨Ao20, co20, eo20⟩ := Kd.R_slice HO118.out
       (first | subst eo20 | (injection eo20 with f1_ f2_ f3_; have f4_ := f1_.symm; have f5_ := f3_.symm; clear f1_ f2_ f3_; subst f4_; subst f5_))
       refine hK.out _ _ ⟨(blk_cell BK109.out 0).trans rfl, (blk_cell BK109.out 1).trans rfl⟩ (fun hHeld => ?_)
       clear hK K
       refine norm_ (a' := ?_) ?_ ?_
       rotate_left
       ·show Act.put _ (some 38) _ = _
        simp only [Act.put, List.setIfInBounds_toArray, List.set_cons_zero, List.set_cons_succ, i64_w, i32_w]
        rfl
       refine pure_ (i := 6) (N := some 39) (v := ?_) (a' := ?_) #[true, true, true, true, true, true, true, false, false] rfl rfl (any_of HT_.out (by kernel_rfl)) (fun _ _ _ h => h) (Or.inl ⟨by rfl, ?_⟩) ?_ ?_
       rotate_left
       ·intro w'
        go_simp
        with_reducible rfl
       rotate_left
       ·simp only [Act.put, List.setIfInBounds_toArray, List.set_cons_zero, List.set_cons_succ, i64_w, i32_w]
        rfl
       refine one_ (i := 7) (N := some 10) #[true, true, true, true, true, true, true, true, false] rfl rfl (one_of HT_.out (by kernel_rfl)) (by decide) (fun K hK => ?_)
       refine box_step ?hg (N := 10) ?hd (cs := #[.slice none 0 0, .slice none 0 0]) (t := 30) ?hr ?_; (case hd => rfl); (case hg => rfl); (case hr => first | (go_simp; done) | (go_simp; rfl))
       intro gb122 hg w21 hbox hb
       have BK122 := Aside0.mk (hbox)
       have GW122 := gw_ hg kB
       have GE122 := gw_ hg kB
       have NB109_122 := nb_lt hg BK109
       have NB122_109 := nb_gt hg BK109
       have NB110_122 := nb_lt hg BK110
       have NB122_110 := nb_gt hg BK110
       replace HO113 := cr HO113 hb
       replace HO118 := cr HO118 hb
       replace HO121 := cr HO121 hb
       replace BK109 := cb BK109 hb
       replace BK110 := cb BK110 hb
       replace HB := cB hb kB
       clear hb hbox hg
       refine hK.out _ _ ⟨(blk_cell BK109.out 0).trans rfl, (blk_cell BK109.out 1).trans rfl⟩ (fun hHeld => ?_)
       clear hK K
       refine norm_ (a' := ?_) ?_ ?_
       rotate_left
       ·show Act.put _ (some 10) _ = _
        simp only [Act.put, List.setIfInBounds_toArray, List.set_cons_zero, List.set_cons_succ, i64_w, i32_w]
        rfl
       exact norm_ (by simp only [putAll, Act.put, List.setIfInBounds_toArray, List.set_cons_zero, List.set_cons_succ]) (hCont (.slice Ao20 t116.length co20, .slice Ao19 t119.length co19, gb122) _ ⟨hHeld, (kr HO113), (kr HO118), (kr HO121), (kb BK109), (kb BK110), (kb BK122), GW122.out, GE122.out, NB109_122.out, NB122_109.out, NB110_122.out, NB122_110.out, (kB)⟩)
      ·skip
       refine box_step ?hg (N := 10) ?hd (cs := #[.slice none 0 0, .slice none 0 0]) (t := 30) ?hr ?_; (case hd => rfl); (case hg => rfl); (case hr => first | (go_simp; done) | (go_simp; rfl))
       intro gb122 hg w18 hbox hb
       have BK122 := Aside0.mk (hbox)
       have GW122 := gw_ hg kB
       have GE122 := gw_ hg kB
       have NB109_122 := nb_lt hg BK109
       have NB122_109 := nb_gt hg BK109
       have NB110_122 := nb_lt hg BK110
       have NB122_110 := nb_gt hg BK110
       replace HO113 := cr HO113 hb
       replace HO118 := cr HO118 hb
       replace BK109 := cb BK109 hb
       replace BK110 := cb BK110 hb
       replace HB := cB hb kB
       clear hb hbox hg
       refine hK.out _ _ ⟨(blk_cell BK109.out 0).trans rfl, (blk_cell BK109.out 1).trans rfl⟩ (fun hHeld => ?_)
       clear hK K
       refine norm_ (a' := ?_) ?_ ?_
       rotate_left
       ·show Act.put _ (some 10) _ = _
        simp only [Act.put, List.setIfInBounds_toArray, List.set_cons_zero, List.set_cons_succ, i64_w, i32_w]
        rfl
       refine one_ (i := 5) (N := some 38) #[true, true, true, true, true, true, false, true, false] rfl rfl (one_of HT_.out (by kernel_rfl)) (by decide) (fun K hK => ?_)
       refine goes_ Try.func34 (by kernel_rfl) rfl #[.slice A0_1 l0_1.length c0_1] (by rfl) rfl rfl (by (try simp only [List.map_toArray, List.map_cons, List.map_nil]); first | done | rfl | (simp only [List.length_drop, List.length_take]; rfl)) ?_
       with_reducible refine (media_Link.calls _ _ l0_1 t119 _ ?side1 ?side2 A8.out).mono ?_
       (case side1 => repeat (first | exact (Kd.C_below HR0_1.out HB.out) | (with_reducible refine Kd.C_alloc ?_ _) | (with_reducible refine Kd.C_drewN ?_ _) | (with_reducible refine Kd.C_drew ?_)))
       (case side2 => exact HC0_1.out)
       rintro e w19 ⟨v120, rfl, ho0, hb⟩
       refine ⟨_, rfl, ?_⟩
       have HO121 := Aside0.mk (Kd.R_lower ho0 (below_size (kB)))
       replace HO113 := cr HO113 hb
       replace HO118 := cr HO118 hb
       replace BK109 := cb BK109 hb
       replace BK110 := cb BK110 hb
       replace BK122 := cb BK122 hb
       replace HB := cB hb kB
       (try clear hb)
       (try clear hb2)
       (try clear hk)
       (try clear hi)
       (try clear ho0)
       obtain ⟨Ao20, co20, eo20⟩ := Kd.R_slice HO121.out
       (first | subst eo20 | (injection eo20 with f1_ f2_ f3_; have f4_ := f1_.symm; have f5_ := f3_.symm; clear f1_ f2_ f3_; subst f4_; subst f5_))
       obtain ⟨Ao21, co21, eo21⟩ := Kd.R_slice HO118.out
       (first | subst eo21 | (injection eo21 with f1_ f2_ f3_; have f4_ := f1_.symm; have f5_ := f3_.symm; clear f1_ f2_ f3_; subst f4_; subst f5_))
       refine hK.out _ _ ⟨(blk_cell BK109.out 0).trans rfl, (blk_cell BK109.out 1).trans rfl⟩ (fun hHeld => ?_)
       clear hK K
       refine norm_ (a' := ?_) ?_ ?_
       rotate_left
       ·show Act.put _ (some 38) _ = _
        simp only [Act.put, List.setIfInBounds_toArray, List.set_cons_zero, List.set_cons_succ, i64_w, i32_w]
        rfl
       refine pure_ (i := 6) (N := some 39) (v := ?_) (a' := ?_) #[true, true, true, true, true, true, true, true, false] rfl rfl (any_of HT_.out (by kernel_rfl)) (fun _ _ _ h => h) (Or.inl ⟨by rfl, ?_⟩) ?_ ?_
       rotate_left
       ·intro w'
        go_simp
        with_reducible rfl
       rotate_left
       ·simp only [Act.put, List.setIfInBounds_toArray, List.set_cons_zero, List.set_cons_succ, i64_w, i32_w]
        rfl
       exact norm_ (by simp only [putAll, Act.put, List.setIfInBounds_toArray, List.set_cons_zero, List.set_cons_succ]) (hCont (.slice Ao21 t116.length co21, .slice Ao20 t119.length co20, gb122) _ ⟨hHeld, (kr HO113), (kr HO118), (kr HO121), (kb BK109), (kb BK110), (kb BK122), GW122.out, GE122.out, NB109_122.out, NB122_109.out, NB110_122.out, NB122_110.out, (kB)⟩)
     ·skip
      refine box_step ?hg (N := 10) ?hd (cs := #[.slice none 0 0, .slice none 0 0]) (t := 30) ?hr ?_; (case hd => rfl); (case hg => rfl); (case hr => first | (go_simp; done) | (go_simp; rfl))
      intro gb122 hg w17 hbox hb
      have BK122 := Aside0.mk (hbox)
      have GW122 := gw_ hg kB
      have GE122 := gw_ hg kB
      have NB109_122 := nb_lt hg BK109
      have NB122_109 := nb_gt hg BK109
      have NB110_122 := nb_lt hg BK110
      have NB122_110 := nb_gt hg BK110
      replace HO113 := cr HO113 hb
      replace BK109 := cb BK109 hb
      replace BK110 := cb BK110 hb
      replace HB := cB hb kB
      clear hb hbox hg
      refine hK.out _ _ ⟨(blk_cell BK109.out 0).trans rfl, (blk_cell BK109.out 1).trans rfl⟩ (fun hHeld => ?_)
      clear hK K
      refine norm_ (a' := ?_) ?_ ?_
      rotate_left
      ·show Act.put _ (some 10) _ = _
       simp only [Act.put, List.setIfInBounds_toArray, List.set_cons_zero, List.set_cons_succ, i64_w, i32_w]
       rfl
      refine one_ (i := 2) (N := some 35) #[true, true, true, true, true, false, false, true, false] rfl rfl (one_of HT_.out (by kernel_rfl)) (by decide) (fun K hK => ?_)
      refine goes_ Try.func33 (by kernel_rfl) rfl #[.slice A0_0 l0_0.length c0_0] (by rfl) rfl rfl (by (try simp only [List.map_toArray, List.map_cons, List.map_nil]); first | done | rfl | (simp only [List.length_drop, List.length_take]; rfl)) ?_
      with_reducible refine (media_File.calls _ _ l0_0 t116 _ ?side1 ?side2 A7.out).mono ?_
      (case side1 => repeat (first | exact (Kd.C_below HR0_0.out HB.out) | (with_reducible refine Kd.C_alloc ?_ _) | (with_reducible refine Kd.C_drewN ?_ _) | (with_reducible refine Kd.C_drew ?_)))
      (case side2 => exact HC0_0.out)
      rintro e w18 ⟨v117, rfl, ho0, hb⟩
      refine ⟨_, rfl, ?_⟩
      have HO118 := Aside0.mk (Kd.R_lower ho0 (below_size (kB)))
      replace HO113 := cr HO113 hb
      replace BK109 := cb BK109 hb
      replace BK110 := cb BK110 hb
      replace BK122 := cb BK122 hb
      replace HB := cB hb kB
      (try clear hb)
      (try clear hb2)
      (try clear hk)
      (try clear hi)
      (try clear ho0)
      refine hK.out _ _ ⟨(blk_cell BK109.out 0).trans rfl, (blk_cell BK109.out 1).trans rfl⟩ (fun hHeld => ?_)
      clear hK K
      refine norm_ (a' := ?_) ?_ ?_
      rotate_left
      ·show Act.put _ (some 35) _ = _
       simp only [Act.put, List.setIfInBounds_toArray, List.set_cons_zero, List.set_cons_succ, i64_w, i32_w]
       rfl
      refine one_ (i := 5) (N := some 38) #[true, true, true, true, true, true, false, true, false] rfl rfl (one_of HT_.out (by kernel_rfl)) (by decide) (fun K hK => ?_)
      refine goes_ Try.func34 (by kernel_rfl) rfl #[.slice A0_1 l0_1.length c0_1] (by rfl) rfl rfl (by (try simp only [List.map_toArray, List.map_cons, List.map_nil]); first | done | rfl | (simp only [List.length_drop, List.length_take]; rfl)) ?_
      with_reducible refine (media_Link.calls _ _ l0_1 t119 _ ?side1 ?side2 A8.out).mono ?_
      (case side1 => repeat (first | exact (Kd.C_below HR0_1.out HB.out) | (with_reducible refine Kd.C_alloc ?_ _) | (with_reducible refine Kd.C_drewN ?_ _) | (with_reducible refine Kd.C_drew ?_)))
      (case side2 => exact HC0_1.out)
      rintro e w19 ⟨v120, rfl, ho0, hb⟩
      refine ⟨_, rfl, ?_⟩
      have HO121 := Aside0.mk (Kd.R_lower ho0 (below_size (kB)))
      replace HO113 := cr HO113 hb
      replace HO118 := cr HO118 hb
      replace BK109 := cb BK109 hb
      replace BK110 := cb BK110 hb
      replace BK122 := cb BK122 hb
      replace HB := cB hb kB
      (try clear hb)
      (try clear hb2)
      (try clear hk)
      (try clear hi)
      (try clear ho0)
      obtain ⟨Ao20, co20, eo20⟩ := Kd.R_slice HO121.out
      (first | subst eo20 | (injection eo20 with f1_ f2_ f3_; have f4_ := f1_.symm; have f5_ := f3_.symm; clear f1_ f2_ f3_; subst f4_; subst f5_))
      obtain ⟨Ao21, co21, eo21⟩ := Kd.R_slice HO118.out
      (first | subst eo21 | (injection eo21 with f1_ f2_ f3_; have f4_ := f1_.symm; have f5_ := f3_.symm; clear f1_ f2_ f3_; subst f4_; subst f5_))
      refine hK.out _ _ ⟨(blk_cell BK109.out 0).trans rfl, (blk_cell BK109.out 1).trans rfl⟩ (fun hHeld => ?_)
      clear hK K
      refine norm_ (a' := ?_) ?_ ?_
      rotate_left
      ·show Act.put _ (some 38) _ = _
       simp only [Act.put, List.setIfInBounds_toArray, List.set_cons_zero, List.set_cons_succ, i64_w, i32_w]
       rfl
      refine pure_ (i := 6) (N := some 39) (v := ?_) (a' := ?_) #[true, true, true, true, true, true, true, true, false] rfl rfl (any_of HT_.out (by kernel_rfl)) (fun _ _ _ h => h) (Or.inl ⟨by rfl, ?_⟩) ?_ ?_
      rotate_left
      ·intro w'
       go_simp
       with_reducible rfl
      rotate_left
      ·simp only [Act.put, List.setIfInBounds_toArray, List.set_cons_zero, List.set_cons_succ, i64_w, i32_w]
       rfl
      exact norm_ (by simp only [putAll, Act.put, List.setIfInBounds_toArray, List.set_cons_zero, List.set_cons_succ]) (hCont (.slice Ao21 t116.length co21, .slice Ao20 t119.length co20, gb122) _ ⟨hHeld, (kr HO113), (kr HO118), (kr HO121), (kb BK109), (kb BK110), (kb BK122), GW122.out, GE122.out, NB109_122.out, NB122_109.out, NB110_122.out, NB122_110.out, (kB)⟩)
    rintro ⟨v117, v120, gb122⟩ w22 ⟨hS_, h0_, h1_, h2_, h3_, h4_, h5_, h6_, h7_, h8_, h9_, h10_, h11_, h12_⟩
    have n0_ : Aside0 (Kd.R (Kd.int .i64) 49 w22 w.heap.size (fun _ => True) v112 y111) := ⟨h0_⟩
    have n1_ : Aside0 (Kd.R k37 37 w22 w.heap.size (fun _ => True) v117 t116) := ⟨h1_⟩
    have n2_ : Aside0 (Kd.R k39 39 w22 w.heap.size (fun _ => True) v120 t119) := ⟨h2_⟩
    have n3_ : Aside0 (w22.heap[gb109]? = some (.cells #[.slice A0_0 l0_0.length c0_0, .slice A0_1 l0_1.length c0_1] 30 (0, 0))) := ⟨h3_⟩
    have n4_ : Aside0 (w22.heap[gb110]? = some (.cells #[.slice none 0 0, .slice none 0 0] 30 (0, 0))) := ⟨h4_⟩
    have n5_ : Aside0 (w22.heap[gb122]? = some (.cells #[.slice none 0 0, .slice none 0 0] 30 (0, 0))) := ⟨h5_⟩
    have n6_ : Aside0 (w.heap.size ≤ gb122) := ⟨h6_⟩
    have n7_ : Aside0 (w.heap.size ≤ gb122) := ⟨h7_⟩
    have n8_ : Aside0 (gb109 ≠ gb122) := ⟨h8_⟩
    have n9_ : Aside0 (gb122 ≠ gb109) := ⟨h9_⟩
    have n10_ : Aside0 (gb110 ≠ gb122) := ⟨h10_⟩
    have n11_ : Aside0 (gb122 ≠ gb110) := ⟨h11_⟩
    have n12_ : Aside0 (Below w.heap.size w w22) := ⟨h12_⟩
    clear HO113
    clear BK109
    clear BK110
    clear HB
    clear h0_ h1_ h2_ h3_ h4_ h5_ h6_ h7_ h8_ h9_ h10_ h11_ h12_
    have HO113 := n0_
    have HO118 := n1_
    have HO121 := n2_
    have BK109 := n3_
    have BK110 := n4_
    have BK122 := n5_
    have GW122 := n6_
    have GE122 := n7_
    have NB109_122 := n8_
    have NB122_109 := n9_
    have NB110_122 := n10_
    have NB122_110 := n11_
    have HB := n12_
    clear n0_ n1_ n2_ n3_ n4_ n5_ n6_ n7_ n8_ n9_ n10_ n11_ n12_
    have hHeld : w22.cell? ⟨gb109, 0, none⟩ = some (.slice A0_0 l0_0.length c0_0) ∧ w22.cell? ⟨gb109, 1, none⟩ = some (.slice A0_1 l0_1.length c0_1) := hS_
    obtain ⟨Ao23, co23, eo23⟩ := Kd.R_slice HO121.out
    (first | subst eo23 | (injection eo23 with f1_ f2_ f3_; have f4_ := f1_.symm; have f5_ := f3_.symm; clear f1_ f2_ f3_; subst f4_; subst f5_))
    obtain ⟨Ao24, co24, eo24⟩ := Kd.R_slice HO118.out
    (first | subst eo24 | (injection eo24 with f1_ f2_ f3_; have f4_ := f1_.symm; have f5_ := f3_.symm; clear f1_ f2_ f3_; subst f4_; subst f5_))
    refine norm_ (a' := ?_) ?_ ?_
    rotate_left
    ·simp only [putAll, Act.put, List.setIfInBounds_toArray, List.set_cons_zero, List.set_cons_succ]
     rfl
    refine one_ (i := 8) (N := none) #[true, true, true, true, true, true, true, true, true] rfl rfl (one_of HT_.out (by kernel_rfl)) (by decide) (fun K hK => ?_)
    have hs25 : w22.cell? ⟨gb122, 0, none⟩ = some (.slice none 0 0) := (blk_cell BK122.out 0).trans rfl
    have hfs25 := blk_frozen BK122.out 0
    have hns25_0 := NB109_122.out
    have hns25_1 := NB110_122.out
    have hms25_0 := NB122_109.out
    have hms25_1 := NB122_110.out
    have hs26 : w22.cell? ⟨gb122, 1, none⟩ = some (.slice none 0 0) := (blk_cell BK122.out 1).trans rfl
    have hfs26 := blk_frozen BK122.out 1
    have hns26_0 := NB109_122.out
    have hns26_1 := NB110_122.out
    have hms26_0 := NB122_109.out
    have hms26_1 := NB122_110.out
    refine skip_ (w1 := ?_) (by rfl) rfl ?_ ?_
    rotate_left
    ·go_simp
     rfl
    refine hK.out _ _ ⟨((cell_far (p := ⟨gb122, _, none⟩) NB109_122.out _).trans (((cell_far (p := ⟨gb122, _, none⟩) NB109_122.out _).trans (hHeld.1)))), ((cell_far (p := ⟨gb122, _, none⟩) NB109_122.out _).trans (((cell_far (p := ⟨gb122, _, none⟩) NB109_122.out _).trans (hHeld.2))))⟩ (fun hHeld => ?_)
    clear hK K
    refine done_ (done_of HT_.out (by kernel_rfl)) ?_
    try go_wp2
    go_loopg [9, 42] k (fun kq v9 v42 w' => ∃ (x7_1 : List Int) (x9_1 : List (S61)) (x42_1 : Int) (x123000_1 : List (S37)) (x123001_1 : List (S39)) (u123000 : Value) (u123001 : Value), v42 = .int .i64 x42_1 ∧ Aside0 (media_Run.l1 kq x7_1 x9_1 l1 (l1.length : Int) x42_1 x123000_1 x123001_1 = some (r1, r2, r3, r4)) ∧ Aside0 (kq ≤ k) ∧ Aside0 (Kd.R (Kd.int .i64) 49 w' w.heap.size (fun _ => True) v112 x7_1) ∧ Aside0 (Kd.R k61 61 w' w.heap.size (fun _ => True) v9 x9_1) ∧ Aside0 (Kd.R k37 37 w' w.heap.size (fun _ => True) u123000 x123000_1) ∧ Aside0 (Kd.R k39 39 w' w.heap.size (fun _ => True) u123001 x123001_1) ∧ Aside0 (w'.heap[gb109]? = some (.cells #[(.slice A0_0 l0_0.length c0_0), (.slice A0_1 l0_1.length c0_1)] 30 (0, 0))) ∧ Aside0 (w'.heap[gb110]? = some (.cells #[(.slice none 0 0), (.slice none 0 0)] 30 (0, 0))) ∧ Aside0 (w'.heap[gb122]? = some (.cells #[u123000, u123001] 30 (0, 0))) ∧ Aside0 (Below w.heap.size w w'))
    case atStart => exact ⟨(y111), (([] : List (S61))), (0), (t116), (t119), (.slice Ao24 t116.length co24), (.slice Ao23 t119.length co23), (by first | rfl | (simp; done) | (simp [*]; done)), H', ⟨Nat.le_refl _⟩, ⟨by (with_reducible repeat (first | apply Kd.R_alloc | apply Kd.R_drewN | apply Kd.R_drew)); exact Kd.R_mono (Kd.R_far (p := ⟨gb122, 1, none⟩) (Kd.R_far (p := ⟨gb122, 0, none⟩) (Kd.R_types HO113.out BK122.out (by decide)) (fun _ hk => hk.2) (.slice Ao24 t116.length co24)) (fun _ hk => hk.2) (.slice Ao23 t119.length co23)) (fun _ hk => trivial)⟩, ⟨by first | exact Kd.R_nil _ _ _ _ _ | exact Kd.N_nil _ _ _ _ _ | exact Kd.V_nil _ _ _ _ _ | exact Kd.Q_nil _ _ _ _ _ | exact Kd.S_nil _ _ _ _ _⟩, ⟨by (with_reducible repeat (first | apply Kd.R_alloc | apply Kd.R_drewN | apply Kd.R_drew)); exact Kd.R_mono (Kd.R_far (p := ⟨gb122, 1, none⟩) (Kd.R_far (p := ⟨gb122, 0, none⟩) (Kd.R_types HO118.out BK122.out (by decide)) (fun _ hk => hk.2) (.slice Ao24 t116.length co24)) (fun _ hk => hk.2) (.slice Ao23 t119.length co23)) (fun _ hk => trivial)⟩, ⟨by (with_reducible repeat (first | apply Kd.R_alloc | apply Kd.R_drewN | apply Kd.R_drew)); exact Kd.R_mono (Kd.R_far (p := ⟨gb122, 1, none⟩) (Kd.R_far (p := ⟨gb122, 0, none⟩) (Kd.R_types HO121.out BK122.out (by decide)) (fun _ hk => hk.2) (.slice Ao24 t116.length co24)) (fun _ hk => hk.2) (.slice Ao23 t119.length co23)) (fun _ hk => trivial)⟩, ⟨kb BK109⟩, ⟨kb BK110⟩, ⟨by (with_reducible repeat (first | refine blk_drewN ?_ _ | refine blk_drew ?_ | refine blk_alloc ?_ _)); refine blk_put (cs := #[.slice Ao24 t116.length co24, .slice none 0 0]) ?_ 1 _ rfl; (with_reducible repeat (first | refine blk_drewN ?_ _ | refine blk_drew ?_ | refine blk_alloc ?_ _)); refine blk_put (cs := #[.slice none 0 0, .slice none 0 0]) ?_ 0 _ rfl; (with_reducible repeat (first | refine blk_drewN ?_ _ | refine blk_drew ?_ | refine blk_alloc ?_ _)); exact BK122.out⟩, ⟨kB⟩⟩
    case round =>
     clear H'
     try clear c1
     try clear c2
     try clear p2
     try clear c3
     try clear c3b0
     try clear c3b1
     try clear c4
     try clear c4b0
     try clear c4b1
     try clear c6
     try clear c13
     try clear c22
     try clear hcz14_0
     try clear hcz14_1
     try clear hfz14_0
     try clear hfz14_1
     obtain ⟨x7_1, x9_1, x42_1, x123000_1, x123001_1, u123000, u123001, rfl, HA, HK1, HO_7, HO_9, HO_123000, HO_123001, BK109, BK110, BK122, HB⟩ := hrel
     cases gk with
     | zero => exact absurd HA.out (by simp [media_Run.l1])
     | succ k1 =>
      have H := HA.out
      clear HA
      simp only [media_Run.l1] at H
      by_cases c27 : x42_1 < (l1.length : Int)
      ·rw [if_pos c27] at H
       have c27b0 : decide (x42_1 < (l1.length : Int)) = true := decide_eq_true c27
       clear c27
       by_cases c28 : 0 ≤ x42_1
       ·rw [if_pos c28] at H
        have c28b0 : decide (0 ≤ x42_1) = true := decide_eq_true c28
        clear c28
        by_cases c29 : x42_1 < (l1.length : Int)
        ·rw [if_pos c29] at H
         have c29b0 : decide (x42_1 < (l1.length : Int)) = true := decide_eq_true c29
         clear c29
         replace H := Option.bind_eq_some_iff.mp H
         obtain ⟨⟨t125, t128, t131, t134⟩, A300, H⟩ := H
         replace H : (if x42_1 < (x7_1.length : Int) then ((some (x7_1.set (x42_1 : Int).toNat t134 : List Int)).bind fun y136 => (if t134 = 0 then (if x9_1.length + t131.length < 5864062014805 then (media_Run.l1 k1 y136 (x9_1 ++ t131) l1 (l1.length : Int) (wrap64 (x42_1 + 1)) t125 t128) else (none)) else (media_Run.l1 k1 y136 x9_1 l1 (l1.length : Int) (wrap64 (x42_1 + 1)) x123000_1 x123001_1))) else (none)) = some (r1, r2, r3, r4) := H
         have A30 := Aside0.mk A300
         clear A300
         by_cases c31 : x42_1 < (x7_1.length : Int)
         ·rw [if_pos c31] at H
          have c31b0 : decide (x42_1 < (x7_1.length : Int)) = true := decide_eq_true c31
          clear c31
          obtain ⟨y136, hy136⟩ : ∃ y_ : List Int, y_ = (x7_1.set (x42_1 : Int).toNat t134) := ⟨_, rfl⟩
          replace H : (if t134 = 0 then (if x9_1.length + t131.length < 5864062014805 then (media_Run.l1 k1 y136 (x9_1 ++ t131) l1 (l1.length : Int) (wrap64 (x42_1 + 1)) t125 t128) else (none)) else (media_Run.l1 k1 y136 x9_1 l1 (l1.length : Int) (wrap64 (x42_1 + 1)) x123000_1 x123001_1)) = some (r1, r2, r3, r4) := by first | (rw [hy136]; with_reducible exact H) | (have H2_ := (Option.bind_some _ _).symm.trans H; rw [hy136]; with_reducible exact H2_) | (have H2_ := (Option.bind_some _ _).symm.trans H; with_reducible exact H2_) | with_reducible exact H | (rw [hy136]; exact H) | exact H
          have Ny136 := Aside0.mk hy136
          clear hy136
          by_cases c33 : t134 = 0
          ·rw [if_pos c33] at H
           have c33b0 : (t134 == 0) = true := beq_iff_eq.mpr c33
           have c33b1 : (t134 != 0) = false := bne_eq_false_iff_eq.mpr c33
           clear c33
           by_cases c34 : x9_1.length + t131.length < 5864062014805
           ·rw [if_pos c34] at H
            have LMc34 := Aside0.mk c34
            clear c34
            obtain ⟨y137, hy137⟩ : ∃ y_ : List (S61), y_ = (x9_1 ++ t131) := ⟨_, rfl⟩
            replace H : (media_Run.l1 k1 y136 y137 l1 (l1.length : Int) (wrap64 (x42_1 + 1)) t125 t128) = some (r1, r2, r3, r4) := by first | (rw [hy137]; with_reducible exact H) | (have H2_ := (Option.bind_some _ _).symm.trans H; rw [hy137]; with_reducible exact H2_) | (have H2_ := (Option.bind_some _ _).symm.trans H; with_reducible exact H2_) | with_reducible exact H | (rw [hy137]; exact H) | exact H
            have Ny137 := Aside0.mk hy137
            clear hy137
            have H' := Aside0.mk H
            clear H
            have p123 : 0 ≤ (x42_1 : Int) := of_decide_eq_true (by first | (with_reducible assumption) | assumption)
            have q123 : x42_1 < (l1.length : Int) := of_decide_eq_true (by first | (with_reducible assumption) | assumption)
            obtain ⟨ad123, e123, hx123_0, hx123_1, hx123_2, hx123_3, hx123_4⟩ := at_T45 HR1.out x42_1 p123 q123
            cases e123
            replace hx123_0 := (HB.out.cell (World.block_lt_of_cell? w _ hx123_0)).trans hx123_0
            replace hx123_1 := (HB.out.cell (World.block_lt_of_cell? w _ hx123_1)).trans hx123_1
            replace hx123_2 := (HB.out.cell (World.block_lt_of_cell? w _ hx123_2)).trans hx123_2
            replace hx123_3 := (HB.out.cell (World.block_lt_of_cell? w _ hx123_3)).trans hx123_3
            replace hx123_4 := (HB.out.cell (World.block_lt_of_cell? w _ hx123_4)).trans hx123_4
            replace p123 := eq_true p123
            replace q123 := eq_true q123
            try go_wp2_with (first | ((with_reducible refine gate_dst (N := 12) rfl ?_); refine box_event ?hg (N := 12) ?hd (cs := #[.int .i64 0, .string (⟨#[]⟩ : ByteArray), .string (⟨#[]⟩ : ByteArray), .string (⟨#[]⟩ : ByteArray), .int .u64 0]) (t := 45) ?hr ?_; (case hd => rfl); (case hg => rfl); (case hr => first | (go_simp; done) | (go_simp; rfl)); intro gb124 hg w35 hbox hb; have BK124 := Aside0.mk (hbox); have GW124 := gw_ hg kB; have GE124 := gw_ hg kB; have NB109_124 := nb_lt hg BK109; have NB124_109 := nb_gt hg BK109; have NB110_124 := nb_lt hg BK110; have NB124_110 := nb_gt hg BK110; have NB122_124 := nb_lt hg BK122; have NB124_122 := nb_gt hg BK122; replace HO_7 := cr HO_7 hb; replace HO_9 := cr HO_9 hb; replace HO_123000 := cr HO_123000 hb; replace HO_123001 := cr HO_123001 hb; replace BK109 := cb BK109 hb; replace BK110 := cb BK110 hb; replace BK122 := cb BK122 hb; replace HB := cB hb kB; clear hb hbox hg; have hnb36 := NB124_109.out; have hnc36 := NB109_124.out; have hnb37 := NB124_110.out; have hnc37 := NB110_124.out; have hnb38 := NB124_122.out; have hnc38 := NB122_124.out; have hcz39_0 : w35.cell? ⟨gb124, 0, none⟩ = some (.int .i64 0) := (blk_cell BK124.out 0).trans rfl; have hcz39_1 : w35.cell? ⟨gb124, 1, none⟩ = some (.string (⟨#[]⟩ : ByteArray)) := (blk_cell BK124.out 1).trans rfl; have hcz39_2 : w35.cell? ⟨gb124, 2, none⟩ = some (.string (⟨#[]⟩ : ByteArray)) := (blk_cell BK124.out 2).trans rfl; have hcz39_3 : w35.cell? ⟨gb124, 3, none⟩ = some (.string (⟨#[]⟩ : ByteArray)) := (blk_cell BK124.out 3).trans rfl; have hcz39_4 : w35.cell? ⟨gb124, 4, none⟩ = some (.int .u64 0) := (blk_cell BK124.out 4).trans rfl; have hfz39_0 := blk_frozen BK124.out 0; have hfz39_1 := blk_frozen BK124.out 1; have hfz39_2 := blk_frozen BK124.out 2; have hfz39_3 := blk_frozen BK124.out 3; have hfz39_4 := blk_frozen BK124.out 4; have hnb40 := NB122_109.out; have hnc40 := NB109_122.out; have hnb41 := NB122_110.out; have hnc41 := NB110_122.out; have hcz42_0 : w35.cell? ⟨gb122, 0, none⟩ = some (u123000) := (blk_cell BK122.out 0).trans rfl; have hcz42_1 : w35.cell? ⟨gb122, 1, none⟩ = some (u123001) := (blk_cell BK122.out 1).trans rfl; have hfz42_0 := blk_frozen BK122.out 0; have hfz42_1 := blk_frozen BK122.out 1; obtain ⟨Ao43, co43, eo43⟩ := Kd.R_slice HO_123000.out; subst eo43; obtain ⟨Ao44, co44, eo44⟩ := Kd.R_slice HO_123001.out; subst eo44) | ((with_reducible refine gate_callee (f := 18) rfl ?_); refine goesL_ (some 50) rfl rfl Try.func18 (by kernel_rfl) rfl #[.agg #[.slice Ao43 x123000_1.length co43, .slice Ao44 x123001_1.length co44], .agg #[.int .i64 ((rd_T45 l1 x42_1).f0), .string ((rd_T45 l1 x42_1).f1), .string ((rd_T45 l1 x42_1).f2), .string ((rd_T45 l1 x42_1).f3), .int .u64 ((rd_T45 l1 x42_1).f4)]] rfl (by (try simp only [List.map_toArray, List.map_cons, List.map_nil]); first | done | rfl | (simp only [List.length_drop, List.length_take]; rfl)) ?_; (with_reducible refine (media_Step.calls _ _ x123000_1 _ _ x123001_1 ((rd_T45 l1 x42_1).f0) ((rd_T45 l1 x42_1).f1) ((rd_T45 l1 x42_1).f2) ((rd_T45 l1 x42_1).f3) ((rd_T45 l1 x42_1).f4) t125 t128 t131 t134 _ ?side1 ?side2 ?side3 ?side4 A30.out).mono ?_); (case side1 => refine (Kd.R_reads' (e := 37) (base := w.heap.size) (ok := fun k_ => True) (n := x123000_1.length) (c := co43) ?_).2.2; exact (kr HO_123000)); (case side2 => exact (Kd.R_reads' HO_123000.out).2.1); (case side3 => refine (Kd.R_reads' (e := 39) (base := w.heap.size) (ok := fun k_ => True) (n := x123001_1.length) (c := co44) ?_).2.2; exact (kr HO_123001)); (case side4 => exact (Kd.R_reads' HO_123001.out).2.1); rintro e w45 ⟨v126, v129, v132, rfl, ho0, ho1, ho2, hb⟩; refine ⟨_, rfl, ?_⟩; have HO127 := Aside0.mk (Kd.R_lower (Kd.R_new' ho0 (Kd.R_lt (kr HO_123000))) (below_size (kB))); have HO130 := Aside0.mk (Kd.R_lower (Kd.R_new' ho1 (Kd.R_lt (kr HO_123001))) (below_size (kB))); have HO133 := Aside0.mk (Kd.R_lower (Kd.R_new' ho2 (Kd.R_lt (kr HO_9))) (below_size (kB))); replace HO_7 := cr HO_7 hb; replace HO_9 := Aside0.mk (Kd.R_elder' (kr HO_9) (Kd.R_base ho2) hb); replace HO_123000 := Aside0.mk (Kd.R_elder' (kr HO_123000) (Kd.R_base ho0) hb); replace HO_123001 := Aside0.mk (Kd.R_elder' (kr HO_123001) (Kd.R_base ho1) hb); replace BK109 := cb BK109 hb; replace BK110 := cb BK110 hb; replace BK122 := cb BK122 hb; replace BK124 := Aside0.mk (blk_below (g := gb124) (o := .cells #[.int .i64 ((rd_T45 l1 x42_1).f0), .string ((rd_T45 l1 x42_1).f1), .string ((rd_T45 l1 x42_1).f2), .string ((rd_T45 l1 x42_1).f3), .int .u64 ((rd_T45 l1 x42_1).f4)] 45 (0, 0)) (by (with_reducible repeat (first | refine blk_drewN ?_ _ | refine blk_drew ?_ | refine blk_alloc ?_ _)); refine blk_put (cs := #[.int .i64 ((rd_T45 l1 x42_1).f0), .string ((rd_T45 l1 x42_1).f1), .string ((rd_T45 l1 x42_1).f2), .string ((rd_T45 l1 x42_1).f3), .int .u64 0]) ?_ 4 _ rfl; (with_reducible repeat (first | refine blk_drewN ?_ _ | refine blk_drew ?_ | refine blk_alloc ?_ _)); refine blk_put (cs := #[.int .i64 ((rd_T45 l1 x42_1).f0), .string ((rd_T45 l1 x42_1).f1), .string ((rd_T45 l1 x42_1).f2), .string (⟨#[]⟩ : ByteArray), .int .u64 0]) ?_ 3 _ rfl; (with_reducible repeat (first | refine blk_drewN ?_ _ | refine blk_drew ?_ | refine blk_alloc ?_ _)); refine blk_put (cs := #[.int .i64 ((rd_T45 l1 x42_1).f0), .string ((rd_T45 l1 x42_1).f1), .string (⟨#[]⟩ : ByteArray), .string (⟨#[]⟩ : ByteArray), .int .u64 0]) ?_ 2 _ rfl; (with_reducible repeat (first | refine blk_drewN ?_ _ | refine blk_drew ?_ | refine blk_alloc ?_ _)); refine blk_put (cs := #[.int .i64 ((rd_T45 l1 x42_1).f0), .string (⟨#[]⟩ : ByteArray), .string (⟨#[]⟩ : ByteArray), .string (⟨#[]⟩ : ByteArray), .int .u64 0]) ?_ 1 _ rfl; (with_reducible repeat (first | refine blk_drewN ?_ _ | refine blk_drew ?_ | refine blk_alloc ?_ _)); refine blk_put (cs := #[.int .i64 0, .string (⟨#[]⟩ : ByteArray), .string (⟨#[]⟩ : ByteArray), .string (⟨#[]⟩ : ByteArray), .int .u64 0]) ?_ 0 _ rfl; (with_reducible repeat (first | refine blk_drewN ?_ _ | refine blk_drew ?_ | refine blk_alloc ?_ _)); exact BK124.out) hb); replace HB := cB hb kB; (try clear hb); (try clear hb2); (try clear hk); (try clear hi); (try clear ho0); (try clear ho1); (try clear ho2)) | ((with_reducible refine gate_dst (N := 13) rfl ?_); refine box_event ?hg (N := 13) ?hd (cs := #[.slice none 0 0, .slice none 0 0]) (t := 30) ?hr ?_; (case hd => rfl); (case hg => rfl); (case hr => first | (go_simp; done) | (go_simp; rfl)); intro gb135 hg w46 hbox hb; have BK135 := Aside0.mk (hbox); have GW135 := gw_ hg kB; have GE135 := gw_ hg kB; have NB109_135 := nb_lt hg BK109; have NB135_109 := nb_gt hg BK109; have NB110_135 := nb_lt hg BK110; have NB135_110 := nb_gt hg BK110; have NB122_135 := nb_lt hg BK122; have NB135_122 := nb_gt hg BK122; have NB124_135 := nb_lt hg BK124; have NB135_124 := nb_gt hg BK124; replace HO_7 := cr HO_7 hb; replace HO_9 := cr HO_9 hb; replace HO_123000 := cr HO_123000 hb; replace HO_123001 := cr HO_123001 hb; replace HO127 := cr HO127 hb; replace HO130 := cr HO130 hb; replace HO133 := cr HO133 hb; replace BK109 := cb BK109 hb; replace BK110 := cb BK110 hb; replace BK122 := cb BK122 hb; replace BK124 := cb BK124 hb; replace HB := cB hb kB; clear hb hbox hg; obtain ⟨Ao47, co47, eo47⟩ := Kd.R_slice HO127.out; subst eo47; have hnb48 := NB135_109.out; have hnc48 := NB109_135.out; have hnb49 := NB135_110.out; have hnc49 := NB110_135.out; have hnb50 := NB135_122.out; have hnc50 := NB122_135.out; have hnb51 := NB135_124.out; have hnc51 := NB124_135.out; have hcz52_0 : w46.cell? ⟨gb135, 0, none⟩ = some (.slice none 0 0) := (blk_cell BK135.out 0).trans rfl; have hcz52_1 : w46.cell? ⟨gb135, 1, none⟩ = some (.slice none 0 0) := (blk_cell BK135.out 1).trans rfl; have hfz52_0 := blk_frozen BK135.out 0; have hfz52_1 := blk_frozen BK135.out 1; obtain ⟨Ao53, co53, eo53⟩ := Kd.R_slice HO130.out; subst eo53) | ((with_reducible refine gate_store (t := 30) (p := 13) rfl ?_); refine store_event (t := 30) (p := 13) (v := ?vo_w54) (w1 := ((w46.setCell ⟨gb135, 0, none⟩ (.slice Ao47 t125.length co47)).setCell ⟨gb135, 1, none⟩ (.slice Ao53 t128.length co53))) ?hg ?ho ?hn ?hr ?_; (case ho => rfl); (case hg => rfl); (case hn => rfl); (case hr => first | (go_simp; done) | (go_simp; rfl)); intro w54 hw; have n0_ : Aside0 (Kd.R (Kd.int .i64) 49 w54 w.heap.size (fun _ => True) v112 x7_1) := ⟨(by rw [hw]; exact (by (with_reducible repeat (first | apply Kd.R_alloc | apply Kd.R_drewN | apply Kd.R_drew)); exact Kd.R_mono (Kd.R_far (p := ⟨gb135, 1, none⟩) (Kd.R_far (p := ⟨gb135, 0, none⟩) (Kd.R_types HO_7.out BK135.out (by decide)) (fun _ hk => hk.2) (.slice Ao47 t125.length co47)) (fun _ hk => hk.2) (.slice Ao53 t128.length co53)) (fun _ hk => trivial)))⟩; have n1_ : Aside0 (Kd.R k61 61 w54 w.heap.size (fun k_ => some k_ ≠ (v132 : Value).ownBlock) u9 x9_1) := ⟨(by rw [hw]; exact (by (with_reducible repeat (first | apply Kd.R_alloc | apply Kd.R_drewN | apply Kd.R_drew)); exact Kd.R_mono (Kd.R_far (p := ⟨gb135, 1, none⟩) (Kd.R_far (p := ⟨gb135, 0, none⟩) (Kd.R_types HO_9.out BK135.out (by decide)) (fun _ hk => hk.2) (.slice Ao47 t125.length co47)) (fun _ hk => hk.2) (.slice Ao53 t128.length co53)) (fun _ hk => hk.1.2)))⟩; have n2_ : Aside0 (Kd.R k37 37 w54 w.heap.size (fun k_ => some k_ ≠ (.slice Ao47 t125.length co47 : Value).ownBlock) (.slice Ao43 x123000_1.length co43) x123000_1) := ⟨(by rw [hw]; exact (by (with_reducible repeat (first | apply Kd.R_alloc | apply Kd.R_drewN | apply Kd.R_drew)); exact Kd.R_mono (Kd.R_far (p := ⟨gb135, 1, none⟩) (Kd.R_far (p := ⟨gb135, 0, none⟩) (Kd.R_types HO_123000.out BK135.out (by decide)) (fun _ hk => hk.2) (.slice Ao47 t125.length co47)) (fun _ hk => hk.2) (.slice Ao53 t128.length co53)) (fun _ hk => hk.1.2)))⟩; have n3_ : Aside0 (Kd.R k39 39 w54 w.heap.size (fun k_ => some k_ ≠ (.slice Ao53 t128.length co53 : Value).ownBlock) (.slice Ao44 x123001_1.length co44) x123001_1) := ⟨(by rw [hw]; exact (by (with_reducible repeat (first | apply Kd.R_alloc | apply Kd.R_drewN | apply Kd.R_drew)); exact Kd.R_mono (Kd.R_far (p := ⟨gb135, 1, none⟩) (Kd.R_far (p := ⟨gb135, 0, none⟩) (Kd.R_types HO_123001.out BK135.out (by decide)) (fun _ hk => hk.2) (.slice Ao47 t125.length co47)) (fun _ hk => hk.2) (.slice Ao53 t128.length co53)) (fun _ hk => hk.1.2)))⟩; have n4_ : Aside0 (Kd.R k37 37 w54 w.heap.size (fun k_ => some k_ ≠ (.slice Ao43 x123000_1.length co43 : Value).ownBlock) (.slice Ao47 t125.length co47) t125) := ⟨(by rw [hw]; exact (by (with_reducible repeat (first | apply Kd.R_alloc | apply Kd.R_drewN | apply Kd.R_drew)); exact Kd.R_mono (Kd.R_far (p := ⟨gb135, 1, none⟩) (Kd.R_far (p := ⟨gb135, 0, none⟩) (Kd.R_types HO127.out BK135.out (by decide)) (fun _ hk => hk.2) (.slice Ao47 t125.length co47)) (fun _ hk => hk.2) (.slice Ao53 t128.length co53)) (fun _ hk => hk.1.2)))⟩; have n5_ : Aside0 (Kd.R k39 39 w54 w.heap.size (fun k_ => some k_ ≠ (.slice Ao44 x123001_1.length co44 : Value).ownBlock) (.slice Ao53 t128.length co53) t128) := ⟨(by rw [hw]; exact (by (with_reducible repeat (first | apply Kd.R_alloc | apply Kd.R_drewN | apply Kd.R_drew)); exact Kd.R_mono (Kd.R_far (p := ⟨gb135, 1, none⟩) (Kd.R_far (p := ⟨gb135, 0, none⟩) (Kd.R_types HO130.out BK135.out (by decide)) (fun _ hk => hk.2) (.slice Ao47 t125.length co47)) (fun _ hk => hk.2) (.slice Ao53 t128.length co53)) (fun _ hk => hk.1.2)))⟩; have n6_ : Aside0 (Kd.R k61 61 w54 w.heap.size (fun k_ => some k_ ≠ (u9 : Value).ownBlock) v132 t131) := ⟨(by rw [hw]; exact (by (with_reducible repeat (first | apply Kd.R_alloc | apply Kd.R_drewN | apply Kd.R_drew)); exact Kd.R_mono (Kd.R_far (p := ⟨gb135, 1, none⟩) (Kd.R_far (p := ⟨gb135, 0, none⟩) (Kd.R_types HO133.out BK135.out (by decide)) (fun _ hk => hk.2) (.slice Ao47 t125.length co47)) (fun _ hk => hk.2) (.slice Ao53 t128.length co53)) (fun _ hk => hk.1.2)))⟩; have n7_ : Aside0 (w54.heap[gb109]? = some (.cells #[.slice A0_0 l0_0.length c0_0, .slice A0_1 l0_1.length c0_1] 30 (0, 0))) := ⟨(by rw [hw]; exact (kb BK109))⟩; have n8_ : Aside0 (w54.heap[gb110]? = some (.cells #[.slice none 0 0, .slice none 0 0] 30 (0, 0))) := ⟨(by rw [hw]; exact (kb BK110))⟩; have n9_ : Aside0 (w54.heap[gb122]? = some (.cells #[.slice Ao43 x123000_1.length co43, .slice Ao44 x123001_1.length co44] 30 (0, 0))) := ⟨(by rw [hw]; exact (kb BK122))⟩; have n10_ : Aside0 (w54.heap[gb124]? = some (.cells #[.int .i64 ((rd_T45 l1 x42_1).f0), .string ((rd_T45 l1 x42_1).f1), .string ((rd_T45 l1 x42_1).f2), .string ((rd_T45 l1 x42_1).f3), .int .u64 ((rd_T45 l1 x42_1).f4)] 45 (0, 0))) := ⟨(by rw [hw]; exact (kb BK124))⟩; have n11_ : Aside0 (w54.heap[gb135]? = some (.cells #[.slice Ao47 t125.length co47, .slice Ao53 t128.length co53] 30 (0, 0))) := ⟨(by rw [hw]; exact (by (with_reducible repeat (first | refine blk_drewN ?_ _ | refine blk_drew ?_ | refine blk_alloc ?_ _)); refine blk_put (cs := #[.slice Ao47 t125.length co47, .slice none 0 0]) ?_ 1 _ rfl; (with_reducible repeat (first | refine blk_drewN ?_ _ | refine blk_drew ?_ | refine blk_alloc ?_ _)); refine blk_put (cs := #[.slice none 0 0, .slice none 0 0]) ?_ 0 _ rfl; (with_reducible repeat (first | refine blk_drewN ?_ _ | refine blk_drew ?_ | refine blk_alloc ?_ _)); exact BK135.out))⟩; have n12_ : Aside0 (Below w.heap.size w w54) := ⟨(by rw [hw]; exact (kB))⟩; clear hw; clear HO_7; clear HO_9; clear HO_123000; clear HO_123001; clear HO127; clear HO130; clear HO133; clear BK109; clear BK110; clear BK122; clear BK124; clear BK135; clear HB; have HO_7 := n0_; have HO_9 := n1_; have HO_123000 := n2_; have HO_123001 := n3_; have HO127 := n4_; have HO130 := n5_; have HO133 := n6_; have BK109 := n7_; have BK110 := n8_; have BK122 := n9_; have BK124 := n10_; have BK135 := n11_; have HB := n12_; clear n0_ n1_ n2_ n3_ n4_ n5_ n6_ n7_ n8_ n9_ n10_ n11_ n12_; have p32 : 0 ≤ (x42_1 : Int) := of_decide_eq_true (by first | (with_reducible assumption) | assumption); have q32 : (x42_1 : Int) < ((x7_1.length : Int) : Int) := of_decide_eq_true (by first | (with_reducible assumption) | assumption); obtain ⟨go32, co32, eo32, gb32, gl32, cl32, HG32⟩ := Kd.R_form HO_7.out (by omega); (first | cases eo32 | (injection eo32 with ea_ en_ ec_; (first | subst ea_ | (injection ea_ with ea_; subst ea_)); subst ec_; clear en_)); have GB32 := Aside0.mk gb32; have GG32 := Aside0.mk HG32; clear gb32 gl32 HG32; obtain ⟨hx32_0, hf32_0⟩ := Kd.R_celln 0 HO_7.out (x42_1 : Int) p32 q32; replace p32 := eq_true p32; replace q32 := eq_true q32; obtain ⟨hy55_, hz55_⟩ := Kd.R_celln 0 HO_7.out (x42_1 : Int) (of_decide_eq_true (by first | (with_reducible assumption) | assumption)) (of_decide_eq_true (by first | (with_reducible assumption) | assumption)); have HP55 := Kd.R_putg HO_7.out (x42_1 : Int) t134) | ((with_reducible refine gate_store (t := 49) (p := 57) rfl ?_); refine store_event (t := 49) (p := 57) (v := ?vo_w56) (w1 := (w54.setCell ⟨go32, (x42_1 : Int).toNat, none⟩ (.int .i64 t134))) ?hg ?ho ?hn ?hr ?_; (case ho => rfl); (case hg => rfl); (case hn => rfl); (case hr => first | (go_simp; done) | (go_simp; rfl)); intro w56 hw; have hg : w54.grownBy w56 (some go32) := (by rw [hw]; exact HP55.2); have hp_ : Kd.R (Kd.int .i64) 49 w56 w.heap.size (fun _ => True) (.slice (some ⟨go32, 0, none⟩) x7_1.length co32) y136 := (by rw [hw, Ny136.out]; exact HP55.1); clear HP55; replace HO_9 := Aside0.mk (Kd.R_over' (v := (.slice (some ⟨go32, 0, none⟩) x7_1.length co32)) (kr HO_9) (Kd.R_typed HO_7.out) (by decide) hg); replace HO_123000 := Aside0.mk (Kd.R_over' (v := (.slice (some ⟨go32, 0, none⟩) x7_1.length co32)) (kr HO_123000) (Kd.R_typed HO_7.out) (by decide) hg); replace HO_123001 := Aside0.mk (Kd.R_over' (v := (.slice (some ⟨go32, 0, none⟩) x7_1.length co32)) (kr HO_123001) (Kd.R_typed HO_7.out) (by decide) hg); replace HO127 := Aside0.mk (Kd.R_over' (v := (.slice (some ⟨go32, 0, none⟩) x7_1.length co32)) (kr HO127) (Kd.R_typed HO_7.out) (by decide) hg); replace HO130 := Aside0.mk (Kd.R_over' (v := (.slice (some ⟨go32, 0, none⟩) x7_1.length co32)) (kr HO130) (Kd.R_typed HO_7.out) (by decide) hg); replace HO133 := Aside0.mk (Kd.R_over' (v := (.slice (some ⟨go32, 0, none⟩) x7_1.length co32)) (kr HO133) (Kd.R_typed HO_7.out) (by decide) hg); replace BK109 := Aside0.mk (blk_grown (kb BK109) hg (Kd.R_ne HO_7.out BK109.out (by decide))); replace BK110 := Aside0.mk (blk_grown (kb BK110) hg (Kd.R_ne HO_7.out BK110.out (by decide))); replace BK122 := Aside0.mk (blk_grown (kb BK122) hg (Kd.R_ne HO_7.out BK122.out (by decide))); replace BK124 := Aside0.mk (blk_grown (kb BK124) hg (Kd.R_ne HO_7.out BK124.out (by decide))); replace BK135 := Aside0.mk (blk_grown (kb BK135) hg (Kd.R_ne HO_7.out BK135.out (by decide))); replace HO_7 := Aside0.mk (hp_); replace HB := Aside0.mk ((by rw [hw]; exact below_set (HB.out) GB32.out : Below w.heap.size w w56)); clear hg hw hp_))
            replace HO_7 := Aside0.mk (Kd.R_drew HO_7.out)
            replace HO_9 := Aside0.mk (Kd.R_drew HO_9.out)
            replace HO_123000 := Aside0.mk (Kd.R_drew HO_123000.out)
            replace HO_123001 := Aside0.mk (Kd.R_drew HO_123001.out)
            replace HO127 := Aside0.mk (Kd.R_drew HO127.out)
            replace HO130 := Aside0.mk (Kd.R_drew HO130.out)
            replace HO133 := Aside0.mk (Kd.R_drew HO133.out)
            replace BK109 := Aside0.mk (blk_drew BK109.out)
            replace BK110 := Aside0.mk (blk_drew BK110.out)
            replace BK122 := Aside0.mk (blk_drew BK122.out)
            replace BK124 := Aside0.mk (blk_drew BK124.out)
            replace BK135 := Aside0.mk (blk_drew BK135.out)
            replace HB := Aside0.mk (below_drew1 HB.out)
            obtain ⟨Ao59, co59, eo59⟩ := Kd.R_slice HO133.out
            (first | subst eo59 | (injection eo59 with f1_ f2_ f3_; have f4_ := f1_.symm; have f5_ := f3_.symm; clear f1_ f2_ f3_; subst f4_; subst f5_))
            refine start_ (n := 6) (S := fun w' => w'.cell? ⟨gb135, 0, none⟩ = some (.slice Ao47 t125.length co47) ∧ w'.cell? ⟨gb135, 1, none⟩ = some (.slice Ao53 t128.length co53)) (ds := []) #[false, false, false, false, false, false] (by kernel_rfl) rfl rfl ⟨(blk_cell BK135.out 0).trans rfl, (blk_cell BK135.out 1).trans rfl⟩ (fun hHeld => ?_)
            generalize w56.drew = w57 at HO_7 HO_9 HO_123000 HO_123001 HO127 HO130 HO133 BK109 BK110 BK122 BK124 BK135 HB hHeld ⊢
            refine plan_ [(1, 61, false), (2, 62, false), (0, 60, true)] ?_
            repeat (first
             | (
              refine plan_pure (v := ?_) (a' := ?_) rfl rfl (by kernel_rfl) (Or.inl ⟨by rfl, ?_⟩) ?_ ?_ (fun _ _ _ h => h)
              rotate_left
              ·intro w'
               go_simp
               with_reducible rfl
              rotate_left
              ·simp only [Act.put, List.setIfInBounds_toArray, List.set_cons_zero, List.set_cons_succ, i64_w, i32_w]
               rfl)
             | (
              refine plan_take (v := ?_) (a' := ?_) rfl rfl (by kernel_rfl) (Or.inl ⟨by rfl, ?_⟩) hHeld ?_ ?_ (fun _ _ _ h => h)
              rotate_left
              ·rintro w' ⟨s0, s1⟩
               go_simp
               with_reducible rfl
              rotate_left
              ·simp only [Act.put, List.setIfInBounds_toArray, List.set_cons_zero, List.set_cons_succ, i64_w, i32_w]
               rfl))
            refine plan_end ?_
            refine one_ (i := 3) (N := some 63) #[true, true, true, true, false, false] rfl rfl (by kernel_rfl) (by decide) (fun K hK => ?_)
            refine Kd.R_append_rows_step k61 (w0 := w) w.heap.size (by rfl) (.tmp 61) (.tmp 62) 48 61 (.agg #[(.string ⟨#[]⟩), (.int .i64 0)]) 24 rfl Try.underlying48 info61 rfl (by decide) (by omega) u9 x9_1 t131 _ _ _ (fun k_ => some k_ ≠ (.slice Ao59 t131.length co59 : Value).ownBlock) (fun _ => False) rfl rfl ?aO ?aR (fun _ _ h => h) (fun _ h => h.elim) ?aF ?aB ?aS ?aL ?_
            (case aR => repeat (first | exact (Kd.R_reads' HO133.out).2.2 | (with_reducible refine Kd.C_alloc ?_ _) | (with_reducible refine Kd.C_drewN ?_ _) | (with_reducible refine Kd.C_drew ?_)))
            (case aB => exact (kB))
            (case aF => exact (fun k_ hk => Kd.fresh' (Kd.R_lt (kr HO133)) k_ hk))
            (case aO => exact (kr HO_9))
            (case aS => exact (below_size (kB)))
            (case aL => have := LMc34.out; omega)
            intro v138 w58 ho hb hg hat
            rw [← Ny137.out] at ho
            have HO139 := Aside0.mk (ho)
            replace HO_7 := Aside0.mk (Kd.R_over' (kr HO_7) (Kd.R_typed (kr HO_9)) (by decide) hg)
            replace HO_123000 := Aside0.mk (Kd.R_over' (kr HO_123000) (Kd.R_typed (kr HO_9)) (by decide) hg)
            replace HO_123001 := Aside0.mk (Kd.R_over' (kr HO_123001) (Kd.R_typed (kr HO_9)) (by decide) hg)
            replace HO127 := Aside0.mk (Kd.R_over' (kr HO127) (Kd.R_typed (kr HO_9)) (by decide) hg)
            replace HO130 := Aside0.mk (Kd.R_over' (kr HO130) (Kd.R_typed (kr HO_9)) (by decide) hg)
            replace BK109 := Aside0.mk (blk_grown (kb BK109) hg (Kd.R_ne HO_9.out BK109.out (by decide)))
            replace BK110 := Aside0.mk (blk_grown (kb BK110) hg (Kd.R_ne HO_9.out BK110.out (by decide)))
            replace BK122 := Aside0.mk (blk_grown (kb BK122) hg (Kd.R_ne HO_9.out BK122.out (by decide)))
            replace BK124 := Aside0.mk (blk_grown (kb BK124) hg (Kd.R_ne HO_9.out BK124.out (by decide)))
            replace HO133 := Aside0.mk (Kd.R_after (ok := (fun _ => True)) (by (with_reducible repeat (first | apply Kd.R_alloc | apply Kd.R_drewN | apply Kd.R_drew)); exact Kd.R_mono HO133.out (fun _ hk => ⟨trivial, hk⟩)) hg hat)
            replace BK135 := Aside0.mk (blk_grown (kb BK135) hg (Kd.R_ne HO_9.out BK135.out (by decide)))
            replace HB := Aside0.mk (hb)
            clear HO_9
            clear ho hb hg hat
            refine hK.out _ _ ⟨(blk_cell BK135.out 0).trans rfl, (blk_cell BK135.out 1).trans rfl⟩ (fun hHeld => ?_)
            clear hK K
            refine norm_ (a' := ?_) ?_ ?_
            rotate_left
            ·show Act.put _ (some 63) _ = _
             simp only [Act.put, List.setIfInBounds_toArray, List.set_cons_zero, List.set_cons_succ, i64_w, i32_w]
             rfl
            refine one_ (i := 4) (N := none) #[true, true, true, true, true, false] rfl rfl (by kernel_rfl) (by decide) (fun K hK => ?_)
            have hs60 : w58.cell? ⟨gb122, 0, none⟩ = some (.slice Ao43 x123000_1.length co43) := (blk_cell BK122.out 0).trans rfl
            have hfs60 := blk_frozen BK122.out 0
            have hns60_0 := NB109_122.out
            have hns60_1 := NB110_122.out
            have hns60_3 := NB124_122.out
            have hns60_4 := NB135_122.out
            have hms60_0 := NB122_109.out
            have hms60_1 := NB122_110.out
            have hms60_3 := NB122_124.out
            have hms60_4 := NB122_135.out
            have hs61 : w58.cell? ⟨gb122, 1, none⟩ = some (.slice Ao44 x123001_1.length co44) := (blk_cell BK122.out 1).trans rfl
            have hfs61 := blk_frozen BK122.out 1
            have hns61_0 := NB109_122.out
            have hns61_1 := NB110_122.out
            have hns61_3 := NB124_122.out
            have hns61_4 := NB135_122.out
            have hms61_0 := NB122_109.out
            have hms61_1 := NB122_110.out
            have hms61_3 := NB122_124.out
            have hms61_4 := NB122_135.out
            refine skip_ (w1 := ?_) (by rfl) rfl ?_ ?_
            rotate_left
            ·go_simp
             rfl
            refine hK.out _ _ ⟨((cell_far (p := ⟨gb122, _, none⟩) NB135_122.out _).trans (((cell_far (p := ⟨gb122, _, none⟩) NB135_122.out _).trans (hHeld.1)))), ((cell_far (p := ⟨gb122, _, none⟩) NB135_122.out _).trans (((cell_far (p := ⟨gb122, _, none⟩) NB135_122.out _).trans (hHeld.2))))⟩ (fun hHeld => ?_)
            clear hK K
            refine pure_ (i := 5) (N := some 9) (v := ?_) (a' := ?_) #[true, true, true, true, true, true] rfl rfl (by kernel_rfl) (fun _ _ _ h => h) (Or.inl ⟨by rfl, ?_⟩) ?_ ?_
            rotate_left
            ·intro w'
             go_simp
             with_reducible rfl
            rotate_left
            ·simp only [Act.put, List.setIfInBounds_toArray, List.set_cons_zero, List.set_cons_succ, i64_w, i32_w]
             rfl
            refine done_ (by kernel_rfl) ?_
            try go_wp2
            go_roundg k1
            case measure => have := HK1.out; omega
            case rel => exact ⟨(y136), (y137), (wrap64 (x42_1 + 1)), (t125), (t128), (.slice Ao47 t125.length co47), (.slice Ao53 t128.length co53), (by first | rfl | (simp; done) | (simp [*]; done)), H', ⟨by have := HK1.out; omega⟩, ⟨by (with_reducible repeat (first | apply Kd.R_alloc | apply Kd.R_drewN | apply Kd.R_drew)); exact Kd.R_mono (Kd.R_far (p := ⟨gb122, 1, none⟩) (Kd.R_far (p := ⟨gb122, 0, none⟩) (Kd.R_types HO_7.out BK122.out (by decide)) (fun _ hk => hk.2) (.slice Ao47 t125.length co47)) (fun _ hk => hk.2) (.slice Ao53 t128.length co53)) (fun _ hk => trivial)⟩, ⟨by (with_reducible repeat (first | apply Kd.R_alloc | apply Kd.R_drewN | apply Kd.R_drew)); exact Kd.R_mono (Kd.R_far (p := ⟨gb122, 1, none⟩) (Kd.R_far (p := ⟨gb122, 0, none⟩) (Kd.R_types HO139.out BK122.out (by decide)) (fun _ hk => hk.2) (.slice Ao47 t125.length co47)) (fun _ hk => hk.2) (.slice Ao53 t128.length co53)) (fun _ hk => trivial)⟩, ⟨by (with_reducible repeat (first | apply Kd.R_alloc | apply Kd.R_drewN | apply Kd.R_drew)); exact Kd.R_mono (Kd.R_far (p := ⟨gb122, 1, none⟩) (Kd.R_far (p := ⟨gb122, 0, none⟩) (Kd.R_types HO127.out BK122.out (by decide)) (fun _ hk => hk.2) (.slice Ao47 t125.length co47)) (fun _ hk => hk.2) (.slice Ao53 t128.length co53)) (fun _ hk => trivial)⟩, ⟨by (with_reducible repeat (first | apply Kd.R_alloc | apply Kd.R_drewN | apply Kd.R_drew)); exact Kd.R_mono (Kd.R_far (p := ⟨gb122, 1, none⟩) (Kd.R_far (p := ⟨gb122, 0, none⟩) (Kd.R_types HO130.out BK122.out (by decide)) (fun _ hk => hk.2) (.slice Ao47 t125.length co47)) (fun _ hk => hk.2) (.slice Ao53 t128.length co53)) (fun _ hk => trivial)⟩, ⟨kb BK109⟩, ⟨kb BK110⟩, ⟨by (with_reducible repeat (first | refine blk_drewN ?_ _ | refine blk_drew ?_ | refine blk_alloc ?_ _)); refine blk_put (cs := #[.slice Ao47 t125.length co47, .slice Ao44 x123001_1.length co44]) ?_ 1 _ rfl; (with_reducible repeat (first | refine blk_drewN ?_ _ | refine blk_drew ?_ | refine blk_alloc ?_ _)); refine blk_put (cs := #[.slice Ao43 x123000_1.length co43, .slice Ao44 x123001_1.length co44]) ?_ 0 _ rfl; (with_reducible repeat (first | refine blk_drewN ?_ _ | refine blk_drew ?_ | refine blk_alloc ?_ _)); exact BK122.out⟩, ⟨kB⟩⟩
           ·rw [if_neg c34] at H
            exact absurd H (by simp)
          ·rw [if_neg c33] at H
           have c33b0 : (t134 == 0) = false := beq_eq_false_iff_ne.mpr c33
           have c33b1 : (t134 != 0) = true := bne_iff_ne.mpr c33
           have H' := Aside0.mk H
           clear H
           have p123 : 0 ≤ (x42_1 : Int) := of_decide_eq_true (by first | (with_reducible assumption) | assumption)
           have q123 : x42_1 < (l1.length : Int) := of_decide_eq_true (by first | (with_reducible assumption) | assumption)
           obtain ⟨ad123, e123, hx123_0, hx123_1, hx123_2, hx123_3, hx123_4⟩ := at_T45 HR1.out x42_1 p123 q123
           cases e123
           replace hx123_0 := (HB.out.cell (World.block_lt_of_cell? w _ hx123_0)).trans hx123_0
           replace hx123_1 := (HB.out.cell (World.block_lt_of_cell? w _ hx123_1)).trans hx123_1
           replace hx123_2 := (HB.out.cell (World.block_lt_of_cell? w _ hx123_2)).trans hx123_2
           replace hx123_3 := (HB.out.cell (World.block_lt_of_cell? w _ hx123_3)).trans hx123_3
           replace hx123_4 := (HB.out.cell (World.block_lt_of_cell? w _ hx123_4)).trans hx123_4
           replace p123 := eq_true p123
           replace q123 := eq_true q123
           go_wp2_with (first | ((with_reducible refine gate_dst (N := 12) rfl ?_); refine box_event ?hg (N := 12) ?hd (cs := #[.int .i64 0, .string (⟨#[]⟩ : ByteArray), .string (⟨#[]⟩ : ByteArray), .string (⟨#[]⟩ : ByteArray), .int .u64 0]) (t := 45) ?hr ?_; (case hd => rfl); (case hg => rfl); (case hr => first | (go_simp; done) | (go_simp; rfl)); intro gb124 hg w62 hbox hb; have BK124 := Aside0.mk (hbox); have GW124 := gw_ hg kB; have GE124 := gw_ hg kB; have NB109_124 := nb_lt hg BK109; have NB124_109 := nb_gt hg BK109; have NB110_124 := nb_lt hg BK110; have NB124_110 := nb_gt hg BK110; have NB122_124 := nb_lt hg BK122; have NB124_122 := nb_gt hg BK122; replace HO_7 := cr HO_7 hb; replace HO_9 := cr HO_9 hb; replace HO_123000 := cr HO_123000 hb; replace HO_123001 := cr HO_123001 hb; replace BK109 := cb BK109 hb; replace BK110 := cb BK110 hb; replace BK122 := cb BK122 hb; replace HB := cB hb kB; clear hb hbox hg; have hnb63 := NB124_109.out; have hnc63 := NB109_124.out; have hnb64 := NB124_110.out; have hnc64 := NB110_124.out; have hnb65 := NB124_122.out; have hnc65 := NB122_124.out; have hcz66_0 : w62.cell? ⟨gb124, 0, none⟩ = some (.int .i64 0) := (blk_cell BK124.out 0).trans rfl; have hcz66_1 : w62.cell? ⟨gb124, 1, none⟩ = some (.string (⟨#[]⟩ : ByteArray)) := (blk_cell BK124.out 1).trans rfl; have hcz66_2 : w62.cell? ⟨gb124, 2, none⟩ = some (.string (⟨#[]⟩ : ByteArray)) := (blk_cell BK124.out 2).trans rfl; have hcz66_3 : w62.cell? ⟨gb124, 3, none⟩ = some (.string (⟨#[]⟩ : ByteArray)) := (blk_cell BK124.out 3).trans rfl; have hcz66_4 : w62.cell? ⟨gb124, 4, none⟩ = some (.int .u64 0) := (blk_cell BK124.out 4).trans rfl; have hfz66_0 := blk_frozen BK124.out 0; have hfz66_1 := blk_frozen BK124.out 1; have hfz66_2 := blk_frozen BK124.out 2; have hfz66_3 := blk_frozen BK124.out 3; have hfz66_4 := blk_frozen BK124.out 4; have hnb67 := NB122_109.out; have hnc67 := NB109_122.out; have hnb68 := NB122_110.out; have hnc68 := NB110_122.out; have hcz69_0 : w62.cell? ⟨gb122, 0, none⟩ = some (u123000) := (blk_cell BK122.out 0).trans rfl; have hcz69_1 : w62.cell? ⟨gb122, 1, none⟩ = some (u123001) := (blk_cell BK122.out 1).trans rfl; have hfz69_0 := blk_frozen BK122.out 0; have hfz69_1 := blk_frozen BK122.out 1; obtain ⟨Ao70, co70, eo70⟩ := Kd.R_slice HO_123000.out; subst eo70; obtain ⟨Ao71, co71, eo71⟩ := Kd.R_slice HO_123001.out; subst eo71) | ((with_reducible refine gate_callee (f := 18) rfl ?_); refine goesL_ (some 50) rfl rfl Try.func18 (by kernel_rfl) rfl #[.agg #[.slice Ao70 x123000_1.length co70, .slice Ao71 x123001_1.length co71], .agg #[.int .i64 ((rd_T45 l1 x42_1).f0), .string ((rd_T45 l1 x42_1).f1), .string ((rd_T45 l1 x42_1).f2), .string ((rd_T45 l1 x42_1).f3), .int .u64 ((rd_T45 l1 x42_1).f4)]] rfl (by (try simp only [List.map_toArray, List.map_cons, List.map_nil]); first | done | rfl | (simp only [List.length_drop, List.length_take]; rfl)) ?_; (with_reducible refine (media_Step.calls _ _ x123000_1 _ _ x123001_1 ((rd_T45 l1 x42_1).f0) ((rd_T45 l1 x42_1).f1) ((rd_T45 l1 x42_1).f2) ((rd_T45 l1 x42_1).f3) ((rd_T45 l1 x42_1).f4) t125 t128 t131 t134 _ ?side1 ?side2 ?side3 ?side4 A30.out).mono ?_); (case side1 => refine (Kd.R_reads' (e := 37) (base := w.heap.size) (ok := fun k_ => True) (n := x123000_1.length) (c := co70) ?_).2.2; exact (kr HO_123000)); (case side2 => exact (Kd.R_reads' HO_123000.out).2.1); (case side3 => refine (Kd.R_reads' (e := 39) (base := w.heap.size) (ok := fun k_ => True) (n := x123001_1.length) (c := co71) ?_).2.2; exact (kr HO_123001)); (case side4 => exact (Kd.R_reads' HO_123001.out).2.1); rintro e w72 ⟨v126, v129, v132, rfl, ho0, ho1, ho2, hb⟩; refine ⟨_, rfl, ?_⟩; have HO127 := Aside0.mk (Kd.R_lower (Kd.R_new' ho0 (Kd.R_lt (kr HO_123000))) (below_size (kB))); have HO130 := Aside0.mk (Kd.R_lower (Kd.R_new' ho1 (Kd.R_lt (kr HO_123001))) (below_size (kB))); have HO133 := Aside0.mk (Kd.R_lower (Kd.R_new' ho2 (Kd.R_lt (kr HO_9))) (below_size (kB))); replace HO_7 := cr HO_7 hb; replace HO_9 := Aside0.mk (Kd.R_elder' (kr HO_9) (Kd.R_base ho2) hb); replace HO_123000 := Aside0.mk (Kd.R_elder' (kr HO_123000) (Kd.R_base ho0) hb); replace HO_123001 := Aside0.mk (Kd.R_elder' (kr HO_123001) (Kd.R_base ho1) hb); replace BK109 := cb BK109 hb; replace BK110 := cb BK110 hb; replace BK122 := cb BK122 hb; replace BK124 := Aside0.mk (blk_below (g := gb124) (o := .cells #[.int .i64 ((rd_T45 l1 x42_1).f0), .string ((rd_T45 l1 x42_1).f1), .string ((rd_T45 l1 x42_1).f2), .string ((rd_T45 l1 x42_1).f3), .int .u64 ((rd_T45 l1 x42_1).f4)] 45 (0, 0)) (by (with_reducible repeat (first | refine blk_drewN ?_ _ | refine blk_drew ?_ | refine blk_alloc ?_ _)); refine blk_put (cs := #[.int .i64 ((rd_T45 l1 x42_1).f0), .string ((rd_T45 l1 x42_1).f1), .string ((rd_T45 l1 x42_1).f2), .string ((rd_T45 l1 x42_1).f3), .int .u64 0]) ?_ 4 _ rfl; (with_reducible repeat (first | refine blk_drewN ?_ _ | refine blk_drew ?_ | refine blk_alloc ?_ _)); refine blk_put (cs := #[.int .i64 ((rd_T45 l1 x42_1).f0), .string ((rd_T45 l1 x42_1).f1), .string ((rd_T45 l1 x42_1).f2), .string (⟨#[]⟩ : ByteArray), .int .u64 0]) ?_ 3 _ rfl; (with_reducible repeat (first | refine blk_drewN ?_ _ | refine blk_drew ?_ | refine blk_alloc ?_ _)); refine blk_put (cs := #[.int .i64 ((rd_T45 l1 x42_1).f0), .string ((rd_T45 l1 x42_1).f1), .string (⟨#[]⟩ : ByteArray), .string (⟨#[]⟩ : ByteArray), .int .u64 0]) ?_ 2 _ rfl; (with_reducible repeat (first | refine blk_drewN ?_ _ | refine blk_drew ?_ | refine blk_alloc ?_ _)); refine blk_put (cs := #[.int .i64 ((rd_T45 l1 x42_1).f0), .string (⟨#[]⟩ : ByteArray), .string (⟨#[]⟩ : ByteArray), .string (⟨#[]⟩ : ByteArray), .int .u64 0]) ?_ 1 _ rfl; (with_reducible repeat (first | refine blk_drewN ?_ _ | refine blk_drew ?_ | refine blk_alloc ?_ _)); refine blk_put (cs := #[.int .i64 0, .string (⟨#[]⟩ : ByteArray), .string (⟨#[]⟩ : ByteArray), .string (⟨#[]⟩ : ByteArray), .int .u64 0]) ?_ 0 _ rfl; (with_reducible repeat (first | refine blk_drewN ?_ _ | refine blk_drew ?_ | refine blk_alloc ?_ _)); exact BK124.out) hb); replace HB := cB hb kB; (try clear hb); (try clear hb2); (try clear hk); (try clear hi); (try clear ho0); (try clear ho1); (try clear ho2)) | ((with_reducible refine gate_dst (N := 13) rfl ?_); refine box_event ?hg (N := 13) ?hd (cs := #[.slice none 0 0, .slice none 0 0]) (t := 30) ?hr ?_; (case hd => rfl); (case hg => rfl); (case hr => first | (go_simp; done) | (go_simp; rfl)); intro gb135 hg w73 hbox hb; have BK135 := Aside0.mk (hbox); have GW135 := gw_ hg kB; have GE135 := gw_ hg kB; have NB109_135 := nb_lt hg BK109; have NB135_109 := nb_gt hg BK109; have NB110_135 := nb_lt hg BK110; have NB135_110 := nb_gt hg BK110; have NB122_135 := nb_lt hg BK122; have NB135_122 := nb_gt hg BK122; have NB124_135 := nb_lt hg BK124; have NB135_124 := nb_gt hg BK124; replace HO_7 := cr HO_7 hb; replace HO_9 := cr HO_9 hb; replace HO_123000 := cr HO_123000 hb; replace HO_123001 := cr HO_123001 hb; replace HO127 := cr HO127 hb; replace HO130 := cr HO130 hb; replace HO133 := cr HO133 hb; replace BK109 := cb BK109 hb; replace BK110 := cb BK110 hb; replace BK122 := cb BK122 hb; replace BK124 := cb BK124 hb; replace HB := cB hb kB; clear hb hbox hg; obtain ⟨Ao74, co74, eo74⟩ := Kd.R_slice HO127.out; subst eo74; have hnb75 := NB135_109.out; have hnc75 := NB109_135.out; have hnb76 := NB135_110.out; have hnc76 := NB110_135.out; have hnb77 := NB135_122.out; have hnc77 := NB122_135.out; have hnb78 := NB135_124.out; have hnc78 := NB124_135.out; have hcz79_0 : w73.cell? ⟨gb135, 0, none⟩ = some (.slice none 0 0) := (blk_cell BK135.out 0).trans rfl; have hcz79_1 : w73.cell? ⟨gb135, 1, none⟩ = some (.slice none 0 0) := (blk_cell BK135.out 1).trans rfl; have hfz79_0 := blk_frozen BK135.out 0; have hfz79_1 := blk_frozen BK135.out 1; obtain ⟨Ao80, co80, eo80⟩ := Kd.R_slice HO130.out; subst eo80) | ((with_reducible refine gate_store (t := 30) (p := 13) rfl ?_); refine store_event (t := 30) (p := 13) (v := ?vo_w81) (w1 := ((w73.setCell ⟨gb135, 0, none⟩ (.slice Ao74 t125.length co74)).setCell ⟨gb135, 1, none⟩ (.slice Ao80 t128.length co80))) ?hg ?ho ?hn ?hr ?_; (case ho => rfl); (case hg => rfl); (case hn => rfl); (case hr => first | (go_simp; done) | (go_simp; rfl)); intro w81 hw; have n0_ : Aside0 (Kd.R (Kd.int .i64) 49 w81 w.heap.size (fun _ => True) v112 x7_1) := ⟨(by rw [hw]; exact (by (with_reducible repeat (first | apply Kd.R_alloc | apply Kd.R_drewN | apply Kd.R_drew)); exact Kd.R_mono (Kd.R_far (p := ⟨gb135, 1, none⟩) (Kd.R_far (p := ⟨gb135, 0, none⟩) (Kd.R_types HO_7.out BK135.out (by decide)) (fun _ hk => hk.2) (.slice Ao74 t125.length co74)) (fun _ hk => hk.2) (.slice Ao80 t128.length co80)) (fun _ hk => trivial)))⟩; have n1_ : Aside0 (Kd.R k61 61 w81 w.heap.size (fun k_ => some k_ ≠ (v132 : Value).ownBlock) u9 x9_1) := ⟨(by rw [hw]; exact (by (with_reducible repeat (first | apply Kd.R_alloc | apply Kd.R_drewN | apply Kd.R_drew)); exact Kd.R_mono (Kd.R_far (p := ⟨gb135, 1, none⟩) (Kd.R_far (p := ⟨gb135, 0, none⟩) (Kd.R_types HO_9.out BK135.out (by decide)) (fun _ hk => hk.2) (.slice Ao74 t125.length co74)) (fun _ hk => hk.2) (.slice Ao80 t128.length co80)) (fun _ hk => hk.1.2)))⟩; have n2_ : Aside0 (Kd.R k37 37 w81 w.heap.size (fun k_ => some k_ ≠ (.slice Ao74 t125.length co74 : Value).ownBlock) (.slice Ao70 x123000_1.length co70) x123000_1) := ⟨(by rw [hw]; exact (by (with_reducible repeat (first | apply Kd.R_alloc | apply Kd.R_drewN | apply Kd.R_drew)); exact Kd.R_mono (Kd.R_far (p := ⟨gb135, 1, none⟩) (Kd.R_far (p := ⟨gb135, 0, none⟩) (Kd.R_types HO_123000.out BK135.out (by decide)) (fun _ hk => hk.2) (.slice Ao74 t125.length co74)) (fun _ hk => hk.2) (.slice Ao80 t128.length co80)) (fun _ hk => hk.1.2)))⟩; have n3_ : Aside0 (Kd.R k39 39 w81 w.heap.size (fun k_ => some k_ ≠ (.slice Ao80 t128.length co80 : Value).ownBlock) (.slice Ao71 x123001_1.length co71) x123001_1) := ⟨(by rw [hw]; exact (by (with_reducible repeat (first | apply Kd.R_alloc | apply Kd.R_drewN | apply Kd.R_drew)); exact Kd.R_mono (Kd.R_far (p := ⟨gb135, 1, none⟩) (Kd.R_far (p := ⟨gb135, 0, none⟩) (Kd.R_types HO_123001.out BK135.out (by decide)) (fun _ hk => hk.2) (.slice Ao74 t125.length co74)) (fun _ hk => hk.2) (.slice Ao80 t128.length co80)) (fun _ hk => hk.1.2)))⟩; have n4_ : Aside0 (Kd.R k37 37 w81 w.heap.size (fun k_ => some k_ ≠ (.slice Ao70 x123000_1.length co70 : Value).ownBlock) (.slice Ao74 t125.length co74) t125) := ⟨(by rw [hw]; exact (by (with_reducible repeat (first | apply Kd.R_alloc | apply Kd.R_drewN | apply Kd.R_drew)); exact Kd.R_mono (Kd.R_far (p := ⟨gb135, 1, none⟩) (Kd.R_far (p := ⟨gb135, 0, none⟩) (Kd.R_types HO127.out BK135.out (by decide)) (fun _ hk => hk.2) (.slice Ao74 t125.length co74)) (fun _ hk => hk.2) (.slice Ao80 t128.length co80)) (fun _ hk => hk.1.2)))⟩; have n5_ : Aside0 (Kd.R k39 39 w81 w.heap.size (fun k_ => some k_ ≠ (.slice Ao71 x123001_1.length co71 : Value).ownBlock) (.slice Ao80 t128.length co80) t128) := ⟨(by rw [hw]; exact (by (with_reducible repeat (first | apply Kd.R_alloc | apply Kd.R_drewN | apply Kd.R_drew)); exact Kd.R_mono (Kd.R_far (p := ⟨gb135, 1, none⟩) (Kd.R_far (p := ⟨gb135, 0, none⟩) (Kd.R_types HO130.out BK135.out (by decide)) (fun _ hk => hk.2) (.slice Ao74 t125.length co74)) (fun _ hk => hk.2) (.slice Ao80 t128.length co80)) (fun _ hk => hk.1.2)))⟩; have n6_ : Aside0 (Kd.R k61 61 w81 w.heap.size (fun k_ => some k_ ≠ (u9 : Value).ownBlock) v132 t131) := ⟨(by rw [hw]; exact (by (with_reducible repeat (first | apply Kd.R_alloc | apply Kd.R_drewN | apply Kd.R_drew)); exact Kd.R_mono (Kd.R_far (p := ⟨gb135, 1, none⟩) (Kd.R_far (p := ⟨gb135, 0, none⟩) (Kd.R_types HO133.out BK135.out (by decide)) (fun _ hk => hk.2) (.slice Ao74 t125.length co74)) (fun _ hk => hk.2) (.slice Ao80 t128.length co80)) (fun _ hk => hk.1.2)))⟩; have n7_ : Aside0 (w81.heap[gb109]? = some (.cells #[.slice A0_0 l0_0.length c0_0, .slice A0_1 l0_1.length c0_1] 30 (0, 0))) := ⟨(by rw [hw]; exact (kb BK109))⟩; have n8_ : Aside0 (w81.heap[gb110]? = some (.cells #[.slice none 0 0, .slice none 0 0] 30 (0, 0))) := ⟨(by rw [hw]; exact (kb BK110))⟩; have n9_ : Aside0 (w81.heap[gb122]? = some (.cells #[.slice Ao70 x123000_1.length co70, .slice Ao71 x123001_1.length co71] 30 (0, 0))) := ⟨(by rw [hw]; exact (kb BK122))⟩; have n10_ : Aside0 (w81.heap[gb124]? = some (.cells #[.int .i64 ((rd_T45 l1 x42_1).f0), .string ((rd_T45 l1 x42_1).f1), .string ((rd_T45 l1 x42_1).f2), .string ((rd_T45 l1 x42_1).f3), .int .u64 ((rd_T45 l1 x42_1).f4)] 45 (0, 0))) := ⟨(by rw [hw]; exact (kb BK124))⟩; have n11_ : Aside0 (w81.heap[gb135]? = some (.cells #[.slice Ao74 t125.length co74, .slice Ao80 t128.length co80] 30 (0, 0))) := ⟨(by rw [hw]; exact (by (with_reducible repeat (first | refine blk_drewN ?_ _ | refine blk_drew ?_ | refine blk_alloc ?_ _)); refine blk_put (cs := #[.slice Ao74 t125.length co74, .slice none 0 0]) ?_ 1 _ rfl; (with_reducible repeat (first | refine blk_drewN ?_ _ | refine blk_drew ?_ | refine blk_alloc ?_ _)); refine blk_put (cs := #[.slice none 0 0, .slice none 0 0]) ?_ 0 _ rfl; (with_reducible repeat (first | refine blk_drewN ?_ _ | refine blk_drew ?_ | refine blk_alloc ?_ _)); exact BK135.out))⟩; have n12_ : Aside0 (Below w.heap.size w w81) := ⟨(by rw [hw]; exact (kB))⟩; clear hw; clear HO_7; clear HO_9; clear HO_123000; clear HO_123001; clear HO127; clear HO130; clear HO133; clear BK109; clear BK110; clear BK122; clear BK124; clear BK135; clear HB; have HO_7 := n0_; have HO_9 := n1_; have HO_123000 := n2_; have HO_123001 := n3_; have HO127 := n4_; have HO130 := n5_; have HO133 := n6_; have BK109 := n7_; have BK110 := n8_; have BK122 := n9_; have BK124 := n10_; have BK135 := n11_; have HB := n12_; clear n0_ n1_ n2_ n3_ n4_ n5_ n6_ n7_ n8_ n9_ n10_ n11_ n12_; have p32 : 0 ≤ (x42_1 : Int) := of_decide_eq_true (by first | (with_reducible assumption) | assumption); have q32 : (x42_1 : Int) < ((x7_1.length : Int) : Int) := of_decide_eq_true (by first | (with_reducible assumption) | assumption); obtain ⟨go32, co32, eo32, gb32, gl32, cl32, HG32⟩ := Kd.R_form HO_7.out (by omega); (first | cases eo32 | (injection eo32 with ea_ en_ ec_; (first | subst ea_ | (injection ea_ with ea_; subst ea_)); subst ec_; clear en_)); have GB32 := Aside0.mk gb32; have GG32 := Aside0.mk HG32; clear gb32 gl32 HG32; obtain ⟨hx32_0, hf32_0⟩ := Kd.R_celln 0 HO_7.out (x42_1 : Int) p32 q32; replace p32 := eq_true p32; replace q32 := eq_true q32; obtain ⟨hy82_, hz82_⟩ := Kd.R_celln 0 HO_7.out (x42_1 : Int) (of_decide_eq_true (by first | (with_reducible assumption) | assumption)) (of_decide_eq_true (by first | (with_reducible assumption) | assumption)); have HP82 := Kd.R_putg HO_7.out (x42_1 : Int) t134) | ((with_reducible refine gate_store (t := 49) (p := 57) rfl ?_); refine store_event (t := 49) (p := 57) (v := ?vo_w83) (w1 := (w81.setCell ⟨go32, (x42_1 : Int).toNat, none⟩ (.int .i64 t134))) ?hg ?ho ?hn ?hr ?_; (case ho => rfl); (case hg => rfl); (case hn => rfl); (case hr => first | (go_simp; done) | (go_simp; rfl)); intro w83 hw; have hg : w81.grownBy w83 (some go32) := (by rw [hw]; exact HP82.2); have hp_ : Kd.R (Kd.int .i64) 49 w83 w.heap.size (fun _ => True) (.slice (some ⟨go32, 0, none⟩) x7_1.length co32) y136 := (by rw [hw, Ny136.out]; exact HP82.1); clear HP82; replace HO_9 := Aside0.mk (Kd.R_over' (v := (.slice (some ⟨go32, 0, none⟩) x7_1.length co32)) (kr HO_9) (Kd.R_typed HO_7.out) (by decide) hg); replace HO_123000 := Aside0.mk (Kd.R_over' (v := (.slice (some ⟨go32, 0, none⟩) x7_1.length co32)) (kr HO_123000) (Kd.R_typed HO_7.out) (by decide) hg); replace HO_123001 := Aside0.mk (Kd.R_over' (v := (.slice (some ⟨go32, 0, none⟩) x7_1.length co32)) (kr HO_123001) (Kd.R_typed HO_7.out) (by decide) hg); replace HO127 := Aside0.mk (Kd.R_over' (v := (.slice (some ⟨go32, 0, none⟩) x7_1.length co32)) (kr HO127) (Kd.R_typed HO_7.out) (by decide) hg); replace HO130 := Aside0.mk (Kd.R_over' (v := (.slice (some ⟨go32, 0, none⟩) x7_1.length co32)) (kr HO130) (Kd.R_typed HO_7.out) (by decide) hg); replace HO133 := Aside0.mk (Kd.R_over' (v := (.slice (some ⟨go32, 0, none⟩) x7_1.length co32)) (kr HO133) (Kd.R_typed HO_7.out) (by decide) hg); replace BK109 := Aside0.mk (blk_grown (kb BK109) hg (Kd.R_ne HO_7.out BK109.out (by decide))); replace BK110 := Aside0.mk (blk_grown (kb BK110) hg (Kd.R_ne HO_7.out BK110.out (by decide))); replace BK122 := Aside0.mk (blk_grown (kb BK122) hg (Kd.R_ne HO_7.out BK122.out (by decide))); replace BK124 := Aside0.mk (blk_grown (kb BK124) hg (Kd.R_ne HO_7.out BK124.out (by decide))); replace BK135 := Aside0.mk (blk_grown (kb BK135) hg (Kd.R_ne HO_7.out BK135.out (by decide))); replace HO_7 := Aside0.mk (hp_); replace HB := Aside0.mk ((by rw [hw]; exact below_set (HB.out) GB32.out : Below w.heap.size w w83)); clear hg hw hp_))
           go_roundg k1
           case measure => have := HK1.out; omega
           case rel => exact ⟨(y136), (x9_1), (wrap64 (x42_1 + 1)), (x123000_1), (x123001_1), (.slice Ao70 x123000_1.length co70), (.slice Ao71 x123001_1.length co71), (by first | rfl | (simp; done) | (simp [*]; done)), H', ⟨by have := HK1.out; omega⟩, ⟨kr HO_7⟩, ⟨by (with_reducible repeat (first | apply Kd.R_alloc | apply Kd.R_drewN | apply Kd.R_drew)); exact Kd.R_mono HO_9.out (fun _ hk => trivial)⟩, ⟨by (with_reducible repeat (first | apply Kd.R_alloc | apply Kd.R_drewN | apply Kd.R_drew)); exact Kd.R_mono HO_123000.out (fun _ hk => trivial)⟩, ⟨by (with_reducible repeat (first | apply Kd.R_alloc | apply Kd.R_drewN | apply Kd.R_drew)); exact Kd.R_mono HO_123001.out (fun _ hk => trivial)⟩, ⟨kb BK109⟩, ⟨kb BK110⟩, ⟨kb BK122⟩, ⟨kB⟩⟩
         ·rw [if_neg c31] at H
          exact absurd H (by simp)
        ·rw [if_neg c29] at H
         exact absurd H (by simp)
       ·rw [if_neg c28] at H
        exact absurd H (by simp)
      ·rw [if_neg c27] at H
       have c27b0 : decide (x42_1 < (l1.length : Int)) = false := decide_eq_false c27
       clear c27
       simp only [Option.some.injEq, Prod.mk.injEq] at H
       obtain ⟨rfl, rfl, rfl, rfl⟩ := H
       have hnb84 := NB122_109.out
       have hnc84 := NB109_122.out
       have hnb85 := NB122_110.out
       have hnc85 := NB110_122.out
       have hcz86_0 : wr.cell? ⟨gb122, 0, none⟩ = some (u123000) := (blk_cell BK122.out 0).trans rfl
       have hcz86_1 : wr.cell? ⟨gb122, 1, none⟩ = some (u123001) := (blk_cell BK122.out 1).trans rfl
       have hfz86_0 := blk_frozen BK122.out 0
       have hfz86_1 := blk_frozen BK122.out 1
       obtain ⟨Ao87, co87, eo87⟩ := Kd.R_slice HO_123000.out
       subst eo87
       have hnb88 := NB110_109.out
       have hnc88 := NB109_110.out
       have hcz89_0 : wr.cell? ⟨gb110, 0, none⟩ = some (.slice none 0 0) := (blk_cell BK110.out 0).trans rfl
       have hcz89_1 : wr.cell? ⟨gb110, 1, none⟩ = some (.slice none 0 0) := (blk_cell BK110.out 1).trans rfl
       have hfz89_0 := blk_frozen BK110.out 0
       have hfz89_1 := blk_frozen BK110.out 1
       obtain ⟨Ao90, co90, eo90⟩ := Kd.R_slice HO_123001.out
       subst eo90
       go_wp2
       refine bodyPost_ret (results_ctt rfl _ _ gb110 30 #[.slice Ao87 x123000_1.length co87, .slice Ao90 x123001_1.length co90] (0, 0) _ rfl (by (with_reducible repeat (first | refine blk_drewN ?_ _ | refine blk_drew ?_ | refine blk_alloc ?_ _)); refine blk_put (cs := #[.slice Ao87 x123000_1.length co87, .slice none 0 0]) ?_ 1 _ rfl; (with_reducible repeat (first | refine blk_drewN ?_ _ | refine blk_drew ?_ | refine blk_alloc ?_ _)); refine blk_put (cs := #[.slice none 0 0, .slice none 0 0]) ?_ 0 _ rfl; (with_reducible repeat (first | refine blk_drewN ?_ _ | refine blk_drew ?_ | refine blk_alloc ?_ _)); exact BK110.out) Try.underlying30 rfl (by kernel_rfl)) rfl ?_
       exact ⟨_, _, _, _, by first | rfl | (simp [errW_none, errW_some] <;> rfl) | (simp [*, errW_none, errW_some] <;> rfl), by (with_reducible repeat (first | apply Kd.R_alloc | apply Kd.R_drewN | apply Kd.R_drew)); exact Kd.R_mono (Kd.R_far (p := ⟨gb110, 1, none⟩) (Kd.R_far (p := ⟨gb110, 0, none⟩) (Kd.R_types HO_123000.out BK110.out (by decide)) (fun _ hk => hk.2) (.slice Ao87 x123000_1.length co87)) (fun _ hk => hk.2) (.slice Ao90 x123001_1.length co90)) (fun _ hk => trivial), by (with_reducible repeat (first | apply Kd.R_alloc | apply Kd.R_drewN | apply Kd.R_drew)); exact Kd.R_mono (Kd.R_far (p := ⟨gb110, 1, none⟩) (Kd.R_far (p := ⟨gb110, 0, none⟩) (Kd.R_types HO_123001.out BK110.out (by decide)) (fun _ hk => hk.2) (.slice Ao87 x123000_1.length co87)) (fun _ hk => hk.2) (.slice Ao90 x123001_1.length co90)) (fun _ hk => trivial), by (with_reducible repeat (first | apply Kd.R_alloc | apply Kd.R_drewN | apply Kd.R_drew)); exact Kd.R_mono (Kd.R_far (p := ⟨gb110, 1, none⟩) (Kd.R_far (p := ⟨gb110, 0, none⟩) (Kd.R_types HO_9.out BK110.out (by decide)) (fun _ hk => hk.2) (.slice Ao87 x123000_1.length co87)) (fun _ hk => hk.2) (.slice Ao90 x123001_1.length co90)) (fun _ hk => trivial), by (with_reducible repeat (first | apply Kd.R_alloc | apply Kd.R_drewN | apply Kd.R_drew)); exact Kd.R_mono (Kd.R_far (p := ⟨gb110, 1, none⟩) (Kd.R_far (p := ⟨gb110, 0, none⟩) (Kd.R_types HO_7.out BK110.out (by decide)) (fun _ hk => hk.2) (.slice Ao87 x123000_1.length co87)) (fun _ hk => hk.2) (.slice Ao90 x123001_1.length co90)) (fun _ hk => trivial), kB⟩
   ·replace c6 := Bool.eq_false_iff.mpr c6
    subst c6
    have H1 : (media_Run.l0 k y111 (y111.length : Int) 0) = some (r1, r2, r3, r4) := by rw [if_neg (show ¬ (false = true) by decide)] at H; exact H
    clear H
    have H := H1
    clear H1
    have H' := Aside0.mk H
    clear H
    go_enter Try.func22, Try.ntmps22
    go_wp2_with (first | ((with_reducible refine gate_dst (N := 2) rfl ?_); refine box_event ?hg (N := 2) ?hd (cs := #[.slice A0_0 l0_0.length c0_0, .slice A0_1 l0_1.length c0_1]) (t := 30) ?hr ?_; (case hd => rfl); (case hg => rfl); (case hr => first | (go_simp; done) | (go_simp; rfl)); intro gb109 hg w91 hbox hb; have BK109 := Aside0.mk (hbox); have GW109 := gw_ hg kB; have GE109 := gw_ hg kB; replace HB := cB hb kB; clear hb hbox hg) | ((with_reducible refine gate_dst (N := 4) rfl ?_); refine box_event ?hg (N := 4) ?hd (cs := #[.slice none 0 0, .slice none 0 0]) (t := 30) ?hr ?_; (case hd => rfl); (case hg => rfl); (case hr => first | (go_simp; done) | (go_simp; rfl)); intro gb110 hg w92 hbox hb; have BK110 := Aside0.mk (hbox); have GW110 := gw_ hg kB; have GE110 := gw_ hg kB; have NB109_110 := nb_lt hg BK109; have NB110_109 := nb_gt hg BK109; replace BK109 := cb BK109 hb; replace HB := cB hb kB; clear hb hbox hg) | ((with_reducible refine gate_dst (N := 18) rfl ?_); refine Kd.R_make (Kd.int .i64) _ 49 rfl (N := 18) rfl 54 _ _ rfl (l1.length : Int) rfl rfl Try.underlying54 (.int .i64 0) 8 info49 rfl (by decide) (by omega) 0 (ok := fun _ => True) (okp := fun _ => True) rfl (fun _ hk => hk) trivial (of_decide_eq_true (by first | (with_reducible assumption) | assumption)) (Nat.le_trans (Nat.mul_le_mul_right _ (of_decide_eq_true (by first | (with_reducible assumption) | assumption) : (l1.length : Int).toNat ≤ 35184372088832)) (by omega)) (Below.refl _ _) (Nat.le_refl _) ?_; intro v112 w93 ho94 hb hg_ hnew_; clear hg_ hnew_; (first | rw [← Ny111.out] at ho94 | (simp only [Int.reduceToNat] at ho94; rw [← Ny111.out] at ho94)); have HO113 := Aside0.mk (Kd.R_lower ho94 (below_size (kB))); replace BK109 := cb BK109 hb; replace BK110 := cb BK110 hb; replace HB := cB hb kB; clear hb ho94; have hnb95 := NB109_110.out; have hnc95 := NB110_109.out; have hcz96_0 : w93.cell? ⟨gb109, 0, none⟩ = some (.slice A0_0 l0_0.length c0_0) := (blk_cell BK109.out 0).trans rfl; have hcz96_1 : w93.cell? ⟨gb109, 1, none⟩ = some (.slice A0_1 l0_1.length c0_1) := (blk_cell BK109.out 1).trans rfl; have hfz96_0 := blk_frozen BK109.out 0; have hfz96_1 := blk_frozen BK109.out 1) | ((with_reducible refine gate_callee (f := 13) rfl ?_); refine goesL_ (some 20) rfl rfl Try.func13 (by kernel_rfl) rfl #[.agg #[.slice A0_0 l0_0.length c0_0, .slice A0_1 l0_1.length c0_1]] rfl (by (try simp only [List.map_toArray, List.map_cons, List.map_nil]); first | done | rfl | (simp only [List.length_drop, List.length_take]; rfl)) ?_; (with_reducible refine (media_Valid.calls _ _ l0_0 _ _ l0_1 false _ ?side1 ?side2 ?side3 ?side4 A5.out).mono ?_); (case side1 => repeat (first | exact (Kd.C_below HR0_0.out HB.out) | (with_reducible refine Kd.C_alloc ?_ _) | (with_reducible refine Kd.C_drewN ?_ _) | (with_reducible refine Kd.C_drew ?_))); (case side2 => exact HC0_0.out); (case side3 => repeat (first | exact (Kd.C_below HR0_1.out HB.out) | (with_reducible refine Kd.C_alloc ?_ _) | (with_reducible refine Kd.C_drewN ?_ _) | (with_reducible refine Kd.C_drew ?_))); (case side4 => exact HC0_1.out); rintro e w97 ⟨rfl, hb⟩; refine ⟨_, rfl, ?_⟩; replace HO113 := cr HO113 hb; replace BK109 := cb BK109 hb; replace BK110 := cb BK110 hb; replace HB := cB hb kB; (try clear hb); (try clear hb2); (try clear hk); (try clear hi); obtain ⟨Ao98, co98, eo98⟩ := Kd.R_slice HO113.out; subst eo98))
    go_loopg [24] k (fun kq v24 w' => ∃ (x7_1 : List Int) (x24_1 : Int), v24 = .int .i64 x24_1 ∧ Aside0 (media_Run.l0 kq x7_1 (y111.length : Int) x24_1 = some (r1, r2, r3, r4)) ∧ Aside0 (kq ≤ k) ∧ Aside0 (Kd.R (Kd.int .i64) 49 w' w.heap.size (fun _ => True) (.slice Ao98 y111.length co98) x7_1) ∧ Aside0 (w'.heap[gb109]? = some (.cells #[(.slice A0_0 l0_0.length c0_0), (.slice A0_1 l0_1.length c0_1)] 30 (0, 0))) ∧ Aside0 (w'.heap[gb110]? = some (.cells #[(.slice none 0 0), (.slice none 0 0)] 30 (0, 0))) ∧ Aside0 (Below w.heap.size w w'))
    case atStart => exact ⟨(y111), (0), (by first | rfl | (simp; done) | (simp [*]; done)), H', ⟨Nat.le_refl _⟩, ⟨kr HO113⟩, ⟨kb BK109⟩, ⟨kb BK110⟩, ⟨kB⟩⟩
    case round =>
     clear H'
     try clear c1
     try clear p1
     try clear q1
     try clear hx1
     try clear c2
     try clear p2
     try clear c3
     try clear c3b0
     try clear c3b1
     try clear p3
     try clear q3
     try clear hx3
     try clear hf3
     try clear c4
     try clear c4b0
     try clear c4b1
     try clear c5
     try clear c6
     try clear p6
     try clear c7
     try clear c8
     try clear c9
     try clear p12
     try clear q12
     try clear hx12
     try clear c13
     try clear c18
     try clear c22
     try clear c27
     try clear c27b0
     try clear c28
     try clear c28b0
     try clear c29
     try clear c29b0
     try clear c31
     try clear c31b0
     try clear p32
     try clear q32
     try clear hx32
     try clear hf32
     try clear c33
     try clear c33b0
     try clear c33b1
     try clear c34
     try clear c36
     try clear c37
     try clear c38
     try clear c40
     try clear c41
     try clear c48
     try clear c49
     try clear c50
     try clear c51
     try clear c63
     try clear c64
     try clear p64
     try clear c65
     try clear c67
     try clear c68
     try clear c75
     try clear c76
     try clear c77
     try clear c78
     try clear c84
     try clear c85
     try clear c88
     try clear c95
     try clear hcz14_0
     try clear hcz14_1
     try clear hcz39_0
     try clear hcz39_1
     try clear hcz39_2
     try clear hcz39_3
     try clear hcz39_4
     try clear hcz42_0
     try clear hcz42_1
     try clear hcz52_0
     try clear hcz52_1
     try clear hcz66_0
     try clear hcz66_1
     try clear hcz66_2
     try clear hcz66_3
     try clear hcz66_4
     try clear hcz69_0
     try clear hcz69_1
     try clear hcz79_0
     try clear hcz79_1
     try clear hcz86_0
     try clear hcz86_1
     try clear hcz89_0
     try clear hcz89_1
     try clear hcz96_0
     try clear hcz96_1
     try clear hfz14_0
     try clear hfz14_1
     try clear hfz39_0
     try clear hfz39_1
     try clear hfz39_2
     try clear hfz39_3
     try clear hfz39_4
     try clear hfz42_0
     try clear hfz42_1
     try clear hfz52_0
     try clear hfz52_1
     try clear hfz66_0
     try clear hfz66_1
     try clear hfz66_2
     try clear hfz66_3
     try clear hfz66_4
     try clear hfz69_0
     try clear hfz69_1
     try clear hfz79_0
     try clear hfz79_1
     try clear hfz86_0
     try clear hfz86_1
     try clear hfz89_0
     try clear hfz89_1
     try clear hfz96_0
     try clear hfz96_1
     try clear hx123_0
     try clear hx123_1
     try clear hx123_2
     try clear hx123_3
     try clear hx123_4
     try clear hx32_0
     try clear p123
     try clear p2
     try clear p32
     try clear q123
     try clear q32
     obtain ⟨x7_1, x24_1, rfl, HA, HK1, HO_7, BK109, BK110, HB⟩ := hrel
     have hl7_1 := (Kd.R_reads' HO_7.out).1
     rw [hl7_1] at HO_7
     (try simp only [hl7_1])
     (try simp only [hl7_1] at BK109)
     (try simp only [hl7_1] at BK110)
     cases gk with
     | zero => exact absurd HA.out (by simp [media_Run.l0])
     | succ k1 =>
      have H := HA.out
      clear HA
      simp only [media_Run.l0] at H
      by_cases c99 : x24_1 < (y111.length : Int)
      ·rw [if_pos c99] at H
       have c99b0 : decide (x24_1 < (y111.length : Int)) = true := decide_eq_true c99
       clear c99
       by_cases c100 : 0 ≤ x24_1
       ·rw [if_pos c100] at H
        have c100b0 : decide (0 ≤ x24_1) = true := decide_eq_true c100
        clear c100
        by_cases c101 : x24_1 < (x7_1.length : Int)
        ·rw [if_pos c101] at H
         have c101b0 : decide (x24_1 < (x7_1.length : Int)) = true := decide_eq_true c101
         clear c101
         obtain ⟨y115, hy115⟩ : ∃ y_ : List Int, y_ = (x7_1.set (x24_1 : Int).toNat 1) := ⟨_, rfl⟩
         replace H : (media_Run.l0 k1 y115 (y111.length : Int) (wrap64 (x24_1 + 1))) = some (r1, r2, r3, r4) := by first | (rw [hy115]; with_reducible exact H) | (have H2_ := (Option.bind_some _ _).symm.trans H; rw [hy115]; with_reducible exact H2_) | (have H2_ := (Option.bind_some _ _).symm.trans H; with_reducible exact H2_) | with_reducible exact H | (rw [hy115]; exact H) | exact H
         have Ny115 := Aside0.mk hy115
         clear hy115
         have H' := Aside0.mk H
         clear H
         have p102 : 0 ≤ (x24_1 : Int) := of_decide_eq_true (by first | (with_reducible assumption) | assumption)
         have q102 : (x24_1 : Int) < ((x7_1.length : Int) : Int) := of_decide_eq_true (by first | (with_reducible assumption) | assumption)
         obtain ⟨go102, co102, eo102, gb102, gl102, cl102, HG102⟩ := Kd.R_form HO_7.out (by omega)
         (first | cases eo102 | (injection eo102 with ea_ en_ ec_; (first | subst ea_ | (injection ea_ with ea_; subst ea_)); subst ec_; clear en_))
         have GB102 := Aside0.mk gb102
         have GG102 := Aside0.mk HG102
         clear gb102 gl102 HG102
         obtain ⟨hx102_0, hf102_0⟩ := Kd.R_celln 0 HO_7.out (x24_1 : Int) p102 q102
         replace p102 := eq_true p102
         replace q102 := eq_true q102
         have HP103 := Kd.R_putg HO_7.out (x24_1 : Int) 1
         go_wp2_with (first | ((with_reducible refine gate_store (t := 49) (p := 29) rfl ?_); refine store_event (t := 49) (p := 29) (v := ?vo_w104) (w1 := (wr.setCell ⟨go102, (x24_1 : Int).toNat, none⟩ (.int .i64 1))) ?hg ?ho ?hn ?hr ?_; (case ho => rfl); (case hg => rfl); (case hn => rfl); (case hr => first | (go_simp; done) | (go_simp; rfl)); intro w104 hw; have hg : wr.grownBy w104 (some go102) := (by rw [hw]; exact HP103.2); have hp_ : Kd.R (Kd.int .i64) 49 w104 w.heap.size (fun _ => True) (.slice (some ⟨go102, 0, none⟩) x7_1.length co98) y115 := (by rw [hw, Ny115.out]; exact HP103.1); clear HP103; replace BK109 := Aside0.mk (blk_grown (kb BK109) hg (Kd.R_ne HO_7.out BK109.out (by decide))); replace BK110 := Aside0.mk (blk_grown (kb BK110) hg (Kd.R_ne HO_7.out BK110.out (by decide))); replace HO_7 := Aside0.mk (hp_); replace HB := Aside0.mk ((by rw [hw]; exact below_set (HB.out) GB102.out : Below w.heap.size w w104)); clear hg hw hp_))
         (try simp only [← hl7_1])
         go_roundg k1
         case measure => have := HK1.out; omega
         case rel => exact ⟨(y115), (wrap64 (x24_1 + 1)), (by first | rfl | (simp; done) | (simp [*]; done)), H', ⟨by have := HK1.out; omega⟩, ⟨by (try simp only [hl7_1]); (with_reducible repeat (first | apply Kd.R_alloc | apply Kd.R_drewN | apply Kd.R_drew)); exact HO_7.out⟩, ⟨by (try simp only [hl7_1]); (with_reducible repeat (first | refine blk_drewN ?_ _ | refine blk_drew ?_ | refine blk_alloc ?_ _)); exact BK109.out⟩, ⟨by (try simp only [hl7_1]); (with_reducible repeat (first | refine blk_drewN ?_ _ | refine blk_drew ?_ | refine blk_alloc ?_ _)); exact BK110.out⟩, ⟨kB⟩⟩
        ·rw [if_neg c101] at H
         exact absurd H (by simp)
       ·rw [if_neg c100] at H
        exact absurd H (by simp)
      ·rw [if_neg c99] at H
       have c99b0 : decide (x24_1 < (y111.length : Int)) = false := decide_eq_false c99
       (try rw [hl7_1] at c99b0)
       clear c99
       simp only [Option.some.injEq, Prod.mk.injEq] at H
       obtain ⟨rfl, rfl, rfl, rfl⟩ := H
       have hnb105 := NB110_109.out
       have hnc105 := NB109_110.out
       have hcz106_0 : wr.cell? ⟨gb110, 0, none⟩ = some (.slice none 0 0) := (blk_cell BK110.out 0).trans rfl
       have hcz106_1 : wr.cell? ⟨gb110, 1, none⟩ = some (.slice none 0 0) := (blk_cell BK110.out 1).trans rfl
       have hfz106_0 := blk_frozen BK110.out 0
       have hfz106_1 := blk_frozen BK110.out 1
       go_wp2
       refine bodyPost_ret (results_ctt rfl _ _ gb110 30 #[.slice none 0 0, .slice none 0 0] (0, 0) _ rfl (by (with_reducible repeat (first | refine blk_drewN ?_ _ | refine blk_drew ?_ | refine blk_alloc ?_ _)); refine blk_put (cs := #[.slice none 0 0, .slice none 0 0]) ?_ 1 _ rfl; (with_reducible repeat (first | refine blk_drewN ?_ _ | refine blk_drew ?_ | refine blk_alloc ?_ _)); refine blk_put (cs := #[.slice none 0 0, .slice none 0 0]) ?_ 0 _ rfl; (with_reducible repeat (first | refine blk_drewN ?_ _ | refine blk_drew ?_ | refine blk_alloc ?_ _)); exact BK110.out) Try.underlying30 rfl (by kernel_rfl)) rfl ?_
       exact ⟨_, _, _, _, by first | rfl | (simp [errW_none, errW_some] <;> rfl) | (simp [*, errW_none, errW_some] <;> rfl), by first | exact Kd.R_nil _ _ _ _ _ | exact Kd.N_nil _ _ _ _ _ | exact Kd.V_nil _ _ _ _ _ | exact Kd.Q_nil _ _ _ _ _ | exact Kd.S_nil _ _ _ _ _, by first | exact Kd.R_nil _ _ _ _ _ | exact Kd.N_nil _ _ _ _ _ | exact Kd.V_nil _ _ _ _ _ | exact Kd.Q_nil _ _ _ _ _ | exact Kd.S_nil _ _ _ _ _, by first | exact Kd.R_nil _ _ _ _ _ | exact Kd.N_nil _ _ _ _ _ | exact Kd.V_nil _ _ _ _ _ | exact Kd.Q_nil _ _ _ _ _ | exact Kd.S_nil _ _ _ _ _, by (with_reducible repeat (first | apply Kd.R_alloc | apply Kd.R_drewN | apply Kd.R_drew)); exact Kd.R_mono (Kd.R_far (p := ⟨gb110, 1, none⟩) (Kd.R_far (p := ⟨gb110, 0, none⟩) (Kd.R_types HO_7.out BK110.out (by decide)) (fun _ hk => hk.2) (.slice none 0 0)) (fun _ hk => hk.2) (.slice none 0 0)) (fun _ hk => trivial), kB⟩
  ·rw [if_neg c4] at H
   exact absurd H (by simp)
 ·rw [if_neg c3] at H
  exact absurd H (by simp)
end Go.Proofs.Ytpnhkmicepmciaa.Y

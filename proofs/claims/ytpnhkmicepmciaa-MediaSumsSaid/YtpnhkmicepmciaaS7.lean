-- printed for this claim by a program of this session (xprint), out of the translation. Not trusted: Lean checks it.
import Derived.Test.YtpnhkmicepmciaaS0
import Derived.Test.YtpnhkmicepmciaaS1
import Derived.Test.YtpnhkmicepmciaaS6
namespace Go.Proofs.Ytpnhkmicepmciaa.S
open Go.RowKit Go.Proofs.YtpnhkmicepmciaaW.PrintWords Go.Proofs.YtpnhkmicepmciaaW.PrintLast Go.Proofs.YtpnhkmicepmciaaW.PrintMore
attribute [local go_sem] max2_int min2_int max_two min_two max_three min_three max_four min_four   -- for this text's walks alone
set_option linter.unusedVariables false
set_option linter.unusedSimpArgs false

/-! ### cutroomlaw36_awake: function 11 -/
def cutroomlaw36_awake.j0 : Nat → List (S61) → Bool → List (S37) → List (S39) → Option (Bool)
  | 0, _, _, _, _ => none
  | k + 1, x2, x22, x163000, x163001 => if x22 = true then (some false) else ((media_Sum.f k ([] : List Int)).bind fun t163 => (if t163 = 14695981039346656037 then ((media_Status.f ([] : List (S37)) ([] : List (S39)) (⟨#[97]⟩ : ByteArray)).bind fun t164 => (if t164 = 0 then ((media_Status.f x163000 x163001 (⟨#[97]⟩ : ByteArray)).bind fun t165 => (if t165 = 1 then (if 0 < (x2.length : Int) then (if ((rd_T61 x2 0).f1) = 1 then (if 1 < (x2.length : Int) then (if ((rd_T61 x2 1).f1) = 3 then (if 2 < (x2.length : Int) then (some (((rd_T61 x2 2).f1) == 1)) else (none)) else (some false)) else (none)) else (some false)) else (none)) else (some false))) else (some false))) else (some false)))
def cutroomlaw36_awake.f (k : Nat)  : Option (Bool) := (media_Run.f k ([] : List (S37)) ([] : List (S39)) (([(⟨1, (⟨#[]⟩ : ByteArray), (⟨#[102]⟩ : ByteArray), (⟨#[]⟩ : ByteArray), 7⟩ : S45), (⟨3, (⟨#[97]⟩ : ByteArray), (⟨#[102]⟩ : ByteArray), (⟨#[]⟩ : ByteArray), 0⟩ : S45), (⟨2, (⟨#[]⟩ : ByteArray), (⟨#[102]⟩ : ByteArray), (⟨#[]⟩ : ByteArray), 0⟩ : S45), (⟨1, (⟨#[]⟩ : ByteArray), (⟨#[102]⟩ : ByteArray), (⟨#[]⟩ : ByteArray), 7⟩ : S45)] : List (S45)))).bind fun bt150 => (if (bt150.2.2.2.length : Int) = 4 then (cutroomlaw36_awake.j0 k bt150.2.2.1 ((bt150.2.2.1.length : Int) != 3) bt150.1 bt150.2.1) else (cutroomlaw36_awake.j0 k bt150.2.2.1 true bt150.1 bt150.2.1))
theorem cutroomlaw36_awake.mono_l : ∀ k, (∀ y0 y1 y2 y3, LeO (cutroomlaw36_awake.j0 k y0 y1 y2 y3) (cutroomlaw36_awake.j0 (k + 1) y0 y1 y2 y3))
  | 0 => fun _ _ _ _ r h => by simp [cutroomlaw36_awake.j0] at h
  | k + 1 => by
    have ih0 := cutroomlaw36_awake.mono_l k
    · intro y0 y1 y2 y3
      unfold cutroomlaw36_awake.j0
      repeat' first
      | (with_reducible exact ih0 _ _ _ _)
      | (with_reducible exact media_Run.mono _ _ _ _)
      | (with_reducible exact media_Sum.mono _ _)
      | (with_reducible exact LeO.refl _)
      | (with_reducible exact LeO.none _)
      | (with_reducible refine LeO.ite ?_ ?_)
      | (with_reducible refine LeO.bind ?_ (fun _ => ?_))
      | exact ih0 _ _ _ _
      | exact media_Run.mono _ _ _ _
      | exact media_Sum.mono _ _
      | exact LeO.none _
      | refine LeO.ite ?_ ?_
      | refine LeO.bind ?_ (fun _ => ?_)
theorem cutroomlaw36_awake.mono : ∀ k, LeO (cutroomlaw36_awake.f k ) (cutroomlaw36_awake.f (k + 1) ) := by
  intro  k
  have ih0 := cutroomlaw36_awake.mono_l k
  unfold cutroomlaw36_awake.f
  repeat' first
      | (with_reducible exact ih0 _ _ _ _)
      | (with_reducible exact media_Run.mono _ _ _ _)
      | (with_reducible exact media_Sum.mono _ _)
      | (with_reducible exact LeO.refl _)
      | (with_reducible exact LeO.none _)
      | (with_reducible refine LeO.ite ?_ ?_)
      | (with_reducible refine LeO.bind ?_ (fun _ => ?_))
      | exact ih0 _ _ _ _
      | exact media_Run.mono _ _ _ _
      | exact media_Sum.mono _ _
      | exact LeO.none _
      | refine LeO.ite ?_ ?_
      | refine LeO.bind ?_ (fun _ => ?_)
set_option maxHeartbeats 8000000 in
set_option maxRecDepth 100000 in
theorem cutroomlaw36_awake.calls (k : Nat)  (r : Bool) (w : World) (h : cutroomlaw36_awake.f k  = some r) :
    Calls Try.prog 11 #[] w fun e w' => e = .returned (.bool r) ∧ Below w.heap.size w w' := by
  have hu30 := Try.underlying30
  have hu45 := Try.underlying45
  have HB := Aside0.mk (Below.refl w.heap.size w)
  have H : ((media_Run.f k ([] : List (S37)) ([] : List (S39)) (([(⟨1, (⟨#[]⟩ : ByteArray), (⟨#[102]⟩ : ByteArray), (⟨#[]⟩ : ByteArray), 7⟩ : S45), (⟨3, (⟨#[97]⟩ : ByteArray), (⟨#[102]⟩ : ByteArray), (⟨#[]⟩ : ByteArray), 0⟩ : S45), (⟨2, (⟨#[]⟩ : ByteArray), (⟨#[102]⟩ : ByteArray), (⟨#[]⟩ : ByteArray), 0⟩ : S45), (⟨1, (⟨#[]⟩ : ByteArray), (⟨#[102]⟩ : ByteArray), (⟨#[]⟩ : ByteArray), 7⟩ : S45)] : List (S45)))).bind fun bt150 => (if (bt150.2.2.2.length : Int) = 4 then (cutroomlaw36_awake.j0 k bt150.2.2.1 ((bt150.2.2.1.length : Int) != 3) bt150.1 bt150.2.1) else (cutroomlaw36_awake.j0 k bt150.2.2.1 true bt150.1 bt150.2.1))) = some r := h
  clear h
  obtain ⟨y147, hy147⟩ : ∃ y_ : List (S45), y_ = (([(⟨1, (⟨#[]⟩ : ByteArray), (⟨#[102]⟩ : ByteArray), (⟨#[]⟩ : ByteArray), 7⟩ : S45), (⟨3, (⟨#[97]⟩ : ByteArray), (⟨#[102]⟩ : ByteArray), (⟨#[]⟩ : ByteArray), 0⟩ : S45), (⟨2, (⟨#[]⟩ : ByteArray), (⟨#[102]⟩ : ByteArray), (⟨#[]⟩ : ByteArray), 0⟩ : S45), (⟨1, (⟨#[]⟩ : ByteArray), (⟨#[102]⟩ : ByteArray), (⟨#[]⟩ : ByteArray), 7⟩ : S45)] : List (S45))) := ⟨_, rfl⟩
  replace H : ((media_Run.f k ([] : List (S37)) ([] : List (S39)) y147).bind fun bt150 => (if (bt150.2.2.2.length : Int) = 4 then (cutroomlaw36_awake.j0 k bt150.2.2.1 ((bt150.2.2.1.length : Int) != 3) bt150.1 bt150.2.1) else (cutroomlaw36_awake.j0 k bt150.2.2.1 true bt150.1 bt150.2.1))) = some r := by first | (rw [hy147]; with_reducible exact H) | (have H2_ := (Option.bind_some _ _).symm.trans H; rw [hy147]; with_reducible exact H2_) | (have H2_ := (Option.bind_some _ _).symm.trans H; with_reducible exact H2_) | with_reducible exact H | (rw [hy147]; exact H) | exact H
  have Ny147 := Aside0.mk hy147
  clear hy147
  replace H := Option.bind_eq_some_iff.mp H
  obtain ⟨⟨t150, t153, t156, t159⟩, A10, H⟩ := H
  replace H : (if (t159.length : Int) = 4 then (cutroomlaw36_awake.j0 k t156 ((t156.length : Int) != 3) t150 t153) else (cutroomlaw36_awake.j0 k t156 true t150 t153)) = some r := H
  have A1 := Aside0.mk A10
  clear A10
  have HC2 := Aside0.mk H
  clear H
  go_enter Try.func11, Try.ntmps11
  go_upto_region 2 with (first | ((with_reducible refine gate_dst (N := 10) rfl ?_); (try (refine gate_guard (by rfl) ?_; dsimp only)); refine Kd.R_lit k45 _ 45 ?hg (N := 10) ?hd (xs := ([(⟨1, (⟨#[]⟩ : ByteArray), (⟨#[102]⟩ : ByteArray), (⟨#[]⟩ : ByteArray), 7⟩ : S45), (⟨3, (⟨#[97]⟩ : ByteArray), (⟨#[102]⟩ : ByteArray), (⟨#[]⟩ : ByteArray), 0⟩ : S45), (⟨2, (⟨#[]⟩ : ByteArray), (⟨#[102]⟩ : ByteArray), (⟨#[]⟩ : ByteArray), 0⟩ : S45), (⟨1, (⟨#[]⟩ : ByteArray), (⟨#[102]⟩ : ByteArray), (⟨#[]⟩ : ByteArray), 7⟩ : S45)] : List (S45))) (inner := [.int .i64 1, .string (⟨#[]⟩ : ByteArray), .string (⟨#[102]⟩ : ByteArray), .string (⟨#[]⟩ : ByteArray), .int .u64 7, .int .i64 3, .string (⟨#[97]⟩ : ByteArray), .string (⟨#[102]⟩ : ByteArray), .string (⟨#[]⟩ : ByteArray), .int .u64 0, .int .i64 2, .string (⟨#[]⟩ : ByteArray), .string (⟨#[102]⟩ : ByteArray), .string (⟨#[]⟩ : ByteArray), .int .u64 0, .int .i64 1, .string (⟨#[]⟩ : ByteArray), .string (⟨#[102]⟩ : ByteArray), .string (⟨#[]⟩ : ByteArray), .int .u64 7]) (ok := fun _ => True) (okp := fun _ => True) ?hr ?hp (fun _ hk => hk) trivial (Below.refl _ _) (Nat.le_refl _) (by simp) ?_; (case hd => rfl); (case hg => rfl); (case hr => first | (go_simp; done) | (go_simp; rfl)); (case hp => exact (Reps.c5 (show Kd.M k45 _ _ _ (⟨1, (⟨#[]⟩ : ByteArray), (⟨#[102]⟩ : ByteArray), (⟨#[]⟩ : ByteArray), 7⟩ : S45) [.int .i64 1, .string (⟨#[]⟩ : ByteArray), .string (⟨#[102]⟩ : ByteArray), .string (⟨#[]⟩ : ByteArray), .int .u64 7] from (k45_mkM _ _ _ (⟨1, (⟨#[]⟩ : ByteArray), (⟨#[102]⟩ : ByteArray), (⟨#[]⟩ : ByteArray), 7⟩ : S45) )) (Reps.c5 (show Kd.M k45 _ _ _ (⟨3, (⟨#[97]⟩ : ByteArray), (⟨#[102]⟩ : ByteArray), (⟨#[]⟩ : ByteArray), 0⟩ : S45) [.int .i64 3, .string (⟨#[97]⟩ : ByteArray), .string (⟨#[102]⟩ : ByteArray), .string (⟨#[]⟩ : ByteArray), .int .u64 0] from (k45_mkM _ _ _ (⟨3, (⟨#[97]⟩ : ByteArray), (⟨#[102]⟩ : ByteArray), (⟨#[]⟩ : ByteArray), 0⟩ : S45) )) (Reps.c5 (show Kd.M k45 _ _ _ (⟨2, (⟨#[]⟩ : ByteArray), (⟨#[102]⟩ : ByteArray), (⟨#[]⟩ : ByteArray), 0⟩ : S45) [.int .i64 2, .string (⟨#[]⟩ : ByteArray), .string (⟨#[102]⟩ : ByteArray), .string (⟨#[]⟩ : ByteArray), .int .u64 0] from (k45_mkM _ _ _ (⟨2, (⟨#[]⟩ : ByteArray), (⟨#[102]⟩ : ByteArray), (⟨#[]⟩ : ByteArray), 0⟩ : S45) )) (Reps.c5 (show Kd.M k45 _ _ _ (⟨1, (⟨#[]⟩ : ByteArray), (⟨#[102]⟩ : ByteArray), (⟨#[]⟩ : ByteArray), 7⟩ : S45) [.int .i64 1, .string (⟨#[]⟩ : ByteArray), .string (⟨#[102]⟩ : ByteArray), .string (⟨#[]⟩ : ByteArray), .int .u64 7] from (k45_mkM _ _ _ (⟨1, (⟨#[]⟩ : ByteArray), (⟨#[102]⟩ : ByteArray), (⟨#[]⟩ : ByteArray), 7⟩ : S45) )) (Reps.none _ _)))))); intro v148 w3 ho4 hb hg_ hnew_; clear hg_ hnew_; (first | rw [← Ny147.out] at ho4 | (simp only [Int.reduceToNat] at ho4; rw [← Ny147.out] at ho4)); have n0_ := Aside0.mk (Kd.R_lower ho4 (below_size (by repeat (first | (with_reducible first | exact HB.out | apply below_alloc | apply pw_below_drewN | apply below_drew1) | exact HB.out)))); have n1_ := Aside0.mk (below_step (by repeat (first | (with_reducible first | exact HB.out | apply below_alloc | apply pw_below_drewN | apply below_drew1) | exact HB.out)) hb); clear HB; have HO149 := n0_; have HB := n1_; clear n0_ n1_; clear hb ho4; obtain ⟨Ao5, co5, eo5⟩ := Kd.R_slice HO149.out; subst eo5) | ((with_reducible refine gate_callee (f := 22) rfl ?_); refine goesL_ (some 11) rfl rfl Try.func22 (by kernel_rfl) rfl #[.agg #[.slice none 0 0, .slice none 0 0], .slice Ao5 y147.length co5] rfl (by (try simp only [List.map_toArray, List.map_cons, List.map_nil]); first | done | rfl | (simp only [List.length_drop, List.length_take]; rfl)) ?_; (refine (media_Run.calls k _ _ ([] : List (S37)) _ _ ([] : List (S39)) _ _ y147 t150 t153 t156 t159 _ ?side1 ?side2 ?side3 ?side4 ?side5 ?side6 A1.out).mono ?_); (case side1 => exact Kd.C_nil _ _); (case side2 => exact Nat.le_refl _); (case side3 => exact Kd.C_nil _ _); (case side4 => exact Nat.le_refl _); (case side5 => repeat (first | exact (Kd.R_reads' HO149.out).2.2 | (with_reducible refine Kd.C_alloc ?_ _) | (with_reducible refine Kd.C_drewN ?_ _) | (with_reducible refine Kd.C_drew ?_))); (case side6 => exact (Kd.R_reads' HO149.out).2.1); rintro e w6 ⟨v151, v154, v157, v160, rfl, ho0, ho1, ho2, ho3, hb⟩; refine ⟨_, rfl, ?_⟩; have n0_ := Aside0.mk (Kd.R_below (by (with_reducible repeat (first | apply Kd.R_alloc | apply Kd.R_drewN | apply Kd.R_drew)); exact HO149.out) hb); have n1_ := Aside0.mk (Kd.R_lower ho0 (below_size (by repeat (first | (with_reducible first | exact HB.out | apply below_alloc | apply pw_below_drewN | apply below_drew1) | exact HB.out)))); have n2_ := Aside0.mk (Kd.R_lower ho1 (below_size (by repeat (first | (with_reducible first | exact HB.out | apply below_alloc | apply pw_below_drewN | apply below_drew1) | exact HB.out)))); have n3_ := Aside0.mk (Kd.R_lower ho2 (below_size (by repeat (first | (with_reducible first | exact HB.out | apply below_alloc | apply pw_below_drewN | apply below_drew1) | exact HB.out)))); have n4_ := Aside0.mk (Kd.R_lower ho3 (below_size (by repeat (first | (with_reducible first | exact HB.out | apply below_alloc | apply pw_below_drewN | apply below_drew1) | exact HB.out)))); have n5_ := Aside0.mk (below_step (by repeat (first | (with_reducible first | exact HB.out | apply below_alloc | apply pw_below_drewN | apply below_drew1) | exact HB.out)) hb); clear HO149; clear HB; have HO149 := n0_; have HO152 := n1_; have HO155 := n2_; have HO158 := n3_; have HO161 := n4_; have HB := n5_; clear n0_ n1_ n2_ n3_ n4_ n5_; (try clear hb); (try clear hb2); (try clear hk); (try clear hi); (try clear ho0); (try clear ho1); (try clear ho2); (try clear ho3)) | ((with_reducible refine gate_dst (N := 1) rfl ?_); (try (refine gate_guard (by rfl) ?_; dsimp only)); refine box_event ?hg (N := 1) ?hd (cs := #[.slice none 0 0, .slice none 0 0]) (t := 30) ?hr ?_; (case hd => rfl); (case hg => rfl); (case hr => first | (go_simp; done) | (go_simp; rfl)); intro gb162 hg w7 hbox hb; have n0_ := Aside0.mk (Kd.R_below (by (with_reducible repeat (first | apply Kd.R_alloc | apply Kd.R_drewN | apply Kd.R_drew)); exact HO149.out) hb); have n1_ := Aside0.mk (Kd.R_below (by (with_reducible repeat (first | apply Kd.R_alloc | apply Kd.R_drewN | apply Kd.R_drew)); exact HO152.out) hb); have n2_ := Aside0.mk (Kd.R_below (by (with_reducible repeat (first | apply Kd.R_alloc | apply Kd.R_drewN | apply Kd.R_drew)); exact HO155.out) hb); have n3_ := Aside0.mk (Kd.R_below (by (with_reducible repeat (first | apply Kd.R_alloc | apply Kd.R_drewN | apply Kd.R_drew)); exact HO158.out) hb); have n4_ := Aside0.mk (Kd.R_below (by (with_reducible repeat (first | apply Kd.R_alloc | apply Kd.R_drewN | apply Kd.R_drew)); exact HO161.out) hb); have n5_ := Aside0.mk (below_step (by repeat (first | (with_reducible first | exact HB.out | apply below_alloc | apply pw_below_drewN | apply below_drew1) | exact HB.out)) hb); have n6_ := Aside0.mk (hbox); have n7_ := Aside0.mk ((by rw [hg]; exact (below_size (by repeat (first | (with_reducible first | exact HB.out | apply below_alloc | apply pw_below_drewN | apply below_drew1) | exact HB.out))) : w.heap.size ≤ gb162)); have n8_ := Aside0.mk ((by rw [hg]; exact (below_size (by repeat (first | (with_reducible first | exact HB.out | apply below_alloc | apply pw_below_drewN | apply below_drew1) | exact HB.out))) : w.heap.size ≤ gb162)); clear HO149; clear HO152; clear HO155; clear HO158; clear HO161; clear HB; have HO149 := n0_; have HO152 := n1_; have HO155 := n2_; have HO158 := n3_; have HO161 := n4_; have HB := n5_; have BK162 := n6_; have GW162 := n7_; have GE162 := n8_; clear n0_ n1_ n2_ n3_ n4_ n5_ n6_ n7_ n8_; clear hb hbox hg; obtain ⟨Ao8, co8, eo8⟩ := Kd.R_slice HO152.out; subst eo8; have hcz9_0 : w7.cell? ⟨gb162, 0, none⟩ = some (.slice none 0 0) := (blk_cell BK162.out 0).trans rfl; have hcz9_1 : w7.cell? ⟨gb162, 1, none⟩ = some (.slice none 0 0) := (blk_cell BK162.out 1).trans rfl; have hfz9_0 := blk_frozen BK162.out 0; have hfz9_1 := blk_frozen BK162.out 1; obtain ⟨Ao10, co10, eo10⟩ := Kd.R_slice HO155.out; subst eo10))
  (try simp only [Act.put, List.setIfInBounds_toArray, List.set_cons_zero, List.set_cons_succ])
  go_cut [22] (fun v22 wc => ∃ (kq : Nat) (x22_1 : Bool), v22 = .bool x22_1 ∧ Aside0 (cutroomlaw36_awake.j0 kq t156 x22_1 t150 t153 = some r) ∧ Aside0 (kq ≤ k) ∧ Aside0 (Kd.R k61 61 wc w.heap.size (fun _ => True) v157 t156) ∧ Aside0 (Kd.R k37 37 wc w.heap.size (fun _ => True) (.slice Ao8 t150.length co8) t150) ∧ Aside0 (Kd.R k39 39 wc w.heap.size (fun _ => True) (.slice Ao10 t153.length co10) t153) ∧ Aside0 (wc.heap[gb162]? = some (.cells #[(.slice Ao8 t150.length co8), (.slice Ao10 t153.length co10)] 30 (0, 0))) ∧ Aside0 (Below w.heap.size w wc))
  case first =>
    have H := HC2.out
    clear HC2
    by_cases c11 : (t159.length : Int) = 4
    · rw [if_pos c11] at H
      have c11b0 : ((t159.length : Int) == 4) = true := beq_iff_eq.mpr c11
      have c11b1 : ((t159.length : Int) != 4) = false := bne_eq_false_iff_eq.mpr c11
      clear c11
      (first | rw [c11b0] | (simp only [i64_w, i32_w]; rw [c11b0]) | skip)
      have H' := Aside0.mk H
      clear H
      obtain ⟨Ao12, co12, eo12⟩ := Kd.R_slice HO161.out
      subst eo12
      obtain ⟨Ao13, co13, eo13⟩ := Kd.R_slice HO158.out
      subst eo13
      go_wp2
      go_meet
      case rel => exact ⟨_, (((t156.length : Int) != 3)), (by first | rfl | (simp; done) | (simp [*]; done)), H', ⟨by first | omega | exact Nat.le_refl _⟩, ⟨by (with_reducible repeat (first | apply Kd.R_alloc | apply Kd.R_drewN | apply Kd.R_drew)); exact Kd.R_mono (Kd.R_far (p := ⟨gb162, 1, none⟩) (Kd.R_far (p := ⟨gb162, 0, none⟩) (Kd.R_types HO158.out BK162.out (by decide)) (fun _ hk => hk.2) (.slice Ao8 t150.length co8)) (fun _ hk => hk.2) (.slice Ao10 t153.length co10)) (fun _ hk => trivial)⟩, ⟨by (with_reducible repeat (first | apply Kd.R_alloc | apply Kd.R_drewN | apply Kd.R_drew)); exact Kd.R_mono (Kd.R_far (p := ⟨gb162, 1, none⟩) (Kd.R_far (p := ⟨gb162, 0, none⟩) (Kd.R_types HO152.out BK162.out (by decide)) (fun _ hk => hk.2) (.slice Ao8 t150.length co8)) (fun _ hk => hk.2) (.slice Ao10 t153.length co10)) (fun _ hk => trivial)⟩, ⟨by (with_reducible repeat (first | apply Kd.R_alloc | apply Kd.R_drewN | apply Kd.R_drew)); exact Kd.R_mono (Kd.R_far (p := ⟨gb162, 1, none⟩) (Kd.R_far (p := ⟨gb162, 0, none⟩) (Kd.R_types HO155.out BK162.out (by decide)) (fun _ hk => hk.2) (.slice Ao8 t150.length co8)) (fun _ hk => hk.2) (.slice Ao10 t153.length co10)) (fun _ hk => trivial)⟩, ⟨by (with_reducible repeat (first | refine blk_drewN ?_ _ | refine blk_drew ?_ | refine blk_alloc ?_ _)); refine blk_put (cs := #[.slice Ao8 t150.length co8, .slice none 0 0]) ?_ 1 _ rfl; (with_reducible repeat (first | refine blk_drewN ?_ _ | refine blk_drew ?_ | refine blk_alloc ?_ _)); refine blk_put (cs := #[.slice none 0 0, .slice none 0 0]) ?_ 0 _ rfl; (with_reducible repeat (first | refine blk_drewN ?_ _ | refine blk_drew ?_ | refine blk_alloc ?_ _)); exact BK162.out⟩, ⟨by repeat (first | (with_reducible first | exact HB.out | apply below_alloc | apply pw_below_drewN | apply below_drew1 | refine below_set ?_ GE162.out) | exact HB.out)⟩⟩
    · rw [if_neg c11] at H
      have c11b0 : ((t159.length : Int) == 4) = false := beq_eq_false_iff_ne.mpr c11
      have c11b1 : ((t159.length : Int) != 4) = true := bne_iff_ne.mpr c11
      (first | rw [c11b0] | (simp only [i64_w, i32_w]; rw [c11b0]) | skip)
      have H' := Aside0.mk H
      clear H
      obtain ⟨Ao14, co14, eo14⟩ := Kd.R_slice HO161.out
      subst eo14
      go_wp2
      go_meet
      case rel => exact ⟨_, (true), (by first | rfl | (simp; done) | (simp [*]; done)), H', ⟨by first | omega | exact Nat.le_refl _⟩, ⟨by (with_reducible repeat (first | apply Kd.R_alloc | apply Kd.R_drewN | apply Kd.R_drew)); exact Kd.R_mono (Kd.R_far (p := ⟨gb162, 1, none⟩) (Kd.R_far (p := ⟨gb162, 0, none⟩) (Kd.R_types HO158.out BK162.out (by decide)) (fun _ hk => hk.2) (.slice Ao8 t150.length co8)) (fun _ hk => hk.2) (.slice Ao10 t153.length co10)) (fun _ hk => trivial)⟩, ⟨by (with_reducible repeat (first | apply Kd.R_alloc | apply Kd.R_drewN | apply Kd.R_drew)); exact Kd.R_mono (Kd.R_far (p := ⟨gb162, 1, none⟩) (Kd.R_far (p := ⟨gb162, 0, none⟩) (Kd.R_types HO152.out BK162.out (by decide)) (fun _ hk => hk.2) (.slice Ao8 t150.length co8)) (fun _ hk => hk.2) (.slice Ao10 t153.length co10)) (fun _ hk => trivial)⟩, ⟨by (with_reducible repeat (first | apply Kd.R_alloc | apply Kd.R_drewN | apply Kd.R_drew)); exact Kd.R_mono (Kd.R_far (p := ⟨gb162, 1, none⟩) (Kd.R_far (p := ⟨gb162, 0, none⟩) (Kd.R_types HO155.out BK162.out (by decide)) (fun _ hk => hk.2) (.slice Ao8 t150.length co8)) (fun _ hk => hk.2) (.slice Ao10 t153.length co10)) (fun _ hk => trivial)⟩, ⟨by (with_reducible repeat (first | refine blk_drewN ?_ _ | refine blk_drew ?_ | refine blk_alloc ?_ _)); refine blk_put (cs := #[.slice Ao8 t150.length co8, .slice none 0 0]) ?_ 1 _ rfl; (with_reducible repeat (first | refine blk_drewN ?_ _ | refine blk_drew ?_ | refine blk_alloc ?_ _)); refine blk_put (cs := #[.slice none 0 0, .slice none 0 0]) ?_ 0 _ rfl; (with_reducible repeat (first | refine blk_drewN ?_ _ | refine blk_drew ?_ | refine blk_alloc ?_ _)); exact BK162.out⟩, ⟨by repeat (first | (with_reducible first | exact HB.out | apply below_alloc | apply pw_below_drewN | apply below_drew1 | refine below_set ?_ GE162.out) | exact HB.out)⟩⟩
  case rest =>
    clear HC2
    try clear c1
    try clear c2
    try clear p2
    try clear c5
    try clear c11
    try clear c11b0
    try clear c11b1
    try clear hcz9_0
    try clear hcz9_1
    try clear hfz9_0
    try clear hfz9_1
    obtain ⟨kq, x22_1, rfl, HA, HJ1, HO_2, HO_163000, HO_163001, BK162, HB⟩ := hcut
    cases kq with
    | zero => exact absurd HA.out (by simp [cutroomlaw36_awake.j0])
    | succ kj1 =>
      have H := HA.out
      clear HA
      simp only [cutroomlaw36_awake.j0] at H
      by_cases c15 : x22_1 = true
      · subst c15
        have H1 : (some false) = some r := by rw [if_pos rfl] at H; exact H
        clear H
        have H := H1
        clear H1
        obtain rfl := Option.some.inj H
        go_wp2
        go_ret
        exact ⟨by first | rfl | (simp [errW_none, errW_some] <;> rfl) | (simp [*, errW_none, errW_some] <;> rfl), by repeat (first | (with_reducible first | exact HB.out | apply below_alloc | apply pw_below_drewN | apply below_drew1 | refine below_set ?_ GE162.out) | exact HB.out)⟩
      · replace c15 := Bool.eq_false_iff.mpr c15
        subst c15
        have H1 : ((media_Sum.f kj1 ([] : List Int)).bind fun t163 => (if t163 = 14695981039346656037 then ((media_Status.f ([] : List (S37)) ([] : List (S39)) (⟨#[97]⟩ : ByteArray)).bind fun t164 => (if t164 = 0 then ((media_Status.f t150 t153 (⟨#[97]⟩ : ByteArray)).bind fun t165 => (if t165 = 1 then (if 0 < (t156.length : Int) then (if ((rd_T61 t156 0).f1) = 1 then (if 1 < (t156.length : Int) then (if ((rd_T61 t156 1).f1) = 3 then (if 2 < (t156.length : Int) then (some (((rd_T61 t156 2).f1) == 1)) else (none)) else (some false)) else (none)) else (some false)) else (none)) else (some false))) else (some false))) else (some false))) = some r := by rw [if_neg (show ¬ (false = true) by decide)] at H; exact H
        clear H
        have H := H1
        clear H1
        replace H := Option.bind_eq_some_iff.mp H
        obtain ⟨t163, A160, H⟩ := H
        replace H : (if t163 = 14695981039346656037 then ((media_Status.f ([] : List (S37)) ([] : List (S39)) (⟨#[97]⟩ : ByteArray)).bind fun t164 => (if t164 = 0 then ((media_Status.f t150 t153 (⟨#[97]⟩ : ByteArray)).bind fun t165 => (if t165 = 1 then (if 0 < (t156.length : Int) then (if ((rd_T61 t156 0).f1) = 1 then (if 1 < (t156.length : Int) then (if ((rd_T61 t156 1).f1) = 3 then (if 2 < (t156.length : Int) then (some (((rd_T61 t156 2).f1) == 1)) else (none)) else (some false)) else (none)) else (some false)) else (none)) else (some false))) else (some false))) else (some false)) = some r := H
        have A16 := Aside0.mk A160
        clear A160
        by_cases c17 : t163 = 14695981039346656037
        · rw [if_pos c17] at H
          have c17b0 : (t163 == 14695981039346656037) = true := beq_iff_eq.mpr c17
          have c17b1 : (t163 != 14695981039346656037) = false := bne_eq_false_iff_eq.mpr c17
          clear c17
          replace H := Option.bind_eq_some_iff.mp H
          obtain ⟨t164, A180, H⟩ := H
          replace H : (if t164 = 0 then ((media_Status.f t150 t153 (⟨#[97]⟩ : ByteArray)).bind fun t165 => (if t165 = 1 then (if 0 < (t156.length : Int) then (if ((rd_T61 t156 0).f1) = 1 then (if 1 < (t156.length : Int) then (if ((rd_T61 t156 1).f1) = 3 then (if 2 < (t156.length : Int) then (some (((rd_T61 t156 2).f1) == 1)) else (none)) else (some false)) else (none)) else (some false)) else (none)) else (some false))) else (some false)) = some r := H
          have A18 := Aside0.mk A180
          clear A180
          by_cases c19 : t164 = 0
          · rw [if_pos c19] at H
            have c19b0 : (t164 == 0) = true := beq_iff_eq.mpr c19
            have c19b1 : (t164 != 0) = false := bne_eq_false_iff_eq.mpr c19
            clear c19
            replace H := Option.bind_eq_some_iff.mp H
            obtain ⟨t165, A200, H⟩ := H
            replace H : (if t165 = 1 then (if 0 < (t156.length : Int) then (if ((rd_T61 t156 0).f1) = 1 then (if 1 < (t156.length : Int) then (if ((rd_T61 t156 1).f1) = 3 then (if 2 < (t156.length : Int) then (some (((rd_T61 t156 2).f1) == 1)) else (none)) else (some false)) else (none)) else (some false)) else (none)) else (some false)) = some r := H
            have A20 := Aside0.mk A200
            clear A200
            by_cases c21 : t165 = 1
            · rw [if_pos c21] at H
              have c21b0 : (t165 == 1) = true := beq_iff_eq.mpr c21
              have c21b1 : (t165 != 1) = false := bne_eq_false_iff_eq.mpr c21
              clear c21
              by_cases c22 : 0 < (t156.length : Int)
              · rw [if_pos c22] at H
                have c22b0 : decide (0 < (t156.length : Int)) = true := decide_eq_true c22
                have c22b1 : decide (0 < t156.length) = true := decide_eq_true (by omega)
                clear c22
                by_cases c23 : ((rd_T61 t156 0).f1) = 1
                · rw [if_pos c23] at H
                  have c23b0 : (((rd_T61 t156 0).f1) == 1) = true := beq_iff_eq.mpr c23
                  have c23b1 : (((rd_T61 t156 0).f1) != 1) = false := bne_eq_false_iff_eq.mpr c23
                  clear c23
                  by_cases c24 : 1 < (t156.length : Int)
                  · rw [if_pos c24] at H
                    have c24b0 : decide (1 < (t156.length : Int)) = true := decide_eq_true c24
                    have c24b1 : decide (1 < t156.length) = true := decide_eq_true (by omega)
                    clear c24
                    by_cases c25 : ((rd_T61 t156 1).f1) = 3
                    · rw [if_pos c25] at H
                      have c25b0 : (((rd_T61 t156 1).f1) == 3) = true := beq_iff_eq.mpr c25
                      have c25b1 : (((rd_T61 t156 1).f1) != 3) = false := bne_eq_false_iff_eq.mpr c25
                      clear c25
                      by_cases c26 : 2 < (t156.length : Int)
                      · rw [if_pos c26] at H
                        have c26b0 : decide (2 < (t156.length : Int)) = true := decide_eq_true c26
                        have c26b1 : decide (2 < t156.length) = true := decide_eq_true (by omega)
                        clear c26
                        obtain rfl := Option.some.inj H
                        go_wp2_with (first | ((with_reducible refine gate_callee (f := 9) rfl ?_); refine goesL_ (some 23) rfl rfl Try.func9 (by kernel_rfl) rfl #[.slice none 0 0] rfl (by (try simp only [List.map_toArray, List.map_cons, List.map_nil]); first | done | rfl | (simp only [List.length_drop, List.length_take]; rfl)) ?_; (refine (media_Sum.calls kj1 _ _ ([] : List Int) t163 _ ?side1 ?side2 A16.out).mono ?_); (case side1 => exact Kd.C_nil _ _); (case side2 => exact Nat.le_refl _); rintro e w' ⟨rfl, ⟨nd, rfl⟩⟩; refine ⟨_, rfl, ?_⟩) | (go_at_call 15; (with_reducible refine (media_Status.calls _ _ t150 _ _ t153 (⟨#[97]⟩ : ByteArray) t165 _ ?side1 ?side2 ?side3 ?side4 A20.out).mono ?_); (case side1 => repeat (first | exact (Kd.R_reads' HO_163000.out).2.2 | (with_reducible refine Kd.C_alloc ?_ _) | (with_reducible refine Kd.C_drewN ?_ _) | (with_reducible refine Kd.C_drew ?_))); (case side2 => exact (Kd.R_reads' HO_163000.out).2.1); (case side3 => repeat (first | exact (Kd.R_reads' HO_163001.out).2.2 | (with_reducible refine Kd.C_alloc ?_ _) | (with_reducible refine Kd.C_drewN ?_ _) | (with_reducible refine Kd.C_drew ?_))); (case side4 => exact (Kd.R_reads' HO_163001.out).2.1); rintro e w29 ⟨rfl, hb⟩; have n0_ := Aside0.mk (Kd.R_below (by (with_reducible repeat (first | apply Kd.R_alloc | apply Kd.R_drewN | apply Kd.R_drew)); exact HO_2.out) hb); have n1_ := Aside0.mk (Kd.R_below (by (with_reducible repeat (first | apply Kd.R_alloc | apply Kd.R_drewN | apply Kd.R_drew)); exact HO_163000.out) hb); have n2_ := Aside0.mk (Kd.R_below (by (with_reducible repeat (first | apply Kd.R_alloc | apply Kd.R_drewN | apply Kd.R_drew)); exact HO_163001.out) hb); have n3_ := Aside0.mk (blk_below (g := gb162) (o := .cells #[.slice Ao8 t150.length co8, .slice Ao10 t153.length co10] 30 (0, 0)) (by (with_reducible repeat (first | refine blk_drewN ?_ _ | refine blk_drew ?_ | refine blk_alloc ?_ _)); exact BK162.out) hb); have n4_ := Aside0.mk (below_step (by repeat (first | (with_reducible first | exact HB.out | apply below_alloc | apply pw_below_drewN | apply below_drew1 | refine below_set ?_ GE162.out) | exact HB.out)) hb); clear HO_2; clear HO_163000; clear HO_163001; clear BK162; clear HB; have HO_2 := n0_; have HO_163000 := n1_; have HO_163001 := n2_; have BK162 := n3_; have HB := n4_; clear n0_ n1_ n2_ n3_ n4_; (try clear hb); (try clear hb2); (try clear hk); (try clear hi); obtain ⟨Ao30, co30, eo30⟩ := Kd.R_slice HO_2.out; subst eo30; have p166 : 0 ≤ (0 : Int) := (by omega); have q166 : 0 < (t156.length : Int) := of_decide_eq_true (by first | (with_reducible assumption) | assumption); obtain ⟨ad166, e166, hx166_0, hx166_1⟩ := at_T61 (Kd.R_reads' HO_2.out).2.2 0 p166 q166; cases e166; have qi166 : (0 < t156.length) = True := eq_true (by omega); (try rw [show ((0 : Int)).toNat = 0 from rfl] at hx166_0); (try rw [show 0 * 2 = 0 from rfl] at hx166_0); (try rw [Addr.add_zero'] at hx166_0); (try rw [show ((0 : Int)).toNat = 0 from rfl] at hx166_1); (try rw [show 0 * 2 = 0 from rfl] at hx166_1); (try rw [Addr.add_zero'] at hx166_1); replace p166 := eq_true p166; replace q166 := eq_true q166; have p167 : 0 ≤ (1 : Int) := (by omega); have q167 : 1 < (t156.length : Int) := of_decide_eq_true (by first | (with_reducible assumption) | assumption); obtain ⟨ad167, e167, hx167_0, hx167_1⟩ := at_T61 (Kd.R_reads' HO_2.out).2.2 1 p167 q167; obtain rfl : ad166 = ad167 := (by injection e167); (try simp only [show (1 : Int).toNat = 1 from rfl, Nat.reduceMul, Nat.reduceEqDiff, Go.Addr.add, ↓reduceIte] at hx167_0); (try simp only [show (1 : Int).toNat = 1 from rfl, Nat.reduceMul, Nat.reduceEqDiff, Go.Addr.add, ↓reduceIte] at hx167_1); have qi167 : (1 < t156.length) = True := eq_true (by omega); (try rw [show ((1 : Int)).toNat = 1 from rfl] at hx167_0); (try rw [show 1 * 2 = 2 from rfl] at hx167_0); (try rw [show ((1 : Int)).toNat = 1 from rfl] at hx167_1); (try rw [show 1 * 2 = 2 from rfl] at hx167_1); replace p167 := eq_true p167; replace q167 := eq_true q167; have p168 : 0 ≤ (2 : Int) := (by omega); have q168 : 2 < (t156.length : Int) := of_decide_eq_true (by first | (with_reducible assumption) | assumption); obtain ⟨ad168, e168, hx168_0, hx168_1⟩ := at_T61 (Kd.R_reads' HO_2.out).2.2 2 p168 q168; obtain rfl : ad166 = ad168 := (by injection e168); (try simp only [show (2 : Int).toNat = 2 from rfl, Nat.reduceMul, Nat.reduceEqDiff, Go.Addr.add, ↓reduceIte] at hx168_0); (try simp only [show (2 : Int).toNat = 2 from rfl, Nat.reduceMul, Nat.reduceEqDiff, Go.Addr.add, ↓reduceIte] at hx168_1); have qi168 : (2 < t156.length) = True := eq_true (by omega); (try rw [show ((2 : Int)).toNat = 2 from rfl] at hx168_0); (try rw [show 2 * 2 = 4 from rfl] at hx168_0); (try rw [show ((2 : Int)).toNat = 2 from rfl] at hx168_1); (try rw [show 2 * 2 = 4 from rfl] at hx168_1); replace p168 := eq_true p168; replace q168 := eq_true q168) | (go_at_call 15; (refine (media_Status.calls _ _ ([] : List (S37)) _ _ ([] : List (S39)) (⟨#[97]⟩ : ByteArray) t164 _ ?side1 ?side2 ?side3 ?side4 A18.out).mono ?_); (case side1 => exact Kd.C_nil _ _); (case side2 => exact Nat.le_refl _); (case side3 => exact Kd.C_nil _ _); (case side4 => exact Nat.le_refl _); rintro e w27 ⟨rfl, hb⟩; have n0_ := Aside0.mk (Kd.R_below (by (with_reducible repeat (first | apply Kd.R_alloc | apply Kd.R_drewN | apply Kd.R_drew)); exact HO_2.out) hb); have n1_ := Aside0.mk (Kd.R_below (by (with_reducible repeat (first | apply Kd.R_alloc | apply Kd.R_drewN | apply Kd.R_drew)); exact HO_163000.out) hb); have n2_ := Aside0.mk (Kd.R_below (by (with_reducible repeat (first | apply Kd.R_alloc | apply Kd.R_drewN | apply Kd.R_drew)); exact HO_163001.out) hb); have n3_ := Aside0.mk (blk_below (g := gb162) (o := .cells #[.slice Ao8 t150.length co8, .slice Ao10 t153.length co10] 30 (0, 0)) (by (with_reducible repeat (first | refine blk_drewN ?_ _ | refine blk_drew ?_ | refine blk_alloc ?_ _)); exact BK162.out) hb); have n4_ := Aside0.mk (below_step (by repeat (first | (with_reducible first | exact HB.out | apply below_alloc | apply pw_below_drewN | apply below_drew1 | refine below_set ?_ GE162.out) | exact HB.out)) hb); clear HO_2; clear HO_163000; clear HO_163001; clear BK162; clear HB; have HO_2 := n0_; have HO_163000 := n1_; have HO_163001 := n2_; have BK162 := n3_; have HB := n4_; clear n0_ n1_ n2_ n3_ n4_; (try clear hb); (try clear hb2); (try clear hk); (try clear hi); have hcz28_0 : w27.cell? ⟨gb162, 0, none⟩ = some (.slice Ao8 t150.length co8) := (blk_cell BK162.out 0).trans rfl; have hcz28_1 : w27.cell? ⟨gb162, 1, none⟩ = some (.slice Ao10 t153.length co10) := (blk_cell BK162.out 1).trans rfl; have hfz28_0 := blk_frozen BK162.out 0; have hfz28_1 := blk_frozen BK162.out 1))
                        go_ret
                        exact ⟨by first | rfl | (simp [errW_none, errW_some] <;> rfl) | (simp [*, errW_none, errW_some] <;> rfl), by repeat (first | (with_reducible first | exact HB.out | apply below_alloc | apply pw_below_drewN | apply below_drew1 | refine below_set ?_ GE162.out) | exact HB.out)⟩
                      · rw [if_neg c26] at H
                        exact absurd H (by simp)
                    · rw [if_neg c25] at H
                      have c25b0 : (((rd_T61 t156 1).f1) == 3) = false := beq_eq_false_iff_ne.mpr c25
                      have c25b1 : (((rd_T61 t156 1).f1) != 3) = true := bne_iff_ne.mpr c25
                      obtain rfl := Option.some.inj H
                      go_wp2_with (first | ((with_reducible refine gate_callee (f := 9) rfl ?_); refine goesL_ (some 23) rfl rfl Try.func9 (by kernel_rfl) rfl #[.slice none 0 0] rfl (by (try simp only [List.map_toArray, List.map_cons, List.map_nil]); first | done | rfl | (simp only [List.length_drop, List.length_take]; rfl)) ?_; (refine (media_Sum.calls kj1 _ _ ([] : List Int) t163 _ ?side1 ?side2 A16.out).mono ?_); (case side1 => exact Kd.C_nil _ _); (case side2 => exact Nat.le_refl _); rintro e w' ⟨rfl, ⟨nd, rfl⟩⟩; refine ⟨_, rfl, ?_⟩) | (go_at_call 15; (with_reducible refine (media_Status.calls _ _ t150 _ _ t153 (⟨#[97]⟩ : ByteArray) t165 _ ?side1 ?side2 ?side3 ?side4 A20.out).mono ?_); (case side1 => repeat (first | exact (Kd.R_reads' HO_163000.out).2.2 | (with_reducible refine Kd.C_alloc ?_ _) | (with_reducible refine Kd.C_drewN ?_ _) | (with_reducible refine Kd.C_drew ?_))); (case side2 => exact (Kd.R_reads' HO_163000.out).2.1); (case side3 => repeat (first | exact (Kd.R_reads' HO_163001.out).2.2 | (with_reducible refine Kd.C_alloc ?_ _) | (with_reducible refine Kd.C_drewN ?_ _) | (with_reducible refine Kd.C_drew ?_))); (case side4 => exact (Kd.R_reads' HO_163001.out).2.1); rintro e w33 ⟨rfl, hb⟩; have n0_ := Aside0.mk (Kd.R_below (by (with_reducible repeat (first | apply Kd.R_alloc | apply Kd.R_drewN | apply Kd.R_drew)); exact HO_2.out) hb); have n1_ := Aside0.mk (Kd.R_below (by (with_reducible repeat (first | apply Kd.R_alloc | apply Kd.R_drewN | apply Kd.R_drew)); exact HO_163000.out) hb); have n2_ := Aside0.mk (Kd.R_below (by (with_reducible repeat (first | apply Kd.R_alloc | apply Kd.R_drewN | apply Kd.R_drew)); exact HO_163001.out) hb); have n3_ := Aside0.mk (blk_below (g := gb162) (o := .cells #[.slice Ao8 t150.length co8, .slice Ao10 t153.length co10] 30 (0, 0)) (by (with_reducible repeat (first | refine blk_drewN ?_ _ | refine blk_drew ?_ | refine blk_alloc ?_ _)); exact BK162.out) hb); have n4_ := Aside0.mk (below_step (by repeat (first | (with_reducible first | exact HB.out | apply below_alloc | apply pw_below_drewN | apply below_drew1 | refine below_set ?_ GE162.out) | exact HB.out)) hb); clear HO_2; clear HO_163000; clear HO_163001; clear BK162; clear HB; have HO_2 := n0_; have HO_163000 := n1_; have HO_163001 := n2_; have BK162 := n3_; have HB := n4_; clear n0_ n1_ n2_ n3_ n4_; (try clear hb); (try clear hb2); (try clear hk); (try clear hi); obtain ⟨Ao34, co34, eo34⟩ := Kd.R_slice HO_2.out; subst eo34; have p166 : 0 ≤ (0 : Int) := (by omega); have q166 : 0 < (t156.length : Int) := of_decide_eq_true (by first | (with_reducible assumption) | assumption); obtain ⟨ad166, e166, hx166_0, hx166_1⟩ := at_T61 (Kd.R_reads' HO_2.out).2.2 0 p166 q166; cases e166; have qi166 : (0 < t156.length) = True := eq_true (by omega); (try rw [show ((0 : Int)).toNat = 0 from rfl] at hx166_0); (try rw [show 0 * 2 = 0 from rfl] at hx166_0); (try rw [Addr.add_zero'] at hx166_0); (try rw [show ((0 : Int)).toNat = 0 from rfl] at hx166_1); (try rw [show 0 * 2 = 0 from rfl] at hx166_1); (try rw [Addr.add_zero'] at hx166_1); replace p166 := eq_true p166; replace q166 := eq_true q166; have p167 : 0 ≤ (1 : Int) := (by omega); have q167 : 1 < (t156.length : Int) := of_decide_eq_true (by first | (with_reducible assumption) | assumption); obtain ⟨ad167, e167, hx167_0, hx167_1⟩ := at_T61 (Kd.R_reads' HO_2.out).2.2 1 p167 q167; obtain rfl : ad166 = ad167 := (by injection e167); (try simp only [show (1 : Int).toNat = 1 from rfl, Nat.reduceMul, Nat.reduceEqDiff, Go.Addr.add, ↓reduceIte] at hx167_0); (try simp only [show (1 : Int).toNat = 1 from rfl, Nat.reduceMul, Nat.reduceEqDiff, Go.Addr.add, ↓reduceIte] at hx167_1); have qi167 : (1 < t156.length) = True := eq_true (by omega); (try rw [show ((1 : Int)).toNat = 1 from rfl] at hx167_0); (try rw [show 1 * 2 = 2 from rfl] at hx167_0); (try rw [show ((1 : Int)).toNat = 1 from rfl] at hx167_1); (try rw [show 1 * 2 = 2 from rfl] at hx167_1); replace p167 := eq_true p167; replace q167 := eq_true q167) | (go_at_call 15; (refine (media_Status.calls _ _ ([] : List (S37)) _ _ ([] : List (S39)) (⟨#[97]⟩ : ByteArray) t164 _ ?side1 ?side2 ?side3 ?side4 A18.out).mono ?_); (case side1 => exact Kd.C_nil _ _); (case side2 => exact Nat.le_refl _); (case side3 => exact Kd.C_nil _ _); (case side4 => exact Nat.le_refl _); rintro e w31 ⟨rfl, hb⟩; have n0_ := Aside0.mk (Kd.R_below (by (with_reducible repeat (first | apply Kd.R_alloc | apply Kd.R_drewN | apply Kd.R_drew)); exact HO_2.out) hb); have n1_ := Aside0.mk (Kd.R_below (by (with_reducible repeat (first | apply Kd.R_alloc | apply Kd.R_drewN | apply Kd.R_drew)); exact HO_163000.out) hb); have n2_ := Aside0.mk (Kd.R_below (by (with_reducible repeat (first | apply Kd.R_alloc | apply Kd.R_drewN | apply Kd.R_drew)); exact HO_163001.out) hb); have n3_ := Aside0.mk (blk_below (g := gb162) (o := .cells #[.slice Ao8 t150.length co8, .slice Ao10 t153.length co10] 30 (0, 0)) (by (with_reducible repeat (first | refine blk_drewN ?_ _ | refine blk_drew ?_ | refine blk_alloc ?_ _)); exact BK162.out) hb); have n4_ := Aside0.mk (below_step (by repeat (first | (with_reducible first | exact HB.out | apply below_alloc | apply pw_below_drewN | apply below_drew1 | refine below_set ?_ GE162.out) | exact HB.out)) hb); clear HO_2; clear HO_163000; clear HO_163001; clear BK162; clear HB; have HO_2 := n0_; have HO_163000 := n1_; have HO_163001 := n2_; have BK162 := n3_; have HB := n4_; clear n0_ n1_ n2_ n3_ n4_; (try clear hb); (try clear hb2); (try clear hk); (try clear hi); have hcz32_0 : w31.cell? ⟨gb162, 0, none⟩ = some (.slice Ao8 t150.length co8) := (blk_cell BK162.out 0).trans rfl; have hcz32_1 : w31.cell? ⟨gb162, 1, none⟩ = some (.slice Ao10 t153.length co10) := (blk_cell BK162.out 1).trans rfl; have hfz32_0 := blk_frozen BK162.out 0; have hfz32_1 := blk_frozen BK162.out 1))
                      go_ret
                      exact ⟨by first | rfl | (simp [errW_none, errW_some] <;> rfl) | (simp [*, errW_none, errW_some] <;> rfl), by repeat (first | (with_reducible first | exact HB.out | apply below_alloc | apply pw_below_drewN | apply below_drew1 | refine below_set ?_ GE162.out) | exact HB.out)⟩
                  · rw [if_neg c24] at H
                    exact absurd H (by simp)
                · rw [if_neg c23] at H
                  have c23b0 : (((rd_T61 t156 0).f1) == 1) = false := beq_eq_false_iff_ne.mpr c23
                  have c23b1 : (((rd_T61 t156 0).f1) != 1) = true := bne_iff_ne.mpr c23
                  obtain rfl := Option.some.inj H
                  go_wp2_with (first | ((with_reducible refine gate_callee (f := 9) rfl ?_); refine goesL_ (some 23) rfl rfl Try.func9 (by kernel_rfl) rfl #[.slice none 0 0] rfl (by (try simp only [List.map_toArray, List.map_cons, List.map_nil]); first | done | rfl | (simp only [List.length_drop, List.length_take]; rfl)) ?_; (refine (media_Sum.calls kj1 _ _ ([] : List Int) t163 _ ?side1 ?side2 A16.out).mono ?_); (case side1 => exact Kd.C_nil _ _); (case side2 => exact Nat.le_refl _); rintro e w' ⟨rfl, ⟨nd, rfl⟩⟩; refine ⟨_, rfl, ?_⟩) | (go_at_call 15; (with_reducible refine (media_Status.calls _ _ t150 _ _ t153 (⟨#[97]⟩ : ByteArray) t165 _ ?side1 ?side2 ?side3 ?side4 A20.out).mono ?_); (case side1 => repeat (first | exact (Kd.R_reads' HO_163000.out).2.2 | (with_reducible refine Kd.C_alloc ?_ _) | (with_reducible refine Kd.C_drewN ?_ _) | (with_reducible refine Kd.C_drew ?_))); (case side2 => exact (Kd.R_reads' HO_163000.out).2.1); (case side3 => repeat (first | exact (Kd.R_reads' HO_163001.out).2.2 | (with_reducible refine Kd.C_alloc ?_ _) | (with_reducible refine Kd.C_drewN ?_ _) | (with_reducible refine Kd.C_drew ?_))); (case side4 => exact (Kd.R_reads' HO_163001.out).2.1); rintro e w37 ⟨rfl, hb⟩; have n0_ := Aside0.mk (Kd.R_below (by (with_reducible repeat (first | apply Kd.R_alloc | apply Kd.R_drewN | apply Kd.R_drew)); exact HO_2.out) hb); have n1_ := Aside0.mk (Kd.R_below (by (with_reducible repeat (first | apply Kd.R_alloc | apply Kd.R_drewN | apply Kd.R_drew)); exact HO_163000.out) hb); have n2_ := Aside0.mk (Kd.R_below (by (with_reducible repeat (first | apply Kd.R_alloc | apply Kd.R_drewN | apply Kd.R_drew)); exact HO_163001.out) hb); have n3_ := Aside0.mk (blk_below (g := gb162) (o := .cells #[.slice Ao8 t150.length co8, .slice Ao10 t153.length co10] 30 (0, 0)) (by (with_reducible repeat (first | refine blk_drewN ?_ _ | refine blk_drew ?_ | refine blk_alloc ?_ _)); exact BK162.out) hb); have n4_ := Aside0.mk (below_step (by repeat (first | (with_reducible first | exact HB.out | apply below_alloc | apply pw_below_drewN | apply below_drew1 | refine below_set ?_ GE162.out) | exact HB.out)) hb); clear HO_2; clear HO_163000; clear HO_163001; clear BK162; clear HB; have HO_2 := n0_; have HO_163000 := n1_; have HO_163001 := n2_; have BK162 := n3_; have HB := n4_; clear n0_ n1_ n2_ n3_ n4_; (try clear hb); (try clear hb2); (try clear hk); (try clear hi); obtain ⟨Ao38, co38, eo38⟩ := Kd.R_slice HO_2.out; subst eo38; have p166 : 0 ≤ (0 : Int) := (by omega); have q166 : 0 < (t156.length : Int) := of_decide_eq_true (by first | (with_reducible assumption) | assumption); obtain ⟨ad166, e166, hx166_0, hx166_1⟩ := at_T61 (Kd.R_reads' HO_2.out).2.2 0 p166 q166; cases e166; have qi166 : (0 < t156.length) = True := eq_true (by omega); (try rw [show ((0 : Int)).toNat = 0 from rfl] at hx166_0); (try rw [show 0 * 2 = 0 from rfl] at hx166_0); (try rw [Addr.add_zero'] at hx166_0); (try rw [show ((0 : Int)).toNat = 0 from rfl] at hx166_1); (try rw [show 0 * 2 = 0 from rfl] at hx166_1); (try rw [Addr.add_zero'] at hx166_1); replace p166 := eq_true p166; replace q166 := eq_true q166) | (go_at_call 15; (refine (media_Status.calls _ _ ([] : List (S37)) _ _ ([] : List (S39)) (⟨#[97]⟩ : ByteArray) t164 _ ?side1 ?side2 ?side3 ?side4 A18.out).mono ?_); (case side1 => exact Kd.C_nil _ _); (case side2 => exact Nat.le_refl _); (case side3 => exact Kd.C_nil _ _); (case side4 => exact Nat.le_refl _); rintro e w35 ⟨rfl, hb⟩; have n0_ := Aside0.mk (Kd.R_below (by (with_reducible repeat (first | apply Kd.R_alloc | apply Kd.R_drewN | apply Kd.R_drew)); exact HO_2.out) hb); have n1_ := Aside0.mk (Kd.R_below (by (with_reducible repeat (first | apply Kd.R_alloc | apply Kd.R_drewN | apply Kd.R_drew)); exact HO_163000.out) hb); have n2_ := Aside0.mk (Kd.R_below (by (with_reducible repeat (first | apply Kd.R_alloc | apply Kd.R_drewN | apply Kd.R_drew)); exact HO_163001.out) hb); have n3_ := Aside0.mk (blk_below (g := gb162) (o := .cells #[.slice Ao8 t150.length co8, .slice Ao10 t153.length co10] 30 (0, 0)) (by (with_reducible repeat (first | refine blk_drewN ?_ _ | refine blk_drew ?_ | refine blk_alloc ?_ _)); exact BK162.out) hb); have n4_ := Aside0.mk (below_step (by repeat (first | (with_reducible first | exact HB.out | apply below_alloc | apply pw_below_drewN | apply below_drew1 | refine below_set ?_ GE162.out) | exact HB.out)) hb); clear HO_2; clear HO_163000; clear HO_163001; clear BK162; clear HB; have HO_2 := n0_; have HO_163000 := n1_; have HO_163001 := n2_; have BK162 := n3_; have HB := n4_; clear n0_ n1_ n2_ n3_ n4_; (try clear hb); (try clear hb2); (try clear hk); (try clear hi); have hcz36_0 : w35.cell? ⟨gb162, 0, none⟩ = some (.slice Ao8 t150.length co8) := (blk_cell BK162.out 0).trans rfl; have hcz36_1 : w35.cell? ⟨gb162, 1, none⟩ = some (.slice Ao10 t153.length co10) := (blk_cell BK162.out 1).trans rfl; have hfz36_0 := blk_frozen BK162.out 0; have hfz36_1 := blk_frozen BK162.out 1))
                  go_ret
                  exact ⟨by first | rfl | (simp [errW_none, errW_some] <;> rfl) | (simp [*, errW_none, errW_some] <;> rfl), by repeat (first | (with_reducible first | exact HB.out | apply below_alloc | apply pw_below_drewN | apply below_drew1 | refine below_set ?_ GE162.out) | exact HB.out)⟩
              · rw [if_neg c22] at H
                exact absurd H (by simp)
            · rw [if_neg c21] at H
              have c21b0 : (t165 == 1) = false := beq_eq_false_iff_ne.mpr c21
              have c21b1 : (t165 != 1) = true := bne_iff_ne.mpr c21
              obtain rfl := Option.some.inj H
              go_wp2_with (first | ((with_reducible refine gate_callee (f := 9) rfl ?_); refine goesL_ (some 23) rfl rfl Try.func9 (by kernel_rfl) rfl #[.slice none 0 0] rfl (by (try simp only [List.map_toArray, List.map_cons, List.map_nil]); first | done | rfl | (simp only [List.length_drop, List.length_take]; rfl)) ?_; (refine (media_Sum.calls kj1 _ _ ([] : List Int) t163 _ ?side1 ?side2 A16.out).mono ?_); (case side1 => exact Kd.C_nil _ _); (case side2 => exact Nat.le_refl _); rintro e w' ⟨rfl, ⟨nd, rfl⟩⟩; refine ⟨_, rfl, ?_⟩) | (go_at_call 15; (with_reducible refine (media_Status.calls _ _ t150 _ _ t153 (⟨#[97]⟩ : ByteArray) t165 _ ?side1 ?side2 ?side3 ?side4 A20.out).mono ?_); (case side1 => repeat (first | exact (Kd.R_reads' HO_163000.out).2.2 | (with_reducible refine Kd.C_alloc ?_ _) | (with_reducible refine Kd.C_drewN ?_ _) | (with_reducible refine Kd.C_drew ?_))); (case side2 => exact (Kd.R_reads' HO_163000.out).2.1); (case side3 => repeat (first | exact (Kd.R_reads' HO_163001.out).2.2 | (with_reducible refine Kd.C_alloc ?_ _) | (with_reducible refine Kd.C_drewN ?_ _) | (with_reducible refine Kd.C_drew ?_))); (case side4 => exact (Kd.R_reads' HO_163001.out).2.1); rintro e w41 ⟨rfl, hb⟩; have n0_ := Aside0.mk (Kd.R_below (by (with_reducible repeat (first | apply Kd.R_alloc | apply Kd.R_drewN | apply Kd.R_drew)); exact HO_2.out) hb); have n1_ := Aside0.mk (Kd.R_below (by (with_reducible repeat (first | apply Kd.R_alloc | apply Kd.R_drewN | apply Kd.R_drew)); exact HO_163000.out) hb); have n2_ := Aside0.mk (Kd.R_below (by (with_reducible repeat (first | apply Kd.R_alloc | apply Kd.R_drewN | apply Kd.R_drew)); exact HO_163001.out) hb); have n3_ := Aside0.mk (blk_below (g := gb162) (o := .cells #[.slice Ao8 t150.length co8, .slice Ao10 t153.length co10] 30 (0, 0)) (by (with_reducible repeat (first | refine blk_drewN ?_ _ | refine blk_drew ?_ | refine blk_alloc ?_ _)); exact BK162.out) hb); have n4_ := Aside0.mk (below_step (by repeat (first | (with_reducible first | exact HB.out | apply below_alloc | apply pw_below_drewN | apply below_drew1 | refine below_set ?_ GE162.out) | exact HB.out)) hb); clear HO_2; clear HO_163000; clear HO_163001; clear BK162; clear HB; have HO_2 := n0_; have HO_163000 := n1_; have HO_163001 := n2_; have BK162 := n3_; have HB := n4_; clear n0_ n1_ n2_ n3_ n4_; (try clear hb); (try clear hb2); (try clear hk); (try clear hi)) | (go_at_call 15; (refine (media_Status.calls _ _ ([] : List (S37)) _ _ ([] : List (S39)) (⟨#[97]⟩ : ByteArray) t164 _ ?side1 ?side2 ?side3 ?side4 A18.out).mono ?_); (case side1 => exact Kd.C_nil _ _); (case side2 => exact Nat.le_refl _); (case side3 => exact Kd.C_nil _ _); (case side4 => exact Nat.le_refl _); rintro e w39 ⟨rfl, hb⟩; have n0_ := Aside0.mk (Kd.R_below (by (with_reducible repeat (first | apply Kd.R_alloc | apply Kd.R_drewN | apply Kd.R_drew)); exact HO_2.out) hb); have n1_ := Aside0.mk (Kd.R_below (by (with_reducible repeat (first | apply Kd.R_alloc | apply Kd.R_drewN | apply Kd.R_drew)); exact HO_163000.out) hb); have n2_ := Aside0.mk (Kd.R_below (by (with_reducible repeat (first | apply Kd.R_alloc | apply Kd.R_drewN | apply Kd.R_drew)); exact HO_163001.out) hb); have n3_ := Aside0.mk (blk_below (g := gb162) (o := .cells #[.slice Ao8 t150.length co8, .slice Ao10 t153.length co10] 30 (0, 0)) (by (with_reducible repeat (first | refine blk_drewN ?_ _ | refine blk_drew ?_ | refine blk_alloc ?_ _)); exact BK162.out) hb); have n4_ := Aside0.mk (below_step (by repeat (first | (with_reducible first | exact HB.out | apply below_alloc | apply pw_below_drewN | apply below_drew1 | refine below_set ?_ GE162.out) | exact HB.out)) hb); clear HO_2; clear HO_163000; clear HO_163001; clear BK162; clear HB; have HO_2 := n0_; have HO_163000 := n1_; have HO_163001 := n2_; have BK162 := n3_; have HB := n4_; clear n0_ n1_ n2_ n3_ n4_; (try clear hb); (try clear hb2); (try clear hk); (try clear hi); have hcz40_0 : w39.cell? ⟨gb162, 0, none⟩ = some (.slice Ao8 t150.length co8) := (blk_cell BK162.out 0).trans rfl; have hcz40_1 : w39.cell? ⟨gb162, 1, none⟩ = some (.slice Ao10 t153.length co10) := (blk_cell BK162.out 1).trans rfl; have hfz40_0 := blk_frozen BK162.out 0; have hfz40_1 := blk_frozen BK162.out 1))
              go_ret
              exact ⟨by first | rfl | (simp [errW_none, errW_some] <;> rfl) | (simp [*, errW_none, errW_some] <;> rfl), by repeat (first | (with_reducible first | exact HB.out | apply below_alloc | apply pw_below_drewN | apply below_drew1 | refine below_set ?_ GE162.out) | exact HB.out)⟩
          · rw [if_neg c19] at H
            have c19b0 : (t164 == 0) = false := beq_eq_false_iff_ne.mpr c19
            have c19b1 : (t164 != 0) = true := bne_iff_ne.mpr c19
            obtain rfl := Option.some.inj H
            go_wp2_with (first | ((with_reducible refine gate_callee (f := 9) rfl ?_); refine goesL_ (some 23) rfl rfl Try.func9 (by kernel_rfl) rfl #[.slice none 0 0] rfl (by (try simp only [List.map_toArray, List.map_cons, List.map_nil]); first | done | rfl | (simp only [List.length_drop, List.length_take]; rfl)) ?_; (refine (media_Sum.calls kj1 _ _ ([] : List Int) t163 _ ?side1 ?side2 A16.out).mono ?_); (case side1 => exact Kd.C_nil _ _); (case side2 => exact Nat.le_refl _); rintro e w' ⟨rfl, ⟨nd, rfl⟩⟩; refine ⟨_, rfl, ?_⟩) | (go_at_call 15; (refine (media_Status.calls _ _ ([] : List (S37)) _ _ ([] : List (S39)) (⟨#[97]⟩ : ByteArray) t164 _ ?side1 ?side2 ?side3 ?side4 A18.out).mono ?_); (case side1 => exact Kd.C_nil _ _); (case side2 => exact Nat.le_refl _); (case side3 => exact Kd.C_nil _ _); (case side4 => exact Nat.le_refl _); rintro e w42 ⟨rfl, hb⟩; have n0_ := Aside0.mk (Kd.R_below (by (with_reducible repeat (first | apply Kd.R_alloc | apply Kd.R_drewN | apply Kd.R_drew)); exact HO_2.out) hb); have n1_ := Aside0.mk (Kd.R_below (by (with_reducible repeat (first | apply Kd.R_alloc | apply Kd.R_drewN | apply Kd.R_drew)); exact HO_163000.out) hb); have n2_ := Aside0.mk (Kd.R_below (by (with_reducible repeat (first | apply Kd.R_alloc | apply Kd.R_drewN | apply Kd.R_drew)); exact HO_163001.out) hb); have n3_ := Aside0.mk (blk_below (g := gb162) (o := .cells #[.slice Ao8 t150.length co8, .slice Ao10 t153.length co10] 30 (0, 0)) (by (with_reducible repeat (first | refine blk_drewN ?_ _ | refine blk_drew ?_ | refine blk_alloc ?_ _)); exact BK162.out) hb); have n4_ := Aside0.mk (below_step (by repeat (first | (with_reducible first | exact HB.out | apply below_alloc | apply pw_below_drewN | apply below_drew1 | refine below_set ?_ GE162.out) | exact HB.out)) hb); clear HO_2; clear HO_163000; clear HO_163001; clear BK162; clear HB; have HO_2 := n0_; have HO_163000 := n1_; have HO_163001 := n2_; have BK162 := n3_; have HB := n4_; clear n0_ n1_ n2_ n3_ n4_; (try clear hb); (try clear hb2); (try clear hk); (try clear hi)))
            go_ret
            exact ⟨by first | rfl | (simp [errW_none, errW_some] <;> rfl) | (simp [*, errW_none, errW_some] <;> rfl), by repeat (first | (with_reducible first | exact HB.out | apply below_alloc | apply pw_below_drewN | apply below_drew1 | refine below_set ?_ GE162.out) | exact HB.out)⟩
        · rw [if_neg c17] at H
          have c17b0 : (t163 == 14695981039346656037) = false := beq_eq_false_iff_ne.mpr c17
          have c17b1 : (t163 != 14695981039346656037) = true := bne_iff_ne.mpr c17
          obtain rfl := Option.some.inj H
          go_wp2_with (first | ((with_reducible refine gate_callee (f := 9) rfl ?_); refine goesL_ (some 23) rfl rfl Try.func9 (by kernel_rfl) rfl #[.slice none 0 0] rfl (by (try simp only [List.map_toArray, List.map_cons, List.map_nil]); first | done | rfl | (simp only [List.length_drop, List.length_take]; rfl)) ?_; (refine (media_Sum.calls kj1 _ _ ([] : List Int) t163 _ ?side1 ?side2 A16.out).mono ?_); (case side1 => exact Kd.C_nil _ _); (case side2 => exact Nat.le_refl _); rintro e w' ⟨rfl, ⟨nd, rfl⟩⟩; refine ⟨_, rfl, ?_⟩))
          go_ret
          exact ⟨by first | rfl | (simp [errW_none, errW_some] <;> rfl) | (simp [*, errW_none, errW_some] <;> rfl), by repeat (first | (with_reducible first | exact HB.out | apply below_alloc | apply pw_below_drewN | apply below_drew1 | refine below_set ?_ GE162.out) | exact HB.out)⟩

/-! ### cutroomlaw36_MediaSums: function 3 -/
def cutroomlaw36_MediaSums.f (k : Nat) (l0 : List Int) : Option (Bool) := (media_Sum.f k l0).bind fun t169 => ((cutroomref36_Sum.f k l0).bind fun t170 => (if t169 = t170 then ((cutroomlaw36_awake.f k).bind fun t171 => (some t171)) else (some false)))
theorem cutroomlaw36_MediaSums.mono : ∀ a0 k, LeO (cutroomlaw36_MediaSums.f k a0) (cutroomlaw36_MediaSums.f (k + 1) a0) := by
  intro a0 k
  unfold cutroomlaw36_MediaSums.f
  repeat' first
      | (with_reducible exact cutroomlaw36_awake.mono _)
      | (with_reducible exact cutroomref36_Sum.mono _ _)
      | (with_reducible exact media_Sum.mono _ _)
      | (with_reducible exact LeO.refl _)
      | (with_reducible exact LeO.none _)
      | (with_reducible refine LeO.ite ?_ ?_)
      | (with_reducible refine LeO.bind ?_ (fun _ => ?_))
      | exact cutroomlaw36_awake.mono _
      | exact cutroomref36_Sum.mono _ _
      | exact media_Sum.mono _ _
      | exact LeO.none _
      | refine LeO.ite ?_ ?_
      | refine LeO.bind ?_ (fun _ => ?_)
set_option maxHeartbeats 8000000 in
set_option maxRecDepth 100000 in
theorem cutroomlaw36_MediaSums.calls (k : Nat) (A0 : Option Addr) (c0 : Nat) (l0 : List Int) (r : Bool) (w : World) (hr0 : Kd.C (Kd.int .u8) w A0 l0.length l0) (hc0 : l0.length ≤ c0) (h : cutroomlaw36_MediaSums.f k l0 = some r) :
    Calls Try.prog 3 #[.slice A0 l0.length c0] w fun e w' => e = .returned (.bool r) ∧ Below w.heap.size w w' := by
  have HR0 := Aside0.mk hr0
  have HC0 := Aside0.mk hc0
  clear hr0 hc0
  have HB := Aside0.mk (Below.refl w.heap.size w)
  have H : ((media_Sum.f k l0).bind fun t169 => ((cutroomref36_Sum.f k l0).bind fun t170 => (if t169 = t170 then ((cutroomlaw36_awake.f k).bind fun t171 => (some t171)) else (some false)))) = some r := h
  clear h
  replace H := Option.bind_eq_some_iff.mp H
  obtain ⟨t169, A20, H⟩ := H
  replace H : ((cutroomref36_Sum.f k l0).bind fun t170 => (if t169 = t170 then ((cutroomlaw36_awake.f k).bind fun t171 => (some t171)) else (some false))) = some r := H
  have A2 := Aside0.mk A20
  clear A20
  replace H := Option.bind_eq_some_iff.mp H
  obtain ⟨t170, A30, H⟩ := H
  replace H : (if t169 = t170 then ((cutroomlaw36_awake.f k).bind fun t171 => (some t171)) else (some false)) = some r := H
  have A3 := Aside0.mk A30
  clear A30
  by_cases c4 : t169 = t170
  · rw [if_pos c4] at H
    have c4b0 : (t169 == t170) = true := beq_iff_eq.mpr c4
    have c4b1 : (t169 != t170) = false := bne_eq_false_iff_eq.mpr c4
    clear c4
    replace H := Option.bind_eq_some_iff.mp H
    obtain ⟨t171, A50, H⟩ := H
    replace H : (some t171) = some r := H
    have A5 := Aside0.mk A50
    clear A50
    obtain rfl := Option.some.inj H
    go_enter Try.func3, Try.ntmps3
    go_wp2_with (first | ((with_reducible refine gate_callee (f := 9) rfl ?_); refine goesL_ (some 4) rfl rfl Try.func9 (by kernel_rfl) rfl #[.slice A0 l0.length c0] rfl (by (try simp only [List.map_toArray, List.map_cons, List.map_nil]); first | done | rfl | (simp only [List.length_drop, List.length_take]; rfl)) ?_; (with_reducible refine (media_Sum.calls k _ _ l0 t169 _ ?side1 ?side2 A2.out).mono ?_); (case side1 => repeat (first | exact HR0.out | (with_reducible refine Kd.C_alloc ?_ _) | (with_reducible refine Kd.C_drewN ?_ _) | (with_reducible refine Kd.C_drew ?_))); (case side2 => exact HC0.out); rintro e w' ⟨rfl, ⟨nd, rfl⟩⟩; refine ⟨_, rfl, ?_⟩) | ((with_reducible refine gate_callee (f := 10) rfl ?_); refine goesL_ (some 6) rfl rfl Try.func10 (by kernel_rfl) rfl #[.slice A0 l0.length c0] rfl (by (try simp only [List.map_toArray, List.map_cons, List.map_nil]); first | done | rfl | (simp only [List.length_drop, List.length_take]; rfl)) ?_; (with_reducible refine (cutroomref36_Sum.calls k _ _ l0 t170 _ ?side1 ?side2 A3.out).mono ?_); (case side1 => repeat (first | exact HR0.out | (with_reducible refine Kd.C_alloc ?_ _) | (with_reducible refine Kd.C_drewN ?_ _) | (with_reducible refine Kd.C_drew ?_))); (case side2 => exact HC0.out); rintro e w' ⟨rfl, ⟨nd, rfl⟩⟩; refine ⟨_, rfl, ?_⟩) | (go_at_call 11; (with_reducible refine (cutroomlaw36_awake.calls k  t171 _ A5.out).mono ?_); rintro e w6 ⟨rfl, hb⟩; have n0_ := Aside0.mk (below_step (by repeat (first | (with_reducible first | exact HB.out | apply below_alloc | apply pw_below_drewN | apply below_drew1) | exact HB.out)) hb); clear HB; have HB := n0_; clear n0_; (try clear hb); (try clear hb2); (try clear hk); (try clear hi)))
    go_ret
    exact ⟨by first | rfl | (simp [errW_none, errW_some] <;> rfl) | (simp [*, errW_none, errW_some] <;> rfl), by repeat (first | (with_reducible first | exact HB.out | apply below_alloc | apply pw_below_drewN | apply below_drew1) | exact HB.out)⟩
  · rw [if_neg c4] at H
    have c4b0 : (t169 == t170) = false := beq_eq_false_iff_ne.mpr c4
    have c4b1 : (t169 != t170) = true := bne_iff_ne.mpr c4
    obtain rfl := Option.some.inj H
    go_enter Try.func3, Try.ntmps3
    go_wp2_with (first | ((with_reducible refine gate_callee (f := 9) rfl ?_); refine goesL_ (some 4) rfl rfl Try.func9 (by kernel_rfl) rfl #[.slice A0 l0.length c0] rfl (by (try simp only [List.map_toArray, List.map_cons, List.map_nil]); first | done | rfl | (simp only [List.length_drop, List.length_take]; rfl)) ?_; (with_reducible refine (media_Sum.calls k _ _ l0 t169 _ ?side1 ?side2 A2.out).mono ?_); (case side1 => repeat (first | exact HR0.out | (with_reducible refine Kd.C_alloc ?_ _) | (with_reducible refine Kd.C_drewN ?_ _) | (with_reducible refine Kd.C_drew ?_))); (case side2 => exact HC0.out); rintro e w' ⟨rfl, ⟨nd, rfl⟩⟩; refine ⟨_, rfl, ?_⟩) | ((with_reducible refine gate_callee (f := 10) rfl ?_); refine goesL_ (some 6) rfl rfl Try.func10 (by kernel_rfl) rfl #[.slice A0 l0.length c0] rfl (by (try simp only [List.map_toArray, List.map_cons, List.map_nil]); first | done | rfl | (simp only [List.length_drop, List.length_take]; rfl)) ?_; (with_reducible refine (cutroomref36_Sum.calls k _ _ l0 t170 _ ?side1 ?side2 A3.out).mono ?_); (case side1 => repeat (first | exact HR0.out | (with_reducible refine Kd.C_alloc ?_ _) | (with_reducible refine Kd.C_drewN ?_ _) | (with_reducible refine Kd.C_drew ?_))); (case side2 => exact HC0.out); rintro e w' ⟨rfl, ⟨nd, rfl⟩⟩; refine ⟨_, rfl, ?_⟩))
    go_ret
    exact ⟨by first | rfl | (simp [errW_none, errW_some] <;> rfl) | (simp [*, errW_none, errW_some] <;> rfl), by repeat (first | (with_reducible first | exact HB.out | apply below_alloc | apply pw_below_drewN | apply below_drew1) | exact HB.out)⟩

/-- THE ONE PURE STATEMENT of cutroomlaw36_MediaSums: yours. -/
def cutroomlaw36_MediaSums.Pure : Prop := ∀ (l0 : List Int), l0.length ≤ maxLen → l0.length * 1 ≤ 140737488351232 → (∀ x ∈ l0, (Lit.int .u8 x).wf = true) → ∃ k, cutroomlaw36_MediaSums.f k l0 = some true
theorem cutroomlaw36_MediaSums.walk (P : cutroomlaw36_MediaSums.Pure) (a0 : Option Addr) (len0 cap0 : Nat) (z0 : List Int) (w : World) (w0 : (a0 = none ∧ len0 = 0 ∧ cap0 = 0 ∧ z0 = []) ∨ ∃ x, a0 = some x ∧ len0 ≤ cap0 ∧ cap0 ≤ maxLen ∧ z0.length = cap0 ∧ (∀ i, i < z0.length → w.cell? (x.add i) = some (.int .u8 (z0.getD i 0))) ∧ ∀ n ∈ z0, (Lit.int .u8 n).wf = true) (y0 : len0 * 1 ≤ 140737488351232) :
    Calls Try.prog 3 #[.slice a0 len0 cap0] w fun e w' => e = .returned (.bool true) ∧ Below w.heap.size w w' := by
  obtain ⟨l0, rfl, hr0, hm0, hw0, hc0⟩ := ReadsInt.ofRowC w0
  obtain ⟨k, h⟩ := P l0 hm0 y0 hw0
  refine (cutroomlaw36_MediaSums.calls k _ _ l0 true w (Kd.C_of_reads (d := (0 : Int)) (h1 := fun _ => rfl) hr0) hc0 h).mono ?_
  rintro e w' ⟨rfl, hd⟩
  exact ⟨rfl, hd⟩

end Go.Proofs.Ytpnhkmicepmciaa.S

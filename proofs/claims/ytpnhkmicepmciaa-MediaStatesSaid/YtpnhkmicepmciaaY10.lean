/- A part of this claim's walks: functions' contracts, or plain lemmas; conditions: each one's own. -/
import Derived.Test.YtpnhkmicepmciaaY0
import Derived.Test.YtpnhkmicepmciaaY4
import Derived.Test.YtpnhkmicepmciaaY9
import Derived.Test.YtpnhkmicepmciaaPar
namespace Go.Proofs.Ytpnhkmicepmciaa.Y
open Go.RowKit Go.Proofs.YtpnhkmicepmciaaW.PrintWords Go.Proofs.YtpnhkmicepmciaaW.PrintLast Go.Proofs.YtpnhkmicepmciaaW.PrintMore Go.Proofs.Ytpnhkmicepmciaa.Par
attribute [local go_sem] max2_int min2_int max_two min_two max_three min_three max_four min_four   -- for this text's walks alone
set_option linter.unusedVariables false
set_option linter.unusedSimpArgs false
def cutroomlaw36_awake.j0 : Nat → List (S61) → Bool → List (S37) → List (S39) → Option (Bool)
 | 0, _, _, _, _ => none
 | k + 1, x2, x22, x156000, x156001 => if x22 = true then (some false) else ((media_Sum.f k ([] : List Int)).bind fun t156 => (if t156 = 14695981039346656037 then ((media_Status.f ([] : List (S37)) ([] : List (S39)) (⟨#[97]⟩ : ByteArray)).bind fun t157 => (if t157 = 0 then ((media_Status.f x156000 x156001 (⟨#[97]⟩ : ByteArray)).bind fun t158 => (if t158 = 1 then (if 0 < (x2.length : Int) then (if ((rd_T61 x2 0).f1) = 1 then (if 1 < (x2.length : Int) then (if ((rd_T61 x2 1).f1) = 3 then (if 2 < (x2.length : Int) then (some (((rd_T61 x2 2).f1) == 1)) else (none)) else (some false)) else (none)) else (some false)) else (none)) else (some false))) else (some false))) else (some false)))
def cutroomlaw36_awake.f (k : Nat)  : Option (Bool) := (media_Run.f k ([] : List (S37)) ([] : List (S39)) (([(⟨1, (⟨#[]⟩ : ByteArray), (⟨#[102]⟩ : ByteArray), (⟨#[]⟩ : ByteArray), 7⟩ : S45), (⟨3, (⟨#[97]⟩ : ByteArray), (⟨#[102]⟩ : ByteArray), (⟨#[]⟩ : ByteArray), 0⟩ : S45), (⟨2, (⟨#[]⟩ : ByteArray), (⟨#[102]⟩ : ByteArray), (⟨#[]⟩ : ByteArray), 0⟩ : S45), (⟨1, (⟨#[]⟩ : ByteArray), (⟨#[102]⟩ : ByteArray), (⟨#[]⟩ : ByteArray), 7⟩ : S45)] : List (S45)))).bind fun bt143 => (if (bt143.2.2.2.length : Int) = 4 then (cutroomlaw36_awake.j0 k bt143.2.2.1 ((bt143.2.2.1.length : Int) != 3) bt143.1 bt143.2.1) else (cutroomlaw36_awake.j0 k bt143.2.2.1 true bt143.1 bt143.2.1))
theorem cutroomlaw36_awake.mono_l : ∀ k, (∀ y0 y1 y2 y3, LeO (cutroomlaw36_awake.j0 k y0 y1 y2 y3) (cutroomlaw36_awake.j0 (k + 1) y0 y1 y2 y3))
 | 0 => fun _ _ _ _ r h => by simp [cutroomlaw36_awake.j0] at h
 | k + 1 => by
  have ih0 := cutroomlaw36_awake.mono_l k
  ·intro y0 y1 y2 y3
   unfold cutroomlaw36_awake.j0
   repeat' first
   | (with_reducible exact ih0 _ _ _ _)
   | (with_reducible exact media_Run.mono _ _ _ _)
   | (with_reducible exact media_Sum.mono _ _)
   | (with_reducible exact LeO.refl _)
   | (with_reducible exact LeO.none _)
   | (with_reducible refine LeO.ite ?_ ?_)
   | (with_reducible refine LeO.bind ?_ (fun _ => ?_))
   | exact ih0 _ _ _ _
   | exact media_Run.mono _ _ _ _
   | exact media_Sum.mono _ _
   | exact LeO.none _
   | refine LeO.ite ?_ ?_
   | refine LeO.bind ?_ (fun _ => ?_)
theorem cutroomlaw36_awake.mono : ∀ k, LeO (cutroomlaw36_awake.f k ) (cutroomlaw36_awake.f (k + 1) ) := by
 intro  k
 have ih0 := cutroomlaw36_awake.mono_l k
 unfold cutroomlaw36_awake.f
 repeat' first
   | (with_reducible exact ih0 _ _ _ _)
   | (with_reducible exact media_Run.mono _ _ _ _)
   | (with_reducible exact media_Sum.mono _ _)
   | (with_reducible exact LeO.refl _)
   | (with_reducible exact LeO.none _)
   | (with_reducible refine LeO.ite ?_ ?_)
   | (with_reducible refine LeO.bind ?_ (fun _ => ?_))
   | exact ih0 _ _ _ _
   | exact media_Run.mono _ _ _ _
   | exact media_Sum.mono _ _
   | exact LeO.none _
   | refine LeO.ite ?_ ?_
   | refine LeO.bind ?_ (fun _ => ?_)
set_option maxHeartbeats 8000000 in
set_option maxRecDepth 100000 in
theorem cutroomlaw36_awake.calls (k : Nat)  (r : Bool) (w : World) (h : cutroomlaw36_awake.f k  = some r) :
  Calls Try.prog 11 #[] w fun e w' => e = .returned (.bool r) ∧ Below w.heap.size w w' := by
 have hu30 := Try.underlying30
 have hu45 := Try.underlying45
 have HB := Aside0.mk (Below.refl w.heap.size w)
 have H : ((media_Run.f k ([] : List (S37)) ([] : List (S39)) (([(⟨1, (⟨#[]⟩ : ByteArray), (⟨#[102]⟩ : ByteArray), (⟨#[]⟩ : ByteArray), 7⟩ : S45), (⟨3, (⟨#[97]⟩ : ByteArray), (⟨#[102]⟩ : ByteArray), (⟨#[]⟩ : ByteArray), 0⟩ : S45), (⟨2, (⟨#[]⟩ : ByteArray), (⟨#[102]⟩ : ByteArray), (⟨#[]⟩ : ByteArray), 0⟩ : S45), (⟨1, (⟨#[]⟩ : ByteArray), (⟨#[102]⟩ : ByteArray), (⟨#[]⟩ : ByteArray), 7⟩ : S45)] : List (S45)))).bind fun bt143 => (if (bt143.2.2.2.length : Int) = 4 then (cutroomlaw36_awake.j0 k bt143.2.2.1 ((bt143.2.2.1.length : Int) != 3) bt143.1 bt143.2.1) else (cutroomlaw36_awake.j0 k bt143.2.2.1 true bt143.1 bt143.2.1))) = some r := h
 clear h
 obtain ⟨y140, hy140⟩ : ∃ y_ : List (S45), y_ = (([(⟨1, (⟨#[]⟩ : ByteArray), (⟨#[102]⟩ : ByteArray), (⟨#[]⟩ : ByteArray), 7⟩ : S45), (⟨3, (⟨#[97]⟩ : ByteArray), (⟨#[102]⟩ : ByteArray), (⟨#[]⟩ : ByteArray), 0⟩ : S45), (⟨2, (⟨#[]⟩ : ByteArray), (⟨#[102]⟩ : ByteArray), (⟨#[]⟩ : ByteArray), 0⟩ : S45), (⟨1, (⟨#[]⟩ : ByteArray), (⟨#[102]⟩ : ByteArray), (⟨#[]⟩ : ByteArray), 7⟩ : S45)] : List (S45))) := ⟨_, rfl⟩
 replace H : ((media_Run.f k ([] : List (S37)) ([] : List (S39)) y140).bind fun bt143 => (if (bt143.2.2.2.length : Int) = 4 then (cutroomlaw36_awake.j0 k bt143.2.2.1 ((bt143.2.2.1.length : Int) != 3) bt143.1 bt143.2.1) else (cutroomlaw36_awake.j0 k bt143.2.2.1 true bt143.1 bt143.2.1))) = some r := by first | (rw [hy140]; with_reducible exact H) | (have H2_ := (Option.bind_some _ _).symm.trans H; rw [hy140]; with_reducible exact H2_) | (have H2_ := (Option.bind_some _ _).symm.trans H; with_reducible exact H2_) | with_reducible exact H | (rw [hy140]; exact H) | exact H
 have Ny140 := Aside0.mk hy140
 clear hy140
 replace H := Option.bind_eq_some_iff.mp H
 obtain ⟨⟨t143, t146, t149, t152⟩, A10, H⟩ := H
 replace H : (if (t152.length : Int) = 4 then (cutroomlaw36_awake.j0 k t149 ((t149.length : Int) != 3) t143 t146) else (cutroomlaw36_awake.j0 k t149 true t143 t146)) = some r := H
 have A1 := Aside0.mk A10
 clear A10
 have HC2 := Aside0.mk H
 clear H
 go_enter Try.func11, Try.ntmps11
 go_upto_region 2 with (first | ((with_reducible refine gate_dst (N := 10) rfl ?_); (try (refine gate_guard (by rfl) ?_; dsimp only)); refine Kd.R_lit k45 _ 45 ?hg (N := 10) ?hd (xs := ([(⟨1, (⟨#[]⟩ : ByteArray), (⟨#[102]⟩ : ByteArray), (⟨#[]⟩ : ByteArray), 7⟩ : S45), (⟨3, (⟨#[97]⟩ : ByteArray), (⟨#[102]⟩ : ByteArray), (⟨#[]⟩ : ByteArray), 0⟩ : S45), (⟨2, (⟨#[]⟩ : ByteArray), (⟨#[102]⟩ : ByteArray), (⟨#[]⟩ : ByteArray), 0⟩ : S45), (⟨1, (⟨#[]⟩ : ByteArray), (⟨#[102]⟩ : ByteArray), (⟨#[]⟩ : ByteArray), 7⟩ : S45)] : List (S45))) (inner := [.int .i64 1, .string (⟨#[]⟩ : ByteArray), .string (⟨#[102]⟩ : ByteArray), .string (⟨#[]⟩ : ByteArray), .int .u64 7, .int .i64 3, .string (⟨#[97]⟩ : ByteArray), .string (⟨#[102]⟩ : ByteArray), .string (⟨#[]⟩ : ByteArray), .int .u64 0, .int .i64 2, .string (⟨#[]⟩ : ByteArray), .string (⟨#[102]⟩ : ByteArray), .string (⟨#[]⟩ : ByteArray), .int .u64 0, .int .i64 1, .string (⟨#[]⟩ : ByteArray), .string (⟨#[102]⟩ : ByteArray), .string (⟨#[]⟩ : ByteArray), .int .u64 7]) (ok := fun _ => True) (okp := fun _ => True) ?hr ?hp (fun _ hk => hk) trivial (Below.refl _ _) (Nat.le_refl _) (by simp) ?_; (case hd => rfl); (case hg => rfl); (case hr => first | (go_simp; done) | (go_simp; rfl)); (case hp => exact (Reps.c5 (show Kd.M k45 _ _ _ (⟨1, (⟨#[]⟩ : ByteArray), (⟨#[102]⟩ : ByteArray), (⟨#[]⟩ : ByteArray), 7⟩ : S45) [.int .i64 1, .string (⟨#[]⟩ : ByteArray), .string (⟨#[102]⟩ : ByteArray), .string (⟨#[]⟩ : ByteArray), .int .u64 7] from (k45_mkM _ _ _ (⟨1, (⟨#[]⟩ : ByteArray), (⟨#[102]⟩ : ByteArray), (⟨#[]⟩ : ByteArray), 7⟩ : S45) )) (Reps.c5 (show Kd.M k45 _ _ _ (⟨3, (⟨#[97]⟩ : ByteArray), (⟨#[102]⟩ : ByteArray), (⟨#[]⟩ : ByteArray), 0⟩ : S45) [.int .i64 3, .string (⟨#[97]⟩ : ByteArray), .string (⟨#[102]⟩ : ByteArray), .string (⟨#[]⟩ : ByteArray), .int .u64 0] from (k45_mkM _ _ _ (⟨3, (⟨#[97]⟩ : ByteArray), (⟨#[102]⟩ : ByteArray), (⟨#[]⟩ : ByteArray), 0⟩ : S45) )) (Reps.c5 (show Kd.M k45 _ _ _ (⟨2, (⟨#[]⟩ : ByteArray), (⟨#[102]⟩ : ByteArray), (⟨#[]⟩ : ByteArray), 0⟩ : S45) [.int .i64 2, .string (⟨#[]⟩ : ByteArray), .string (⟨#[102]⟩ : ByteArray), .string (⟨#[]⟩ : ByteArray), .int .u64 0] from (k45_mkM _ _ _ (⟨2, (⟨#[]⟩ : ByteArray), (⟨#[102]⟩ : ByteArray), (⟨#[]⟩ : ByteArray), 0⟩ : S45) )) (Reps.c5 (show Kd.M k45 _ _ _ (⟨1, (⟨#[]⟩ : ByteArray), (⟨#[102]⟩ : ByteArray), (⟨#[]⟩ : ByteArray), 7⟩ : S45) [.int .i64 1, .string (⟨#[]⟩ : ByteArray), .string (⟨#[102]⟩ : ByteArray), .string (⟨#[]⟩ : ByteArray), .int .u64 7] from (k45_mkM _ _ _ (⟨1, (⟨#[]⟩ : ByteArray), (⟨#[102]⟩ : ByteArray), (⟨#[]⟩ : ByteArray), 7⟩ : S45) )) (Reps.none _ _)))))); intro v141 w3 ho4 hb hg_ hnew_; clear hg_ hnew_; (first | rw [← Ny140.out] at ho4 | (simp only [Int.reduceToNat] at ho4; rw [← Ny140.out] at ho4)); have HO142 := Aside0.mk (Kd.R_lower ho4 (below_size (kB))); replace HB := cB hb kB; clear hb ho4; obtain ⟨Ao5, co5, eo5⟩ := Kd.R_slice HO142.out; subst eo5) | ((with_reducible refine gate_callee (f := 22) rfl ?_); refine goesL_ (some 11) rfl rfl Try.func22 (by kernel_rfl) rfl #[.agg #[.slice none 0 0, .slice none 0 0], .slice Ao5 y140.length co5] rfl (by (try simp only [List.map_toArray, List.map_cons, List.map_nil]); first | done | rfl | (simp only [List.length_drop, List.length_take]; rfl)) ?_; (refine (media_Run.calls k _ _ ([] : List (S37)) _ _ ([] : List (S39)) _ _ y140 t143 t146 t149 t152 _ ?side1 ?side2 ?side3 ?side4 ?side5 ?side6 A1.out).mono ?_); (case side1 => exact Kd.C_nil _ _); (case side2 => exact Nat.le_refl _); (case side3 => exact Kd.C_nil _ _); (case side4 => exact Nat.le_refl _); (case side5 => repeat (first | exact (Kd.R_reads' HO142.out).2.2 | (with_reducible refine Kd.C_alloc ?_ _) | (with_reducible refine Kd.C_drewN ?_ _) | (with_reducible refine Kd.C_drew ?_))); (case side6 => exact (Kd.R_reads' HO142.out).2.1); rintro e w6 ⟨v144, v147, v150, v153, rfl, ho0, ho1, ho2, ho3, hb⟩; refine ⟨_, rfl, ?_⟩; have HO145 := Aside0.mk (Kd.R_lower ho0 (below_size (kB))); have HO148 := Aside0.mk (Kd.R_lower ho1 (below_size (kB))); have HO151 := Aside0.mk (Kd.R_lower ho2 (below_size (kB))); have HO154 := Aside0.mk (Kd.R_lower ho3 (below_size (kB))); replace HO142 := cr HO142 hb; replace HB := cB hb kB; (try clear hb); (try clear hb2); (try clear hk); (try clear hi); (try clear ho0); (try clear ho1); (try clear ho2); (try clear ho3)) | ((with_reducible refine gate_dst (N := 1) rfl ?_); (try (refine gate_guard (by rfl) ?_; dsimp only)); refine box_event ?hg (N := 1) ?hd (cs := #[.slice none 0 0, .slice none 0 0]) (t := 30) ?hr ?_; (case hd => rfl); (case hg => rfl); (case hr => first | (go_simp; done) | (go_simp; rfl)); intro gb155 hg w7 hbox hb; have BK155 := Aside0.mk (hbox); have GW155 := gw_ hg kB; have GE155 := gw_ hg kB; replace HO142 := cr HO142 hb; replace HO145 := cr HO145 hb; replace HO148 := cr HO148 hb; replace HO151 := cr HO151 hb; replace HO154 := cr HO154 hb; replace HB := cB hb kB; clear hb hbox hg; obtain ⟨Ao8, co8, eo8⟩ := Kd.R_slice HO145.out; subst eo8; have hcz9_0 : w7.cell? ⟨gb155, 0, none⟩ = some (.slice none 0 0) := (blk_cell BK155.out 0).trans rfl; have hcz9_1 : w7.cell? ⟨gb155, 1, none⟩ = some (.slice none 0 0) := (blk_cell BK155.out 1).trans rfl; have hfz9_0 := blk_frozen BK155.out 0; have hfz9_1 := blk_frozen BK155.out 1; obtain ⟨Ao10, co10, eo10⟩ := Kd.R_slice HO148.out; subst eo10))
 (try simp only [Act.put, List.setIfInBounds_toArray, List.set_cons_zero, List.set_cons_succ])
 go_cut [22] (fun v22 wc => ∃ (kq : Nat) (x22_1 : Bool), v22 = .bool x22_1 ∧ Aside0 (cutroomlaw36_awake.j0 kq t149 x22_1 t143 t146 = some r) ∧ Aside0 (kq ≤ k) ∧ Aside0 (Kd.R k61 61 wc w.heap.size (fun _ => True) v150 t149) ∧ Aside0 (Kd.R k37 37 wc w.heap.size (fun _ => True) (.slice Ao8 t143.length co8) t143) ∧ Aside0 (Kd.R k39 39 wc w.heap.size (fun _ => True) (.slice Ao10 t146.length co10) t146) ∧ Aside0 (wc.heap[gb155]? = some (.cells #[(.slice Ao8 t143.length co8), (.slice Ao10 t146.length co10)] 30 (0, 0))) ∧ Aside0 (Below w.heap.size w wc))
 case first =>
  have H := HC2.out
  clear HC2
  by_cases c11 : (t152.length : Int) = 4
  ·rw [if_pos c11] at H
   have c11b0 : ((t152.length : Int) == 4) = true := beq_iff_eq.mpr c11
   have c11b1 : ((t152.length : Int) != 4) = false := bne_eq_false_iff_eq.mpr c11
   clear c11
   (first | rw [c11b0] | (simp only [i64_w, i32_w]; rw [c11b0]) | skip)
   have H' := Aside0.mk H
   clear H
   obtain ⟨Ao12, co12, eo12⟩ := Kd.R_slice HO154.out
   subst eo12
   obtain ⟨Ao13, co13, eo13⟩ := Kd.R_slice HO151.out
   subst eo13
   go_wp2
   go_meet
   case rel => exact ⟨_, (((t149.length : Int) != 3)), (by first | rfl | (simp; done) | (simp [*]; done)), H', ⟨by first | omega | exact Nat.le_refl _⟩, ⟨by (with_reducible repeat (first | apply Kd.R_alloc | apply Kd.R_drewN | apply Kd.R_drew)); exact Kd.R_mono (Kd.R_far (p := ⟨gb155, 1, none⟩) (Kd.R_far (p := ⟨gb155, 0, none⟩) (Kd.R_types HO151.out BK155.out (by decide)) (fun _ hk => hk.2) (.slice Ao8 t143.length co8)) (fun _ hk => hk.2) (.slice Ao10 t146.length co10)) (fun _ hk => trivial)⟩, ⟨by (with_reducible repeat (first | apply Kd.R_alloc | apply Kd.R_drewN | apply Kd.R_drew)); exact Kd.R_mono (Kd.R_far (p := ⟨gb155, 1, none⟩) (Kd.R_far (p := ⟨gb155, 0, none⟩) (Kd.R_types HO145.out BK155.out (by decide)) (fun _ hk => hk.2) (.slice Ao8 t143.length co8)) (fun _ hk => hk.2) (.slice Ao10 t146.length co10)) (fun _ hk => trivial)⟩, ⟨by (with_reducible repeat (first | apply Kd.R_alloc | apply Kd.R_drewN | apply Kd.R_drew)); exact Kd.R_mono (Kd.R_far (p := ⟨gb155, 1, none⟩) (Kd.R_far (p := ⟨gb155, 0, none⟩) (Kd.R_types HO148.out BK155.out (by decide)) (fun _ hk => hk.2) (.slice Ao8 t143.length co8)) (fun _ hk => hk.2) (.slice Ao10 t146.length co10)) (fun _ hk => trivial)⟩, ⟨by (with_reducible repeat (first | refine blk_drewN ?_ _ | refine blk_drew ?_ | refine blk_alloc ?_ _)); refine blk_put (cs := #[.slice Ao8 t143.length co8, .slice none 0 0]) ?_ 1 _ rfl; (with_reducible repeat (first | refine blk_drewN ?_ _ | refine blk_drew ?_ | refine blk_alloc ?_ _)); refine blk_put (cs := #[.slice none 0 0, .slice none 0 0]) ?_ 0 _ rfl; (with_reducible repeat (first | refine blk_drewN ?_ _ | refine blk_drew ?_ | refine blk_alloc ?_ _)); exact BK155.out⟩, ⟨kB⟩⟩
  ·rw [if_neg c11] at H
   have c11b0 : ((t152.length : Int) == 4) = false := beq_eq_false_iff_ne.mpr c11
   have c11b1 : ((t152.length : Int) != 4) = true := bne_iff_ne.mpr c11
   (first | rw [c11b0] | (simp only [i64_w, i32_w]; rw [c11b0]) | skip)
   have H' := Aside0.mk H
   clear H
   obtain ⟨Ao14, co14, eo14⟩ := Kd.R_slice HO154.out
   subst eo14
   go_wp2
   go_meet
   case rel => exact ⟨_, (true), (by first | rfl | (simp; done) | (simp [*]; done)), H', ⟨by first | omega | exact Nat.le_refl _⟩, ⟨by (with_reducible repeat (first | apply Kd.R_alloc | apply Kd.R_drewN | apply Kd.R_drew)); exact Kd.R_mono (Kd.R_far (p := ⟨gb155, 1, none⟩) (Kd.R_far (p := ⟨gb155, 0, none⟩) (Kd.R_types HO151.out BK155.out (by decide)) (fun _ hk => hk.2) (.slice Ao8 t143.length co8)) (fun _ hk => hk.2) (.slice Ao10 t146.length co10)) (fun _ hk => trivial)⟩, ⟨by (with_reducible repeat (first | apply Kd.R_alloc | apply Kd.R_drewN | apply Kd.R_drew)); exact Kd.R_mono (Kd.R_far (p := ⟨gb155, 1, none⟩) (Kd.R_far (p := ⟨gb155, 0, none⟩) (Kd.R_types HO145.out BK155.out (by decide)) (fun _ hk => hk.2) (.slice Ao8 t143.length co8)) (fun _ hk => hk.2) (.slice Ao10 t146.length co10)) (fun _ hk => trivial)⟩, ⟨by (with_reducible repeat (first | apply Kd.R_alloc | apply Kd.R_drewN | apply Kd.R_drew)); exact Kd.R_mono (Kd.R_far (p := ⟨gb155, 1, none⟩) (Kd.R_far (p := ⟨gb155, 0, none⟩) (Kd.R_types HO148.out BK155.out (by decide)) (fun _ hk => hk.2) (.slice Ao8 t143.length co8)) (fun _ hk => hk.2) (.slice Ao10 t146.length co10)) (fun _ hk => trivial)⟩, ⟨by (with_reducible repeat (first | refine blk_drewN ?_ _ | refine blk_drew ?_ | refine blk_alloc ?_ _)); refine blk_put (cs := #[.slice Ao8 t143.length co8, .slice none 0 0]) ?_ 1 _ rfl; (with_reducible repeat (first | refine blk_drewN ?_ _ | refine blk_drew ?_ | refine blk_alloc ?_ _)); refine blk_put (cs := #[.slice none 0 0, .slice none 0 0]) ?_ 0 _ rfl; (with_reducible repeat (first | refine blk_drewN ?_ _ | refine blk_drew ?_ | refine blk_alloc ?_ _)); exact BK155.out⟩, ⟨kB⟩⟩
 case rest =>
  clear HC2
  try clear c1
  try clear c2
  try clear p2
  try clear c5
  try clear c11
  try clear c11b0
  try clear c11b1
  try clear hcz9_0
  try clear hcz9_1
  try clear hfz9_0
  try clear hfz9_1
  obtain ⟨kq, x22_1, rfl, HA, HJ1, HO_2, HO_156000, HO_156001, BK155, HB⟩ := hcut
  cases kq with
  | zero => exact absurd HA.out (by simp [cutroomlaw36_awake.j0])
  | succ kj1 =>
   have H := HA.out
   clear HA
   simp only [cutroomlaw36_awake.j0] at H
   by_cases c15 : x22_1 = true
   ·subst c15
    have H1 : (some false) = some r := by rw [if_pos rfl] at H; exact H
    clear H
    have H := H1
    clear H1
    obtain rfl := Option.some.inj H
    go_wp2
    go_ret
    exact ⟨by first | rfl | (simp [errW_none, errW_some] <;> rfl) | (simp [*, errW_none, errW_some] <;> rfl), kB⟩
   ·replace c15 := Bool.eq_false_iff.mpr c15
    subst c15
    have H1 : ((media_Sum.f kj1 ([] : List Int)).bind fun t156 => (if t156 = 14695981039346656037 then ((media_Status.f ([] : List (S37)) ([] : List (S39)) (⟨#[97]⟩ : ByteArray)).bind fun t157 => (if t157 = 0 then ((media_Status.f t143 t146 (⟨#[97]⟩ : ByteArray)).bind fun t158 => (if t158 = 1 then (if 0 < (t149.length : Int) then (if ((rd_T61 t149 0).f1) = 1 then (if 1 < (t149.length : Int) then (if ((rd_T61 t149 1).f1) = 3 then (if 2 < (t149.length : Int) then (some (((rd_T61 t149 2).f1) == 1)) else (none)) else (some false)) else (none)) else (some false)) else (none)) else (some false))) else (some false))) else (some false))) = some r := by rw [if_neg (show ¬ (false = true) by decide)] at H; exact H
    clear H
    have H := H1
    clear H1
    replace H := Option.bind_eq_some_iff.mp H
    obtain ⟨t156, A160, H⟩ := H
    replace H : (if t156 = 14695981039346656037 then ((media_Status.f ([] : List (S37)) ([] : List (S39)) (⟨#[97]⟩ : ByteArray)).bind fun t157 => (if t157 = 0 then ((media_Status.f t143 t146 (⟨#[97]⟩ : ByteArray)).bind fun t158 => (if t158 = 1 then (if 0 < (t149.length : Int) then (if ((rd_T61 t149 0).f1) = 1 then (if 1 < (t149.length : Int) then (if ((rd_T61 t149 1).f1) = 3 then (if 2 < (t149.length : Int) then (some (((rd_T61 t149 2).f1) == 1)) else (none)) else (some false)) else (none)) else (some false)) else (none)) else (some false))) else (some false))) else (some false)) = some r := H
    have A16 := Aside0.mk A160
    clear A160
    by_cases c17 : t156 = 14695981039346656037
    ·rw [if_pos c17] at H
     have c17b0 : (t156 == 14695981039346656037) = true := beq_iff_eq.mpr c17
     have c17b1 : (t156 != 14695981039346656037) = false := bne_eq_false_iff_eq.mpr c17
     clear c17
     replace H := Option.bind_eq_some_iff.mp H
     obtain ⟨t157, A180, H⟩ := H
     replace H : (if t157 = 0 then ((media_Status.f t143 t146 (⟨#[97]⟩ : ByteArray)).bind fun t158 => (if t158 = 1 then (if 0 < (t149.length : Int) then (if ((rd_T61 t149 0).f1) = 1 then (if 1 < (t149.length : Int) then (if ((rd_T61 t149 1).f1) = 3 then (if 2 < (t149.length : Int) then (some (((rd_T61 t149 2).f1) == 1)) else (none)) else (some false)) else (none)) else (some false)) else (none)) else (some false))) else (some false)) = some r := H
     have A18 := Aside0.mk A180
     clear A180
     by_cases c19 : t157 = 0
     ·rw [if_pos c19] at H
      have c19b0 : (t157 == 0) = true := beq_iff_eq.mpr c19
      have c19b1 : (t157 != 0) = false := bne_eq_false_iff_eq.mpr c19
      clear c19
      replace H := Option.bind_eq_some_iff.mp H
      obtain ⟨t158, A200, H⟩ := H
      replace H : (if t158 = 1 then (if 0 < (t149.length : Int) then (if ((rd_T61 t149 0).f1) = 1 then (if 1 < (t149.length : Int) then (if ((rd_T61 t149 1).f1) = 3 then (if 2 < (t149.length : Int) then (some (((rd_T61 t149 2).f1) == 1)) else (none)) else (some false)) else (none)) else (some false)) else (none)) else (some false)) = some r := H
      have A20 := Aside0.mk A200
      clear A200
      by_cases c21 : t158 = 1
      ·rw [if_pos c21] at H
       have c21b0 : (t158 == 1) = true := beq_iff_eq.mpr c21
       have c21b1 : (t158 != 1) = false := bne_eq_false_iff_eq.mpr c21
       clear c21
       by_cases c22 : 0 < (t149.length : Int)
       ·rw [if_pos c22] at H
        have c22b0 : decide (0 < (t149.length : Int)) = true := decide_eq_true c22
        have c22b1 : decide (0 < t149.length) = true := decide_eq_true (by omega)
        clear c22
        by_cases c23 : ((rd_T61 t149 0).f1) = 1
        ·rw [if_pos c23] at H
         have c23b0 : (((rd_T61 t149 0).f1) == 1) = true := beq_iff_eq.mpr c23
         have c23b1 : (((rd_T61 t149 0).f1) != 1) = false := bne_eq_false_iff_eq.mpr c23
         clear c23
         by_cases c24 : 1 < (t149.length : Int)
         ·rw [if_pos c24] at H
          have c24b0 : decide (1 < (t149.length : Int)) = true := decide_eq_true c24
          have c24b1 : decide (1 < t149.length) = true := decide_eq_true (by omega)
          clear c24
          by_cases c25 : ((rd_T61 t149 1).f1) = 3
          ·rw [if_pos c25] at H
           have c25b0 : (((rd_T61 t149 1).f1) == 3) = true := beq_iff_eq.mpr c25
           have c25b1 : (((rd_T61 t149 1).f1) != 3) = false := bne_eq_false_iff_eq.mpr c25
           clear c25
           by_cases c26 : 2 < (t149.length : Int)
           ·rw [if_pos c26] at H
            have c26b0 : decide (2 < (t149.length : Int)) = true := decide_eq_true c26
            have c26b1 : decide (2 < t149.length) = true := decide_eq_true (by omega)
            clear c26
            obtain rfl := Option.some.inj H
            go_wp2_with (first | ((with_reducible refine gate_callee (f := 9) rfl ?_); refine goesL_ (some 23) rfl rfl Try.func9 (by kernel_rfl) rfl #[.slice none 0 0] rfl (by (try simp only [List.map_toArray, List.map_cons, List.map_nil]); first | done | rfl | (simp only [List.length_drop, List.length_take]; rfl)) ?_; (refine (media_Sum.calls kj1 _ _ ([] : List Int) t156 _ ?side1 ?side2 A16.out).mono ?_); (case side1 => exact Kd.C_nil _ _); (case side2 => exact Nat.le_refl _); rintro e w' ⟨rfl, ⟨nd, rfl⟩⟩; refine ⟨_, rfl, ?_⟩) | (go_at_call 15; (with_reducible refine (media_Status.calls _ _ t143 _ _ t146 (⟨#[97]⟩ : ByteArray) t158 _ ?side1 ?side2 ?side3 ?side4 A20.out).mono ?_); (case side1 => repeat (first | exact (Kd.R_reads' HO_156000.out).2.2 | (with_reducible refine Kd.C_alloc ?_ _) | (with_reducible refine Kd.C_drewN ?_ _) | (with_reducible refine Kd.C_drew ?_))); (case side2 => exact (Kd.R_reads' HO_156000.out).2.1); (case side3 => repeat (first | exact (Kd.R_reads' HO_156001.out).2.2 | (with_reducible refine Kd.C_alloc ?_ _) | (with_reducible refine Kd.C_drewN ?_ _) | (with_reducible refine Kd.C_drew ?_))); (case side4 => exact (Kd.R_reads' HO_156001.out).2.1); rintro e w29 ⟨rfl, hb⟩; replace HO_2 := cr HO_2 hb; replace HO_156000 := cr HO_156000 hb; replace HO_156001 := cr HO_156001 hb; replace BK155 := cb BK155 hb; replace HB := cB hb kB; (try clear hb); (try clear hb2); (try clear hk); (try clear hi); obtain ⟨Ao30, co30, eo30⟩ := Kd.R_slice HO_2.out; subst eo30; have p159 : 0 ≤ (0 : Int) := (by omega); have q159 : 0 < (t149.length : Int) := of_decide_eq_true (by first | (with_reducible assumption) | assumption); obtain ⟨ad159, e159, hx159_0, hx159_1⟩ := at_T61 (Kd.R_reads' HO_2.out).2.2 0 p159 q159; cases e159; have qi159 : (0 < t149.length) = True := eq_true (by omega); (try rw [show ((0 : Int)).toNat = 0 from rfl] at hx159_0); (try rw [show 0 * 2 = 0 from rfl] at hx159_0); (try rw [Addr.add_zero'] at hx159_0); (try rw [show ((0 : Int)).toNat = 0 from rfl] at hx159_1); (try rw [show 0 * 2 = 0 from rfl] at hx159_1); (try rw [Addr.add_zero'] at hx159_1); replace p159 := eq_true p159; replace q159 := eq_true q159; have p160 : 0 ≤ (1 : Int) := (by omega); have q160 : 1 < (t149.length : Int) := of_decide_eq_true (by first | (with_reducible assumption) | assumption); obtain ⟨ad160, e160, hx160_0, hx160_1⟩ := at_T61 (Kd.R_reads' HO_2.out).2.2 1 p160 q160; obtain rfl : ad159 = ad160 := (by injection e160); (try simp only [show (1 : Int).toNat = 1 from rfl, Nat.reduceMul, Nat.reduceEqDiff, Go.Addr.add, ↓reduceIte] at hx160_0); (try simp only [show (1 : Int).toNat = 1 from rfl, Nat.reduceMul, Nat.reduceEqDiff, Go.Addr.add, ↓reduceIte] at hx160_1); have qi160 : (1 < t149.length) = True := eq_true (by omega); (try rw [show ((1 : Int)).toNat = 1 from rfl] at hx160_0); (try rw [show 1 * 2 = 2 from rfl] at hx160_0); (try rw [show ((1 : Int)).toNat = 1 from rfl] at hx160_1); (try rw [show 1 * 2 = 2 from rfl] at hx160_1); replace p160 := eq_true p160; replace q160 := eq_true q160; have p161 : 0 ≤ (2 : Int) := (by omega); have q161 : 2 < (t149.length : Int) := of_decide_eq_true (by first | (with_reducible assumption) | assumption); obtain ⟨ad161, e161, hx161_0, hx161_1⟩ := at_T61 (Kd.R_reads' HO_2.out).2.2 2 p161 q161; obtain rfl : ad159 = ad161 := (by injection e161); (try simp only [show (2 : Int).toNat = 2 from rfl, Nat.reduceMul, Nat.reduceEqDiff, Go.Addr.add, ↓reduceIte] at hx161_0); (try simp only [show (2 : Int).toNat = 2 from rfl, Nat.reduceMul, Nat.reduceEqDiff, Go.Addr.add, ↓reduceIte] at hx161_1); have qi161 : (2 < t149.length) = True := eq_true (by omega); (try rw [show ((2 : Int)).toNat = 2 from rfl] at hx161_0); (try rw [show 2 * 2 = 4 from rfl] at hx161_0); (try rw [show ((2 : Int)).toNat = 2 from rfl] at hx161_1); (try rw [show 2 * 2 = 4 from rfl] at hx161_1); replace p161 := eq_true p161; replace q161 := eq_true q161) | (go_at_call 15; (refine (media_Status.calls _ _ ([] : List (S37)) _ _ ([] : List (S39)) (⟨#[97]⟩ : ByteArray) t157 _ ?side1 ?side2 ?side3 ?side4 A18.out).mono ?_); (case side1 => exact Kd.C_nil _ _); (case side2 => exact Nat.le_refl _); (case side3 => exact Kd.C_nil _ _); (case side4 => exact Nat.le_refl _); rintro e w27 ⟨rfl, hb⟩; replace HO_2 := cr HO_2 hb; replace HO_156000 := cr HO_156000 hb; replace HO_156001 := cr HO_156001 hb; replace BK155 := cb BK155 hb; replace HB := cB hb kB; (try clear hb); (try clear hb2); (try clear hk); (try clear hi); have hcz28_0 : w27.cell? ⟨gb155, 0, none⟩ = some (.slice Ao8 t143.length co8) := (blk_cell BK155.out 0).trans rfl; have hcz28_1 : w27.cell? ⟨gb155, 1, none⟩ = some (.slice Ao10 t146.length co10) := (blk_cell BK155.out 1).trans rfl; have hfz28_0 := blk_frozen BK155.out 0; have hfz28_1 := blk_frozen BK155.out 1))
            go_ret
            exact ⟨by first | rfl | (simp [errW_none, errW_some] <;> rfl) | (simp [*, errW_none, errW_some] <;> rfl), kB⟩
           ·rw [if_neg c26] at H
            exact absurd H (by simp)
          ·rw [if_neg c25] at H
           have c25b0 : (((rd_T61 t149 1).f1) == 3) = false := beq_eq_false_iff_ne.mpr c25
           have c25b1 : (((rd_T61 t149 1).f1) != 3) = true := bne_iff_ne.mpr c25
           obtain rfl := Option.some.inj H
           go_wp2_with (first | ((with_reducible refine gate_callee (f := 9) rfl ?_); refine goesL_ (some 23) rfl rfl Try.func9 (by kernel_rfl) rfl #[.slice none 0 0] rfl (by (try simp only [List.map_toArray, List.map_cons, List.map_nil]); first | done | rfl | (simp only [List.length_drop, List.length_take]; rfl)) ?_; (refine (media_Sum.calls kj1 _ _ ([] : List Int) t156 _ ?side1 ?side2 A16.out).mono ?_); (case side1 => exact Kd.C_nil _ _); (case side2 => exact Nat.le_refl _); rintro e w' ⟨rfl, ⟨nd, rfl⟩⟩; refine ⟨_, rfl, ?_⟩) | (go_at_call 15; (with_reducible refine (media_Status.calls _ _ t143 _ _ t146 (⟨#[97]⟩ : ByteArray) t158 _ ?side1 ?side2 ?side3 ?side4 A20.out).mono ?_); (case side1 => repeat (first | exact (Kd.R_reads' HO_156000.out).2.2 | (with_reducible refine Kd.C_alloc ?_ _) | (with_reducible refine Kd.C_drewN ?_ _) | (with_reducible refine Kd.C_drew ?_))); (case side2 => exact (Kd.R_reads' HO_156000.out).2.1); (case side3 => repeat (first | exact (Kd.R_reads' HO_156001.out).2.2 | (with_reducible refine Kd.C_alloc ?_ _) | (with_reducible refine Kd.C_drewN ?_ _) | (with_reducible refine Kd.C_drew ?_))); (case side4 => exact (Kd.R_reads' HO_156001.out).2.1); rintro e w33 ⟨rfl, hb⟩; replace HO_2 := cr HO_2 hb; replace HO_156000 := cr HO_156000 hb; replace HO_156001 := cr HO_156001 hb; replace BK155 := cb BK155 hb; replace HB := cB hb kB; (try clear hb); (try clear hb2); (try clear hk); (try clear hi); obtain ⟨Ao34, co34, eo34⟩ := Kd.R_slice HO_2.out; subst eo34; have p159 : 0 ≤ (0 : Int) := (by omega); have q159 : 0 < (t149.length : Int) := of_decide_eq_true (by first | (with_reducible assumption) | assumption); obtain ⟨ad159, e159, hx159_0, hx159_1⟩ := at_T61 (Kd.R_reads' HO_2.out).2.2 0 p159 q159; cases e159; have qi159 : (0 < t149.length) = True := eq_true (by omega); (try rw [show ((0 : Int)).toNat = 0 from rfl] at hx159_0); (try rw [show 0 * 2 = 0 from rfl] at hx159_0); (try rw [Addr.add_zero'] at hx159_0); (try rw [show ((0 : Int)).toNat = 0 from rfl] at hx159_1); (try rw [show 0 * 2 = 0 from rfl] at hx159_1); (try rw [Addr.add_zero'] at hx159_1); replace p159 := eq_true p159; replace q159 := eq_true q159; have p160 : 0 ≤ (1 : Int) := (by omega); have q160 : 1 < (t149.length : Int) := of_decide_eq_true (by first | (with_reducible assumption) | assumption); obtain ⟨ad160, e160, hx160_0, hx160_1⟩ := at_T61 (Kd.R_reads' HO_2.out).2.2 1 p160 q160; obtain rfl : ad159 = ad160 := (by injection e160); (try simp only [show (1 : Int).toNat = 1 from rfl, Nat.reduceMul, Nat.reduceEqDiff, Go.Addr.add, ↓reduceIte] at hx160_0); (try simp only [show (1 : Int).toNat = 1 from rfl, Nat.reduceMul, Nat.reduceEqDiff, Go.Addr.add, ↓reduceIte] at hx160_1); have qi160 : (1 < t149.length) = True := eq_true (by omega); (try rw [show ((1 : Int)).toNat = 1 from rfl] at hx160_0); (try rw [show 1 * 2 = 2 from rfl] at hx160_0); (try rw [show ((1 : Int)).toNat = 1 from rfl] at hx160_1); (try rw [show 1 * 2 = 2 from rfl] at hx160_1); replace p160 := eq_true p160; replace q160 := eq_true q160) | (go_at_call 15; (refine (media_Status.calls _ _ ([] : List (S37)) _ _ ([] : List (S39)) (⟨#[97]⟩ : ByteArray) t157 _ ?side1 ?side2 ?side3 ?side4 A18.out).mono ?_); (case side1 => exact Kd.C_nil _ _); (case side2 => exact Nat.le_refl _); (case side3 => exact Kd.C_nil _ _); (case side4 => exact Nat.le_refl _); rintro e w31 ⟨rfl, hb⟩; replace HO_2 := cr HO_2 hb; replace HO_156000 := cr HO_156000 hb; replace HO_156001 := cr HO_156001 hb; replace BK155 := cb BK155 hb; replace HB := cB hb kB; (try clear hb); (try clear hb2); (try clear hk); (try clear hi); have hcz32_0 : w31.cell? ⟨gb155, 0, none⟩ = some (.slice Ao8 t143.length co8) := (blk_cell BK155.out 0).trans rfl; have hcz32_1 : w31.cell? ⟨gb155, 1, none⟩ = some (.slice Ao10 t146.length co10) := (blk_cell BK155.out 1).trans rfl; have hfz32_0 := blk_frozen BK155.out 0; have hfz32_1 := blk_frozen BK155.out 1))
           go_ret
           exact ⟨by first | rfl | (simp [errW_none, errW_some] <;> rfl) | (simp [*, errW_none, errW_some] <;> rfl), kB⟩
         ·rw [if_neg c24] at H
          exact absurd H (by simp)
        ·rw [if_neg c23] at H
         have c23b0 : (((rd_T61 t149 0).f1) == 1) = false := beq_eq_false_iff_ne.mpr c23
         have c23b1 : (((rd_T61 t149 0).f1) != 1) = true := bne_iff_ne.mpr c23
         obtain rfl := Option.some.inj H
         go_wp2_with (first | ((with_reducible refine gate_callee (f := 9) rfl ?_); refine goesL_ (some 23) rfl rfl Try.func9 (by kernel_rfl) rfl #[.slice none 0 0] rfl (by (try simp only [List.map_toArray, List.map_cons, List.map_nil]); first | done | rfl | (simp only [List.length_drop, List.length_take]; rfl)) ?_; (refine (media_Sum.calls kj1 _ _ ([] : List Int) t156 _ ?side1 ?side2 A16.out).mono ?_); (case side1 => exact Kd.C_nil _ _); (case side2 => exact Nat.le_refl _); rintro e w' ⟨rfl, ⟨nd, rfl⟩⟩; refine ⟨_, rfl, ?_⟩) | (go_at_call 15; (with_reducible refine (media_Status.calls _ _ t143 _ _ t146 (⟨#[97]⟩ : ByteArray) t158 _ ?side1 ?side2 ?side3 ?side4 A20.out).mono ?_); (case side1 => repeat (first | exact (Kd.R_reads' HO_156000.out).2.2 | (with_reducible refine Kd.C_alloc ?_ _) | (with_reducible refine Kd.C_drewN ?_ _) | (with_reducible refine Kd.C_drew ?_))); (case side2 => exact (Kd.R_reads' HO_156000.out).2.1); (case side3 => repeat (first | exact (Kd.R_reads' HO_156001.out).2.2 | (with_reducible refine Kd.C_alloc ?_ _) | (with_reducible refine Kd.C_drewN ?_ _) | (with_reducible refine Kd.C_drew ?_))); (case side4 => exact (Kd.R_reads' HO_156001.out).2.1); rintro e w37 ⟨rfl, hb⟩; replace HO_2 := cr HO_2 hb; replace HO_156000 := cr HO_156000 hb; replace HO_156001 := cr HO_156001 hb; replace BK155 := cb BK155 hb; replace HB := cB hb kB; (try clear hb); (try clear hb2); (try clear hk); (try clear hi); obtain ⟨Ao38, co38, eo38⟩ := Kd.R_slice HO_2.out; subst eo38; have p159 : 0 ≤ (0 : Int) := (by omega); have q159 : 0 < (t149.length : Int) := of_decide_eq_true (by first | (with_reducible assumption) | assumption); obtain ⟨ad159, e159, hx159_0, hx159_1⟩ := at_T61 (Kd.R_reads' HO_2.out).2.2 0 p159 q159; cases e159; have qi159 : (0 < t149.length) = True := eq_true (by omega); (try rw [show ((0 : Int)).toNat = 0 from rfl] at hx159_0); (try rw [show 0 * 2 = 0 from rfl] at hx159_0); (try rw [Addr.add_zero'] at hx159_0); (try rw [show ((0 : Int)).toNat = 0 from rfl] at hx159_1); (try rw [show 0 * 2 = 0 from rfl] at hx159_1); (try rw [Addr.add_zero'] at hx159_1); replace p159 := eq_true p159; replace q159 := eq_true q159) | (go_at_call 15; (refine (media_Status.calls _ _ ([] : List (S37)) _ _ ([] : List (S39)) (⟨#[97]⟩ : ByteArray) t157 _ ?side1 ?side2 ?side3 ?side4 A18.out).mono ?_); (case side1 => exact Kd.C_nil _ _); (case side2 => exact Nat.le_refl _); (case side3 => exact Kd.C_nil _ _); (case side4 => exact Nat.le_refl _); rintro e w35 ⟨rfl, hb⟩; replace HO_2 := cr HO_2 hb; replace HO_156000 := cr HO_156000 hb; replace HO_156001 := cr HO_156001 hb; replace BK155 := cb BK155 hb; replace HB := cB hb kB; (try clear hb); (try clear hb2); (try clear hk); (try clear hi); have hcz36_0 : w35.cell? ⟨gb155, 0, none⟩ = some (.slice Ao8 t143.length co8) := (blk_cell BK155.out 0).trans rfl; have hcz36_1 : w35.cell? ⟨gb155, 1, none⟩ = some (.slice Ao10 t146.length co10) := (blk_cell BK155.out 1).trans rfl; have hfz36_0 := blk_frozen BK155.out 0; have hfz36_1 := blk_frozen BK155.out 1))
         go_ret
         exact ⟨by first | rfl | (simp [errW_none, errW_some] <;> rfl) | (simp [*, errW_none, errW_some] <;> rfl), kB⟩
       ·rw [if_neg c22] at H
        exact absurd H (by simp)
      ·rw [if_neg c21] at H
       have c21b0 : (t158 == 1) = false := beq_eq_false_iff_ne.mpr c21
       have c21b1 : (t158 != 1) = true := bne_iff_ne.mpr c21
       obtain rfl := Option.some.inj H
       go_wp2_with (first | ((with_reducible refine gate_callee (f := 9) rfl ?_); refine goesL_ (some 23) rfl rfl Try.func9 (by kernel_rfl) rfl #[.slice none 0 0] rfl (by (try simp only [List.map_toArray, List.map_cons, List.map_nil]); first | done | rfl | (simp only [List.length_drop, List.length_take]; rfl)) ?_; (refine (media_Sum.calls kj1 _ _ ([] : List Int) t156 _ ?side1 ?side2 A16.out).mono ?_); (case side1 => exact Kd.C_nil _ _); (case side2 => exact Nat.le_refl _); rintro e w' ⟨rfl, ⟨nd, rfl⟩⟩; refine ⟨_, rfl, ?_⟩) | (go_at_call 15; (with_reducible refine (media_Status.calls _ _ t143 _ _ t146 (⟨#[97]⟩ : ByteArray) t158 _ ?side1 ?side2 ?side3 ?side4 A20.out).mono ?_); (case side1 => repeat (first | exact (Kd.R_reads' HO_156000.out).2.2 | (with_reducible refine Kd.C_alloc ?_ _) | (with_reducible refine Kd.C_drewN ?_ _) | (with_reducible refine Kd.C_drew ?_))); (case side2 => exact (Kd.R_reads' HO_156000.out).2.1); (case side3 => repeat (first | exact (Kd.R_reads' HO_156001.out).2.2 | (with_reducible refine Kd.C_alloc ?_ _) | (with_reducible refine Kd.C_drewN ?_ _) | (with_reducible refine Kd.C_drew ?_))); (case side4 => exact (Kd.R_reads' HO_156001.out).2.1); rintro e w41 ⟨rfl, hb⟩; replace HO_2 := cr HO_2 hb; replace HO_156000 := cr HO_156000 hb; replace HO_156001 := cr HO_156001 hb; replace BK155 := cb BK155 hb; replace HB := cB hb kB; (try clear hb); (try clear hb2); (try clear hk); (try clear hi)) | (go_at_call 15; (refine (media_Status.calls _ _ ([] : List (S37)) _ _ ([] : List (S39)) (⟨#[97]⟩ : ByteArray) t157 _ ?side1 ?side2 ?side3 ?side4 A18.out).mono ?_); (case side1 => exact Kd.C_nil _ _); (case side2 => exact Nat.le_refl _); (case side3 => exact Kd.C_nil _ _); (case side4 => exact Nat.le_refl _); rintro e w39 ⟨rfl, hb⟩; replace HO_2 := cr HO_2 hb; replace HO_156000 := cr HO_156000 hb; replace HO_156001 := cr HO_156001 hb; replace BK155 := cb BK155 hb; replace HB := cB hb kB; (try clear hb); (try clear hb2); (try clear hk); (try clear hi); have hcz40_0 : w39.cell? ⟨gb155, 0, none⟩ = some (.slice Ao8 t143.length co8) := (blk_cell BK155.out 0).trans rfl; have hcz40_1 : w39.cell? ⟨gb155, 1, none⟩ = some (.slice Ao10 t146.length co10) := (blk_cell BK155.out 1).trans rfl; have hfz40_0 := blk_frozen BK155.out 0; have hfz40_1 := blk_frozen BK155.out 1))
       go_ret
       exact ⟨by first | rfl | (simp [errW_none, errW_some] <;> rfl) | (simp [*, errW_none, errW_some] <;> rfl), kB⟩
     ·rw [if_neg c19] at H
      have c19b0 : (t157 == 0) = false := beq_eq_false_iff_ne.mpr c19
      have c19b1 : (t157 != 0) = true := bne_iff_ne.mpr c19
      obtain rfl := Option.some.inj H
      go_wp2_with (first | ((with_reducible refine gate_callee (f := 9) rfl ?_); refine goesL_ (some 23) rfl rfl Try.func9 (by kernel_rfl) rfl #[.slice none 0 0] rfl (by (try simp only [List.map_toArray, List.map_cons, List.map_nil]); first | done | rfl | (simp only [List.length_drop, List.length_take]; rfl)) ?_; (refine (media_Sum.calls kj1 _ _ ([] : List Int) t156 _ ?side1 ?side2 A16.out).mono ?_); (case side1 => exact Kd.C_nil _ _); (case side2 => exact Nat.le_refl _); rintro e w' ⟨rfl, ⟨nd, rfl⟩⟩; refine ⟨_, rfl, ?_⟩) | (go_at_call 15; (refine (media_Status.calls _ _ ([] : List (S37)) _ _ ([] : List (S39)) (⟨#[97]⟩ : ByteArray) t157 _ ?side1 ?side2 ?side3 ?side4 A18.out).mono ?_); (case side1 => exact Kd.C_nil _ _); (case side2 => exact Nat.le_refl _); (case side3 => exact Kd.C_nil _ _); (case side4 => exact Nat.le_refl _); rintro e w42 ⟨rfl, hb⟩; replace HO_2 := cr HO_2 hb; replace HO_156000 := cr HO_156000 hb; replace HO_156001 := cr HO_156001 hb; replace BK155 := cb BK155 hb; replace HB := cB hb kB; (try clear hb); (try clear hb2); (try clear hk); (try clear hi)))
      go_ret
      exact ⟨by first | rfl | (simp [errW_none, errW_some] <;> rfl) | (simp [*, errW_none, errW_some] <;> rfl), kB⟩
    ·rw [if_neg c17] at H
     have c17b0 : (t156 == 14695981039346656037) = false := beq_eq_false_iff_ne.mpr c17
     have c17b1 : (t156 != 14695981039346656037) = true := bne_iff_ne.mpr c17
     obtain rfl := Option.some.inj H
     go_wp2_with (first | ((with_reducible refine gate_callee (f := 9) rfl ?_); refine goesL_ (some 23) rfl rfl Try.func9 (by kernel_rfl) rfl #[.slice none 0 0] rfl (by (try simp only [List.map_toArray, List.map_cons, List.map_nil]); first | done | rfl | (simp only [List.length_drop, List.length_take]; rfl)) ?_; (refine (media_Sum.calls kj1 _ _ ([] : List Int) t156 _ ?side1 ?side2 A16.out).mono ?_); (case side1 => exact Kd.C_nil _ _); (case side2 => exact Nat.le_refl _); rintro e w' ⟨rfl, ⟨nd, rfl⟩⟩; refine ⟨_, rfl, ?_⟩))
     go_ret
     exact ⟨by first | rfl | (simp [errW_none, errW_some] <;> rfl) | (simp [*, errW_none, errW_some] <;> rfl), kB⟩
def IsS65 (w0 W : World) (g : Nat) (f0 : List Int) (f1 : Int) : Prop := ∃ A0 c0, W.heap[g]? = some (.cells #[.slice A0 f0.length c0, .int .i64 f1] 65 (0, 0)) ∧ w0.heap.size ≤ g ∧ Kd.C (Kd.int .i64) w0 A0 f0.length f0
theorem IsS65.grown {w0 W : World} {g : Nat} {f0 : List Int} {f1 : Int} {W1 : World} {row : Option Nat} (h : IsS65 w0 W g f0 f1) (hw : W.grownBy W1 row) (hne : some g ≠ row) : IsS65 w0 W1 g f0 f1 := by
 obtain ⟨A0, c0, hb, hg, hr0⟩ := h
 exact ⟨A0, c0, blk_grown hb hw hne, hg, hr0⟩
theorem IsS65.kept {w0 W : World} {g : Nat} {f0 : List Int} {f1 : Int} {W1 : World} {S : Nat → Prop} (h : IsS65 w0 W g f0 f1) (hk : Kept W W1 S) (hne : ¬ S g) : IsS65 w0 W1 g f0 f1 := by
 obtain ⟨A0, c0, hb, hg, hr0⟩ := h
 exact ⟨A0, c0, blk_kept hb hk hne, hg, hr0⟩
theorem IsS65.below {w0 W : World} {g : Nat} {f0 : List Int} {f1 : Int} {W1 : World} (h : IsS65 w0 W g f0 f1) (hw : Below W.heap.size W W1) : IsS65 w0 W1 g f0 f1 := h.grown (grown_of_below hw none) (by simp)
theorem IsS65.alloc {w0 W : World} {g : Nat} {f0 : List Int} {f1 : Int} (h : IsS65 w0 W g f0 f1) (o : Obj) : IsS65 w0 (W.alloc o) g f0 f1 := h.below (below_alloc (Below.refl _ _) o)
theorem IsS65.drewN {w0 W : World} {g : Nat} {f0 : List Int} {f1 : Int} (h : IsS65 w0 W g f0 f1) (m : Nat) : IsS65 w0 (W.drewN m) g f0 f1 := h
theorem IsS65.drew {w0 W : World} {g : Nat} {f0 : List Int} {f1 : Int} (h : IsS65 w0 W g f0 f1) : IsS65 w0 W.drew g f0 f1 := h
theorem IsS65.at_ {w0 W : World} {g : Nat} {f0 : List Int} {f1 : Int} {w' : World} {m : Nat} (hq : W.drewN m = w') (h : IsS65 w0 W g f0 f1) : IsS65 w0 w' g f0 f1 := by subst hq; exact IsS65.drewN h m
theorem IsS65.apart {w0 W : World} {g : Nat} {f0 : List Int} {f1 : Int} {α : Type} {d : Kd α} {e : Nat} {base : Nat} {ok : Nat → Prop} {v : Value} {xs : List α} (h : IsS65 w0 W g f0 f1) (ho : d.R e W base ok v xs) (ht : ∀ q, q ∈ e :: d.E → q ≠ 65) : d.R e W base (fun k => ok k ∧ k ≠ g) v xs := by
 obtain ⟨A0, c0, hb, hg, hr0⟩ := h
 exact Kd.R_types ho hb ht
theorem IsS65.own_ne {w0 W : World} {g : Nat} {f0 : List Int} {f1 : Int} {α : Type} {d : Kd α} {e : Nat} {base : Nat} {ok : Nat → Prop} {v : Value} {xs : List α} (h : IsS65 w0 W g f0 f1) (ho : d.R e W base ok v xs) (ht : e ≠ 65) : some g ≠ v.ownBlock := by
 obtain ⟨A0, c0, hb, hg, hr0⟩ := h
 exact Kd.R_ne ho hb ht
theorem IsS65.lt {w0 W : World} {g : Nat} {f0 : List Int} {f1 : Int} (h : IsS65 w0 W g f0 f1) : g < W.heap.size := by
 obtain ⟨A0, c0, hb, hg, hr0⟩ := h
 exact blk_lt hb
theorem IsS65.ge {w0 W : World} {g : Nat} {f0 : List Int} {f1 : Int} (h : IsS65 w0 W g f0 f1) : w0.heap.size ≤ g := by
 obtain ⟨A0, c0, hb, hg, hr0⟩ := h
 exact hg
theorem IsS65.far {w0 W : World} {g : Nat} {f0 : List Int} {f1 : Int} {p : Addr} (h : IsS65 w0 W g f0 f1) (hne : g ≠ p.block) (u : Value) : IsS65 w0 (W.setCell p u) g f0 f1 := by
 obtain ⟨A0, c0, hb, hg, hr0⟩ := h
 exact ⟨A0, c0, blk_far hb hne u, hg, hr0⟩
theorem cellS65_0 {W : World} {g : Nat} {A0 : Option Addr} {c0 : Nat} {f0 : List Int} {f1 : Int} (h : W.heap[g]? = some (.cells #[.slice A0 f0.length c0, .int .i64 f1] 65 (0, 0))) : W.cell? ⟨g, 0, none⟩ = some (.slice A0 f0.length c0) := (blk_cell h 0).trans rfl
theorem cellS65_1 {W : World} {g : Nat} {A0 : Option Addr} {c0 : Nat} {f0 : List Int} {f1 : Int} (h : W.heap[g]? = some (.cells #[.slice A0 f0.length c0, .int .i64 f1] 65 (0, 0))) : W.cell? ⟨g, 1, none⟩ = some (.int .i64 f1) := (blk_cell h 1).trans rfl
theorem IsS65.set_1 {w0 W : World} {g : Nat} {f0 : List Int} {f1 : Int} (h : IsS65 w0 W g f0 f1) (x : Int) : IsS65 w0 (W.setCell ⟨g, 1, none⟩ (.int .i64 x)) g f0 x := by
 obtain ⟨A0, c0, hb, hg, hr0⟩ := h
 exact ⟨A0, c0, by simpa using blk_set hb 1 (.int .i64 x), hg, hr0⟩
theorem IsS65.new (w0 W : World) (A0 : Option Addr) (c0 : Nat) (f0 : List Int) (f1 : Int) (hB : Below w0.heap.size w0 W) (hr0 : Kd.C (Kd.int .i64) w0 A0 f0.length f0) : IsS65 w0 (W.alloc (.cells #[.slice A0 f0.length c0, .int .i64 f1] 65)) W.heap.size f0 f1 := ⟨A0, c0, by simpa using heap_alloc_new W _, hB.size, hr0⟩
def cutroomfilm_Tape_Next.f (s0_0 : List Int) (s0_1 : Int) (a1 : Int) : Option (Int × Int) := if a1 < 1 then (some (0, s0_1)) else (if s0_1 < (s0_0.length : Int) then (if 0 ≤ s0_1 then (if a1 = 0 then (none) else (some (Int.tmod (wrap64 ((Int.tmod (rd s0_0 s0_1) a1) + a1)) a1, wrap64 (s0_1 + 1)))) else (none)) else (if a1 = 0 then (none) else (some (Int.tmod (wrap64 ((Int.tmod (wrap64 ((wrap64 (s0_1 * 7)) + 3)) a1) + a1)) a1, wrap64 (s0_1 + 1)))))
set_option maxHeartbeats 8000000 in
set_option maxRecDepth 100000 in
theorem cutroomfilm_Tape_Next.calls (g : Nat) (s0_0 : List Int) (s0_1 : Int) (a1 : Int) (r1 : Int) (r2 : Int) (w0 w : World) (hI : IsS65 w0 w g s0_0 s0_1) (hB : Below w0.heap.size w0 w) (h : cutroomfilm_Tape_Next.f s0_0 s0_1 a1 = some (r1, r2)) :
  Calls Try.prog 31 #[.pointer (some ⟨g, 0, none⟩), .int .i64 a1] w fun e w' => e = .returned (.int .i64 r1) ∧ IsS65 w0 w' g s0_0 r2 ∧ Below w0.heap.size w0 w' ∧ KeepBut w w' g none := by
 have HI0 := Aside0.mk hI
 have HK := Aside0.mk (KeepBut.refl w g none)
 have HL := Aside0.mk hB.size
 clear hI
 have HW0 := Aside0.mk hB.size
 have HB := Aside0.mk hB
 clear hB
 have H : (if a1 < 1 then (some (0, s0_1)) else (if s0_1 < (s0_0.length : Int) then (if 0 ≤ s0_1 then (if a1 = 0 then (none) else (some (Int.tmod (wrap64 ((Int.tmod (rd s0_0 s0_1) a1) + a1)) a1, wrap64 (s0_1 + 1)))) else (none)) else (if a1 = 0 then (none) else (some (Int.tmod (wrap64 ((Int.tmod (wrap64 ((wrap64 (s0_1 * 7)) + 3)) a1) + a1)) a1, wrap64 (s0_1 + 1)))))) = some (r1, r2) := h
 clear h
 by_cases c3 : a1 < 1
 ·rw [if_pos c3] at H
  have c3b0 : decide (a1 < 1) = true := decide_eq_true c3
  clear c3
  simp only [Option.some.injEq, Prod.mk.injEq] at H
  obtain ⟨rfl, rfl⟩ := H
  go_enter Try.func31, Try.ntmps31
  go_wp2
  repeat (go_quiet (fail); try go_wp2)
  go_ret
  exact ⟨by first | rfl | (simp [errW_none, errW_some] <;> rfl) | (simp [*, errW_none, errW_some] <;> rfl), by repeat (first | (with_reducible first | exact HI0.out | apply IsS65.alloc | apply IsS65.drewN | apply IsS65.drew | apply IsS65.set_1) | exact HI0.out), by repeat (first | (with_reducible first | exact HB.out | apply below_alloc | apply pw_below_drewN | apply below_drew1 | refine below_set ?_ (IsS65.ge HI0.out)) | exact HB.out), by repeat (first | (with_reducible first | exact HK.out | apply KeepBut.set_ | apply keep_drewN | apply keep_drew | apply keep_alloc) | exact HK.out)⟩
 ·rw [if_neg c3] at H
  have c3b0 : decide (a1 < 1) = false := decide_eq_false c3
  clear c3
  by_cases c4 : s0_1 < (s0_0.length : Int)
  ·rw [if_pos c4] at H
   have c4b0 : decide (s0_1 < (s0_0.length : Int)) = true := decide_eq_true c4
   clear c4
   by_cases c5 : 0 ≤ s0_1
   ·rw [if_pos c5] at H
    have c5b0 : decide (0 ≤ s0_1) = true := decide_eq_true c5
    clear c5
    by_cases c6 : a1 = 0
    ·rw [if_pos c6] at H
     exact absurd H (by simp)
    ·rw [if_neg c6] at H
     have c6b0 : (a1 == 0) = false := beq_eq_false_iff_ne.mpr c6
     have c6b1 : (a1 != 0) = true := bne_iff_ne.mpr c6
     simp only [Option.some.injEq, Prod.mk.injEq] at H
     obtain ⟨rfl, rfl⟩ := H
     obtain ⟨ASz7_0, cSz7_0, HGz7, hgz7, HSz7_0⟩ := HI0.out
     have hcz7_0 := cellS65_0 HGz7
     have hcz7_1 := cellS65_1 HGz7
     have hfz7_1 := blk_frozen HGz7 1
     clear HGz7 hgz7
     have p162 : 0 ≤ (s0_1 : Int) := of_decide_eq_true (by first | (with_reducible assumption) | assumption)
     have q162 : s0_1 < (s0_0.length : Int) := of_decide_eq_true (by first | (with_reducible assumption) | assumption)
     obtain ⟨ad162, e162, hx162_0⟩ := Kd.at_int HSz7_0 s0_1 p162 q162
     cases e162
     replace hx162_0 := pw_cell_below HB.out hx162_0
     replace p162 := eq_true p162
     replace q162 := eq_true q162
     go_enter Try.func31, Try.ntmps31
     go_wp2
     repeat (go_quiet (fail); try go_wp2)
     go_ret
     exact ⟨by first | rfl | (simp [errW_none, errW_some] <;> rfl) | (simp [*, errW_none, errW_some] <;> rfl), by repeat (first | (with_reducible first | exact HI0.out | apply IsS65.alloc | apply IsS65.drewN | apply IsS65.drew | apply IsS65.set_1) | exact HI0.out), by repeat (first | (with_reducible first | exact HB.out | apply below_alloc | apply pw_below_drewN | apply below_drew1 | refine below_set ?_ (IsS65.ge HI0.out)) | exact HB.out), by repeat (first | (with_reducible first | exact HK.out | apply KeepBut.set_ | apply keep_drewN | apply keep_drew | apply keep_alloc) | exact HK.out)⟩
   ·rw [if_neg c5] at H
    exact absurd H (by simp)
  ·rw [if_neg c4] at H
   have c4b0 : decide (s0_1 < (s0_0.length : Int)) = false := decide_eq_false c4
   clear c4
   by_cases c8 : a1 = 0
   ·rw [if_pos c8] at H
    exact absurd H (by simp)
   ·rw [if_neg c8] at H
    have c8b0 : (a1 == 0) = false := beq_eq_false_iff_ne.mpr c8
    have c8b1 : (a1 != 0) = true := bne_iff_ne.mpr c8
    simp only [Option.some.injEq, Prod.mk.injEq] at H
    obtain ⟨rfl, rfl⟩ := H
    obtain ⟨ASz9_0, cSz9_0, HGz9, hgz9, HSz9_0⟩ := HI0.out
    have hcz9_0 := cellS65_0 HGz9
    have hcz9_1 := cellS65_1 HGz9
    have hfz9_1 := blk_frozen HGz9 1
    clear HGz9 hgz9
    go_enter Try.func31, Try.ntmps31
    go_wp2
    repeat (go_quiet (fail); try go_wp2)
    go_ret
    exact ⟨by first | rfl | (simp [errW_none, errW_some] <;> rfl) | (simp [*, errW_none, errW_some] <;> rfl), by repeat (first | (with_reducible first | exact HI0.out | apply IsS65.alloc | apply IsS65.drewN | apply IsS65.drew | apply IsS65.set_1) | exact HI0.out), by repeat (first | (with_reducible first | exact HB.out | apply below_alloc | apply pw_below_drewN | apply below_drew1 | refine below_set ?_ (IsS65.ge HI0.out)) | exact HB.out), by repeat (first | (with_reducible first | exact HK.out | apply KeepBut.set_ | apply keep_drewN | apply keep_drew | apply keep_alloc) | exact HK.out)⟩
def cutroomref23_ValidName.l0 : Nat → ByteArray → Int → Option (Bool)
 | 0, _, _ => none
 | k + 1, x0, x3 => if x3 < (x0.size : Int) then (if 0 ≤ x3 then (if (bt x0 x3) < 97 then (if (bt x0 x3) < 48 then (if (bt x0 x3) = 45 then (cutroomref23_ValidName.l0 k x0 (wrap64 (x3 + 1))) else (if (bt x0 x3) = 95 then (cutroomref23_ValidName.l0 k x0 (wrap64 (x3 + 1))) else (if (bt x0 x3) = 46 then (cutroomref23_ValidName.l0 k x0 (wrap64 (x3 + 1))) else (some false)))) else (if (bt x0 x3) > 57 then (if (bt x0 x3) = 45 then (cutroomref23_ValidName.l0 k x0 (wrap64 (x3 + 1))) else (if (bt x0 x3) = 95 then (cutroomref23_ValidName.l0 k x0 (wrap64 (x3 + 1))) else (if (bt x0 x3) = 46 then (cutroomref23_ValidName.l0 k x0 (wrap64 (x3 + 1))) else (some false)))) else (cutroomref23_ValidName.l0 k x0 (wrap64 (x3 + 1))))) else (if (bt x0 x3) > 122 then (if (bt x0 x3) < 48 then (if (bt x0 x3) = 45 then (cutroomref23_ValidName.l0 k x0 (wrap64 (x3 + 1))) else (if (bt x0 x3) = 95 then (cutroomref23_ValidName.l0 k x0 (wrap64 (x3 + 1))) else (if (bt x0 x3) = 46 then (cutroomref23_ValidName.l0 k x0 (wrap64 (x3 + 1))) else (some false)))) else (if (bt x0 x3) > 57 then (if (bt x0 x3) = 45 then (cutroomref23_ValidName.l0 k x0 (wrap64 (x3 + 1))) else (if (bt x0 x3) = 95 then (cutroomref23_ValidName.l0 k x0 (wrap64 (x3 + 1))) else (if (bt x0 x3) = 46 then (cutroomref23_ValidName.l0 k x0 (wrap64 (x3 + 1))) else (some false)))) else (cutroomref23_ValidName.l0 k x0 (wrap64 (x3 + 1))))) else (cutroomref23_ValidName.l0 k x0 (wrap64 (x3 + 1))))) else (none)) else (if (x0.size : Int) ≥ 1 then (some (decide ((x0.size : Int) ≤ 32))) else (some false))
def cutroomref23_ValidName.f (k : Nat) (a0 : ByteArray) : Option (Bool) := cutroomref23_ValidName.l0 k a0 0
theorem cutroomref23_ValidName.mono_l : ∀ k, (∀ y0 y1, LeO (cutroomref23_ValidName.l0 k y0 y1) (cutroomref23_ValidName.l0 (k + 1) y0 y1))
 | 0 => fun _ _ r h => by simp [cutroomref23_ValidName.l0] at h
 | k + 1 => by
  have ih0 := cutroomref23_ValidName.mono_l k
  ·intro y0 y1
   unfold cutroomref23_ValidName.l0
   repeat' first
   | (with_reducible exact ih0 _ _)
   | (with_reducible exact LeO.refl _)
   | (with_reducible exact LeO.none _)
   | (with_reducible refine LeO.ite ?_ ?_)
   | (with_reducible refine LeO.bind ?_ (fun _ => ?_))
   | exact ih0 _ _
   | exact LeO.none _
   | refine LeO.ite ?_ ?_
   | refine LeO.bind ?_ (fun _ => ?_)
theorem cutroomref23_ValidName.mono : ∀ a0 k, LeO (cutroomref23_ValidName.f k a0) (cutroomref23_ValidName.f (k + 1) a0) := by
 intro a0 k
 have ih0 := cutroomref23_ValidName.mono_l k
 unfold cutroomref23_ValidName.f
 repeat' first
   | (with_reducible exact ih0 _ _)
   | (with_reducible exact LeO.refl _)
   | (with_reducible exact LeO.none _)
   | (with_reducible refine LeO.ite ?_ ?_)
   | (with_reducible refine LeO.bind ?_ (fun _ => ?_))
   | exact ih0 _ _
   | exact LeO.none _
   | refine LeO.ite ?_ ?_
   | refine LeO.bind ?_ (fun _ => ?_)
set_option maxHeartbeats 8000000 in
set_option maxRecDepth 100000 in
theorem cutroomref23_ValidName.calls (k : Nat) (a0 : ByteArray) (r : Bool) (w : World) (h : cutroomref23_ValidName.f k a0 = some r) :
  Calls Try.prog 26 #[.string a0] w fun e w' => e = .returned (.bool r) ∧ Drawn0 w w' := by
 have H : (cutroomref23_ValidName.l0 k a0 0) = some r := h
 clear h
 have H' := Aside0.mk H
 clear H
 go_enter Try.func26, Try.ntmps26
 go_wp2
 go_loopg [3] k (fun kq v3 w' => ∃ (x3_1 : Int), v3 = .int .i64 x3_1 ∧ Aside0 (cutroomref23_ValidName.l0 kq a0 x3_1 = some r) ∧ Aside0 (kq ≤ k) ∧ Drawn0 w w')
 case atStart => exact ⟨(0), (by first | rfl | (simp; done) | (simp [*]; done)), H', ⟨Nat.le_refl _⟩, by repeat (first | exact Drawn0.refl _ | apply Drawn0.step)⟩
 case round =>
  clear H'
  obtain ⟨x3_1, rfl, HA, HK1, ⟨m1, rfl⟩⟩ := hrel
  cases gk with
  | zero => exact absurd HA.out (by simp [cutroomref23_ValidName.l0])
  | succ k1 =>
   have H := HA.out
   clear HA
   simp only [cutroomref23_ValidName.l0] at H
   by_cases c2 : x3_1 < (a0.size : Int)
   ·rw [if_pos c2] at H
    have c2b0 : decide (x3_1 < (a0.size : Int)) = true := decide_eq_true c2
    clear c2
    by_cases c3 : 0 ≤ x3_1
    ·rw [if_pos c3] at H
     have c3b0 : decide (0 ≤ x3_1) = true := decide_eq_true c3
     clear c3
     by_cases c5 : (bt a0 x3_1) < 97
     ·rw [if_pos c5] at H
      have c5b0 : decide ((bt a0 x3_1) < 97) = true := decide_eq_true c5
      clear c5
      by_cases c6 : (bt a0 x3_1) < 48
      ·rw [if_pos c6] at H
       have c6b0 : decide ((bt a0 x3_1) < 48) = true := decide_eq_true c6
       clear c6
       by_cases c7 : (bt a0 x3_1) = 45
       ·rw [if_pos c7] at H
        have c7b0 : ((bt a0 x3_1) == 45) = true := beq_iff_eq.mpr c7
        have c7b1 : ((bt a0 x3_1) != 45) = false := bne_eq_false_iff_eq.mpr c7
        clear c7
        have H' := Aside0.mk H
        clear H
        have p4 : 0 ≤ (x3_1 : Int) := of_decide_eq_true (by first | (with_reducible assumption) | assumption)
        have q4 : x3_1 < (a0.size : Int) := of_decide_eq_true (by first | (with_reducible assumption) | assumption)
        have hx4 := bt_at a0 x3_1
        replace p4 := eq_true p4
        replace q4 := eq_true q4
        go_wp2
        go_roundg k1
        case measure => have := HK1.out; omega
        case rel => exact ⟨(wrap64 (x3_1 + 1)), (by first | rfl | (simp; done) | (simp [*]; done)), H', ⟨by have := HK1.out; omega⟩, by repeat (first | exact Drawn0.refl _ | apply Drawn0.step)⟩
       ·rw [if_neg c7] at H
        have c7b0 : ((bt a0 x3_1) == 45) = false := beq_eq_false_iff_ne.mpr c7
        have c7b1 : ((bt a0 x3_1) != 45) = true := bne_iff_ne.mpr c7
        by_cases c8 : (bt a0 x3_1) = 95
        ·rw [if_pos c8] at H
         have c8b0 : ((bt a0 x3_1) == 95) = true := beq_iff_eq.mpr c8
         have c8b1 : ((bt a0 x3_1) != 95) = false := bne_eq_false_iff_eq.mpr c8
         clear c8
         have H' := Aside0.mk H
         clear H
         have p4 : 0 ≤ (x3_1 : Int) := of_decide_eq_true (by first | (with_reducible assumption) | assumption)
         have q4 : x3_1 < (a0.size : Int) := of_decide_eq_true (by first | (with_reducible assumption) | assumption)
         have hx4 := bt_at a0 x3_1
         replace p4 := eq_true p4
         replace q4 := eq_true q4
         go_wp2
         go_roundg k1
         case measure => have := HK1.out; omega
         case rel => exact ⟨(wrap64 (x3_1 + 1)), (by first | rfl | (simp; done) | (simp [*]; done)), H', ⟨by have := HK1.out; omega⟩, by repeat (first | exact Drawn0.refl _ | apply Drawn0.step)⟩
        ·rw [if_neg c8] at H
         have c8b0 : ((bt a0 x3_1) == 95) = false := beq_eq_false_iff_ne.mpr c8
         have c8b1 : ((bt a0 x3_1) != 95) = true := bne_iff_ne.mpr c8
         by_cases c9 : (bt a0 x3_1) = 46
         ·rw [if_pos c9] at H
          have c9b0 : ((bt a0 x3_1) == 46) = true := beq_iff_eq.mpr c9
          have c9b1 : ((bt a0 x3_1) != 46) = false := bne_eq_false_iff_eq.mpr c9
          clear c9
          have H' := Aside0.mk H
          clear H
          have p4 : 0 ≤ (x3_1 : Int) := of_decide_eq_true (by first | (with_reducible assumption) | assumption)
          have q4 : x3_1 < (a0.size : Int) := of_decide_eq_true (by first | (with_reducible assumption) | assumption)
          have hx4 := bt_at a0 x3_1
          replace p4 := eq_true p4
          replace q4 := eq_true q4
          go_wp2
          go_roundg k1
          case measure => have := HK1.out; omega
          case rel => exact ⟨(wrap64 (x3_1 + 1)), (by first | rfl | (simp; done) | (simp [*]; done)), H', ⟨by have := HK1.out; omega⟩, by repeat (first | exact Drawn0.refl _ | apply Drawn0.step)⟩
         ·rw [if_neg c9] at H
          have c9b0 : ((bt a0 x3_1) == 46) = false := beq_eq_false_iff_ne.mpr c9
          have c9b1 : ((bt a0 x3_1) != 46) = true := bne_iff_ne.mpr c9
          obtain rfl := Option.some.inj H
          have p4 : 0 ≤ (x3_1 : Int) := of_decide_eq_true (by first | (with_reducible assumption) | assumption)
          have q4 : x3_1 < (a0.size : Int) := of_decide_eq_true (by first | (with_reducible assumption) | assumption)
          have hx4 := bt_at a0 x3_1
          replace p4 := eq_true p4
          replace q4 := eq_true q4
          go_wp2
          go_ret
          exact ⟨by first | rfl | (simp; done) | (simp [*]; done), by repeat (first | exact Drawn0.refl _ | apply Drawn0.step)⟩
      ·rw [if_neg c6] at H
       have c6b0 : decide ((bt a0 x3_1) < 48) = false := decide_eq_false c6
       clear c6
       by_cases c10 : (bt a0 x3_1) > 57
       ·rw [if_pos c10] at H
        have c10b0 : decide (57 < (bt a0 x3_1)) = true := decide_eq_true c10
        clear c10
        by_cases c11 : (bt a0 x3_1) = 45
        ·rw [if_pos c11] at H
         have c11b0 : ((bt a0 x3_1) == 45) = true := beq_iff_eq.mpr c11
         have c11b1 : ((bt a0 x3_1) != 45) = false := bne_eq_false_iff_eq.mpr c11
         clear c11
         have H' := Aside0.mk H
         clear H
         have p4 : 0 ≤ (x3_1 : Int) := of_decide_eq_true (by first | (with_reducible assumption) | assumption)
         have q4 : x3_1 < (a0.size : Int) := of_decide_eq_true (by first | (with_reducible assumption) | assumption)
         have hx4 := bt_at a0 x3_1
         replace p4 := eq_true p4
         replace q4 := eq_true q4
         go_wp2
         go_roundg k1
         case measure => have := HK1.out; omega
         case rel => exact ⟨(wrap64 (x3_1 + 1)), (by first | rfl | (simp; done) | (simp [*]; done)), H', ⟨by have := HK1.out; omega⟩, by repeat (first | exact Drawn0.refl _ | apply Drawn0.step)⟩
        ·rw [if_neg c11] at H
         have c11b0 : ((bt a0 x3_1) == 45) = false := beq_eq_false_iff_ne.mpr c11
         have c11b1 : ((bt a0 x3_1) != 45) = true := bne_iff_ne.mpr c11
         by_cases c12 : (bt a0 x3_1) = 95
         ·rw [if_pos c12] at H
          have c12b0 : ((bt a0 x3_1) == 95) = true := beq_iff_eq.mpr c12
          have c12b1 : ((bt a0 x3_1) != 95) = false := bne_eq_false_iff_eq.mpr c12
          clear c12
          have H' := Aside0.mk H
          clear H
          have p4 : 0 ≤ (x3_1 : Int) := of_decide_eq_true (by first | (with_reducible assumption) | assumption)
          have q4 : x3_1 < (a0.size : Int) := of_decide_eq_true (by first | (with_reducible assumption) | assumption)
          have hx4 := bt_at a0 x3_1
          replace p4 := eq_true p4
          replace q4 := eq_true q4
          go_wp2
          go_roundg k1
          case measure => have := HK1.out; omega
          case rel => exact ⟨(wrap64 (x3_1 + 1)), (by first | rfl | (simp; done) | (simp [*]; done)), H', ⟨by have := HK1.out; omega⟩, by repeat (first | exact Drawn0.refl _ | apply Drawn0.step)⟩
         ·rw [if_neg c12] at H
          have c12b0 : ((bt a0 x3_1) == 95) = false := beq_eq_false_iff_ne.mpr c12
          have c12b1 : ((bt a0 x3_1) != 95) = true := bne_iff_ne.mpr c12
          by_cases c13 : (bt a0 x3_1) = 46
          ·rw [if_pos c13] at H
           have c13b0 : ((bt a0 x3_1) == 46) = true := beq_iff_eq.mpr c13
           have c13b1 : ((bt a0 x3_1) != 46) = false := bne_eq_false_iff_eq.mpr c13
           clear c13
           have H' := Aside0.mk H
           clear H
           have p4 : 0 ≤ (x3_1 : Int) := of_decide_eq_true (by first | (with_reducible assumption) | assumption)
           have q4 : x3_1 < (a0.size : Int) := of_decide_eq_true (by first | (with_reducible assumption) | assumption)
           have hx4 := bt_at a0 x3_1
           replace p4 := eq_true p4
           replace q4 := eq_true q4
           go_wp2
           go_roundg k1
           case measure => have := HK1.out; omega
           case rel => exact ⟨(wrap64 (x3_1 + 1)), (by first | rfl | (simp; done) | (simp [*]; done)), H', ⟨by have := HK1.out; omega⟩, by repeat (first | exact Drawn0.refl _ | apply Drawn0.step)⟩
          ·rw [if_neg c13] at H
           have c13b0 : ((bt a0 x3_1) == 46) = false := beq_eq_false_iff_ne.mpr c13
           have c13b1 : ((bt a0 x3_1) != 46) = true := bne_iff_ne.mpr c13
           obtain rfl := Option.some.inj H
           have p4 : 0 ≤ (x3_1 : Int) := of_decide_eq_true (by first | (with_reducible assumption) | assumption)
           have q4 : x3_1 < (a0.size : Int) := of_decide_eq_true (by first | (with_reducible assumption) | assumption)
           have hx4 := bt_at a0 x3_1
           replace p4 := eq_true p4
           replace q4 := eq_true q4
           go_wp2
           go_ret
           exact ⟨by first | rfl | (simp; done) | (simp [*]; done), by repeat (first | exact Drawn0.refl _ | apply Drawn0.step)⟩
       ·rw [if_neg c10] at H
        have c10b0 : decide (57 < (bt a0 x3_1)) = false := decide_eq_false c10
        clear c10
        have H' := Aside0.mk H
        clear H
        have p4 : 0 ≤ (x3_1 : Int) := of_decide_eq_true (by first | (with_reducible assumption) | assumption)
        have q4 : x3_1 < (a0.size : Int) := of_decide_eq_true (by first | (with_reducible assumption) | assumption)
        have hx4 := bt_at a0 x3_1
        replace p4 := eq_true p4
        replace q4 := eq_true q4
        go_wp2
        go_roundg k1
        case measure => have := HK1.out; omega
        case rel => exact ⟨(wrap64 (x3_1 + 1)), (by first | rfl | (simp; done) | (simp [*]; done)), H', ⟨by have := HK1.out; omega⟩, by repeat (first | exact Drawn0.refl _ | apply Drawn0.step)⟩
     ·rw [if_neg c5] at H
      have c5b0 : decide ((bt a0 x3_1) < 97) = false := decide_eq_false c5
      clear c5
      by_cases c14 : (bt a0 x3_1) > 122
      ·rw [if_pos c14] at H
       have c14b0 : decide (122 < (bt a0 x3_1)) = true := decide_eq_true c14
       clear c14
       by_cases c15 : (bt a0 x3_1) < 48
       ·rw [if_pos c15] at H
        have c15b0 : decide ((bt a0 x3_1) < 48) = true := decide_eq_true c15
        clear c15
        by_cases c16 : (bt a0 x3_1) = 45
        ·rw [if_pos c16] at H
         have c16b0 : ((bt a0 x3_1) == 45) = true := beq_iff_eq.mpr c16
         have c16b1 : ((bt a0 x3_1) != 45) = false := bne_eq_false_iff_eq.mpr c16
         clear c16
         have H' := Aside0.mk H
         clear H
         have p4 : 0 ≤ (x3_1 : Int) := of_decide_eq_true (by first | (with_reducible assumption) | assumption)
         have q4 : x3_1 < (a0.size : Int) := of_decide_eq_true (by first | (with_reducible assumption) | assumption)
         have hx4 := bt_at a0 x3_1
         replace p4 := eq_true p4
         replace q4 := eq_true q4
         go_wp2
         go_roundg k1
         case measure => have := HK1.out; omega
         case rel => exact ⟨(wrap64 (x3_1 + 1)), (by first | rfl | (simp; done) | (simp [*]; done)), H', ⟨by have := HK1.out; omega⟩, by repeat (first | exact Drawn0.refl _ | apply Drawn0.step)⟩
        ·rw [if_neg c16] at H
         have c16b0 : ((bt a0 x3_1) == 45) = false := beq_eq_false_iff_ne.mpr c16
         have c16b1 : ((bt a0 x3_1) != 45) = true := bne_iff_ne.mpr c16
         by_cases c17 : (bt a0 x3_1) = 95
         ·rw [if_pos c17] at H
          have c17b0 : ((bt a0 x3_1) == 95) = true := beq_iff_eq.mpr c17
          have c17b1 : ((bt a0 x3_1) != 95) = false := bne_eq_false_iff_eq.mpr c17
          clear c17
          have H' := Aside0.mk H
          clear H
          have p4 : 0 ≤ (x3_1 : Int) := of_decide_eq_true (by first | (with_reducible assumption) | assumption)
          have q4 : x3_1 < (a0.size : Int) := of_decide_eq_true (by first | (with_reducible assumption) | assumption)
          have hx4 := bt_at a0 x3_1
          replace p4 := eq_true p4
          replace q4 := eq_true q4
          go_wp2
          go_roundg k1
          case measure => have := HK1.out; omega
          case rel => exact ⟨(wrap64 (x3_1 + 1)), (by first | rfl | (simp; done) | (simp [*]; done)), H', ⟨by have := HK1.out; omega⟩, by repeat (first | exact Drawn0.refl _ | apply Drawn0.step)⟩
         ·rw [if_neg c17] at H
          have c17b0 : ((bt a0 x3_1) == 95) = false := beq_eq_false_iff_ne.mpr c17
          have c17b1 : ((bt a0 x3_1) != 95) = true := bne_iff_ne.mpr c17
          by_cases c18 : (bt a0 x3_1) = 46
          ·rw [if_pos c18] at H
           have c18b0 : ((bt a0 x3_1) == 46) = true := beq_iff_eq.mpr c18
           have c18b1 : ((bt a0 x3_1) != 46) = false := bne_eq_false_iff_eq.mpr c18
           clear c18
           have H' := Aside0.mk H
           clear H
           have p4 : 0 ≤ (x3_1 : Int) := of_decide_eq_true (by first | (with_reducible assumption) | assumption)
           have q4 : x3_1 < (a0.size : Int) := of_decide_eq_true (by first | (with_reducible assumption) | assumption)
           have hx4 := bt_at a0 x3_1
           replace p4 := eq_true p4
           replace q4 := eq_true q4
           go_wp2
           go_roundg k1
           case measure => have := HK1.out; omega
           case rel => exact ⟨(wrap64 (x3_1 + 1)), (by first | rfl | (simp; done) | (simp [*]; done)), H', ⟨by have := HK1.out; omega⟩, by repeat (first | exact Drawn0.refl _ | apply Drawn0.step)⟩
          ·rw [if_neg c18] at H
           have c18b0 : ((bt a0 x3_1) == 46) = false := beq_eq_false_iff_ne.mpr c18
           have c18b1 : ((bt a0 x3_1) != 46) = true := bne_iff_ne.mpr c18
           obtain rfl := Option.some.inj H
           have p4 : 0 ≤ (x3_1 : Int) := of_decide_eq_true (by first | (with_reducible assumption) | assumption)
           have q4 : x3_1 < (a0.size : Int) := of_decide_eq_true (by first | (with_reducible assumption) | assumption)
           have hx4 := bt_at a0 x3_1
           replace p4 := eq_true p4
           replace q4 := eq_true q4
           go_wp2
           go_ret
           exact ⟨by first | rfl | (simp; done) | (simp [*]; done), by repeat (first | exact Drawn0.refl _ | apply Drawn0.step)⟩
       ·rw [if_neg c15] at H
        have c15b0 : decide ((bt a0 x3_1) < 48) = false := decide_eq_false c15
        clear c15
        by_cases c19 : (bt a0 x3_1) > 57
        ·rw [if_pos c19] at H
         have c19b0 : decide (57 < (bt a0 x3_1)) = true := decide_eq_true c19
         clear c19
         by_cases c20 : (bt a0 x3_1) = 45
         ·rw [if_pos c20] at H
          have c20b0 : ((bt a0 x3_1) == 45) = true := beq_iff_eq.mpr c20
          have c20b1 : ((bt a0 x3_1) != 45) = false := bne_eq_false_iff_eq.mpr c20
          clear c20
          have H' := Aside0.mk H
          clear H
          have p4 : 0 ≤ (x3_1 : Int) := of_decide_eq_true (by first | (with_reducible assumption) | assumption)
          have q4 : x3_1 < (a0.size : Int) := of_decide_eq_true (by first | (with_reducible assumption) | assumption)
          have hx4 := bt_at a0 x3_1
          replace p4 := eq_true p4
          replace q4 := eq_true q4
          go_wp2
          go_roundg k1
          case measure => have := HK1.out; omega
          case rel => exact ⟨(wrap64 (x3_1 + 1)), (by first | rfl | (simp; done) | (simp [*]; done)), H', ⟨by have := HK1.out; omega⟩, by repeat (first | exact Drawn0.refl _ | apply Drawn0.step)⟩
         ·rw [if_neg c20] at H
          have c20b0 : ((bt a0 x3_1) == 45) = false := beq_eq_false_iff_ne.mpr c20
          have c20b1 : ((bt a0 x3_1) != 45) = true := bne_iff_ne.mpr c20
          by_cases c21 : (bt a0 x3_1) = 95
          ·rw [if_pos c21] at H
           have c21b0 : ((bt a0 x3_1) == 95) = true := beq_iff_eq.mpr c21
           have c21b1 : ((bt a0 x3_1) != 95) = false := bne_eq_false_iff_eq.mpr c21
           clear c21
           have H' := Aside0.mk H
           clear H
           have p4 : 0 ≤ (x3_1 : Int) := of_decide_eq_true (by first | (with_reducible assumption) | assumption)
           have q4 : x3_1 < (a0.size : Int) := of_decide_eq_true (by first | (with_reducible assumption) | assumption)
           have hx4 := bt_at a0 x3_1
           replace p4 := eq_true p4
           replace q4 := eq_true q4
           go_wp2
           go_roundg k1
           case measure => have := HK1.out; omega
           case rel => exact ⟨(wrap64 (x3_1 + 1)), (by first | rfl | (simp; done) | (simp [*]; done)), H', ⟨by have := HK1.out; omega⟩, by repeat (first | exact Drawn0.refl _ | apply Drawn0.step)⟩
          ·rw [if_neg c21] at H
           have c21b0 : ((bt a0 x3_1) == 95) = false := beq_eq_false_iff_ne.mpr c21
           have c21b1 : ((bt a0 x3_1) != 95) = true := bne_iff_ne.mpr c21
           by_cases c22 : (bt a0 x3_1) = 46
           ·rw [if_pos c22] at H
            have c22b0 : ((bt a0 x3_1) == 46) = true := beq_iff_eq.mpr c22
            have c22b1 : ((bt a0 x3_1) != 46) = false := bne_eq_false_iff_eq.mpr c22
            clear c22
            have H' := Aside0.mk H
            clear H
            have p4 : 0 ≤ (x3_1 : Int) := of_decide_eq_true (by first | (with_reducible assumption) | assumption)
            have q4 : x3_1 < (a0.size : Int) := of_decide_eq_true (by first | (with_reducible assumption) | assumption)
            have hx4 := bt_at a0 x3_1
            replace p4 := eq_true p4
            replace q4 := eq_true q4
            go_wp2
            go_roundg k1
            case measure => have := HK1.out; omega
            case rel => exact ⟨(wrap64 (x3_1 + 1)), (by first | rfl | (simp; done) | (simp [*]; done)), H', ⟨by have := HK1.out; omega⟩, by repeat (first | exact Drawn0.refl _ | apply Drawn0.step)⟩
           ·rw [if_neg c22] at H
            have c22b0 : ((bt a0 x3_1) == 46) = false := beq_eq_false_iff_ne.mpr c22
            have c22b1 : ((bt a0 x3_1) != 46) = true := bne_iff_ne.mpr c22
            obtain rfl := Option.some.inj H
            have p4 : 0 ≤ (x3_1 : Int) := of_decide_eq_true (by first | (with_reducible assumption) | assumption)
            have q4 : x3_1 < (a0.size : Int) := of_decide_eq_true (by first | (with_reducible assumption) | assumption)
            have hx4 := bt_at a0 x3_1
            replace p4 := eq_true p4
            replace q4 := eq_true q4
            go_wp2
            go_ret
            exact ⟨by first | rfl | (simp; done) | (simp [*]; done), by repeat (first | exact Drawn0.refl _ | apply Drawn0.step)⟩
        ·rw [if_neg c19] at H
         have c19b0 : decide (57 < (bt a0 x3_1)) = false := decide_eq_false c19
         clear c19
         have H' := Aside0.mk H
         clear H
         have p4 : 0 ≤ (x3_1 : Int) := of_decide_eq_true (by first | (with_reducible assumption) | assumption)
         have q4 : x3_1 < (a0.size : Int) := of_decide_eq_true (by first | (with_reducible assumption) | assumption)
         have hx4 := bt_at a0 x3_1
         replace p4 := eq_true p4
         replace q4 := eq_true q4
         go_wp2
         go_roundg k1
         case measure => have := HK1.out; omega
         case rel => exact ⟨(wrap64 (x3_1 + 1)), (by first | rfl | (simp; done) | (simp [*]; done)), H', ⟨by have := HK1.out; omega⟩, by repeat (first | exact Drawn0.refl _ | apply Drawn0.step)⟩
      ·rw [if_neg c14] at H
       have c14b0 : decide (122 < (bt a0 x3_1)) = false := decide_eq_false c14
       clear c14
       have H' := Aside0.mk H
       clear H
       have p4 : 0 ≤ (x3_1 : Int) := of_decide_eq_true (by first | (with_reducible assumption) | assumption)
       have q4 : x3_1 < (a0.size : Int) := of_decide_eq_true (by first | (with_reducible assumption) | assumption)
       have hx4 := bt_at a0 x3_1
       replace p4 := eq_true p4
       replace q4 := eq_true q4
       go_wp2
       go_roundg k1
       case measure => have := HK1.out; omega
       case rel => exact ⟨(wrap64 (x3_1 + 1)), (by first | rfl | (simp; done) | (simp [*]; done)), H', ⟨by have := HK1.out; omega⟩, by repeat (first | exact Drawn0.refl _ | apply Drawn0.step)⟩
    ·rw [if_neg c3] at H
     exact absurd H (by simp)
   ·rw [if_neg c2] at H
    have c2b0 : decide (x3_1 < (a0.size : Int)) = false := decide_eq_false c2
    clear c2
    by_cases c23 : (a0.size : Int) ≥ 1
    ·rw [if_pos c23] at H
     have c23b0 : decide (1 ≤ (a0.size : Int)) = true := decide_eq_true c23
     have c23b1 : decide (1 ≤ a0.size) = true := decide_eq_true (by omega)
     clear c23
     obtain rfl := Option.some.inj H
     go_wp2
     go_ret
     exact ⟨by first | rfl | (simp; done) | (simp [*]; done), by repeat (first | exact Drawn0.refl _ | apply Drawn0.step)⟩
    ·rw [if_neg c23] at H
     have c23b0 : decide (1 ≤ (a0.size : Int)) = false := decide_eq_false c23
     have c23b1 : decide (1 ≤ a0.size) = false := decide_eq_false (by omega)
     clear c23
     obtain rfl := Option.some.inj H
     go_wp2
     go_ret
     exact ⟨by first | rfl | (simp; done) | (simp [*]; done), by repeat (first | exact Drawn0.refl _ | apply Drawn0.step)⟩
end Go.Proofs.Ytpnhkmicepmciaa.Y

/- A part of this claim's walks: functions' contracts, or plain lemmas; conditions: each one's own. -/
import Derived.Test.YtpnhkmicepmciaaY0
import Derived.Test.YtpnhkmicepmciaaY1
import Derived.Test.YtpnhkmicepmciaaY2
import Derived.Test.YtpnhkmicepmciaaY3
import Derived.Test.YtpnhkmicepmciaaPar
namespace Go.Proofs.Ytpnhkmicepmciaa.Y
open Go.RowKit Go.Proofs.YtpnhkmicepmciaaW.PrintWords Go.Proofs.YtpnhkmicepmciaaW.PrintLast Go.Proofs.YtpnhkmicepmciaaW.PrintMore Go.Proofs.Ytpnhkmicepmciaa.Par
attribute [local go_sem] max2_int min2_int max_two min_two max_three min_three max_four min_four   -- for this text's walks alone
set_option linter.unusedVariables false
set_option linter.unusedSimpArgs false
attribute [local go_sem high] eqA37 eqA39 eqA61
mutual
def cutroomref36_Same.j0 : Nat → Bool → List (S37) → List (S39) → List (S37) → List (S39) → Option (Bool)
 | 0, _, _, _, _, _ => none
 | k + 1, x22, x268000, x268001, x269000, x269001 => if x22 = true then (some false) else (cutroomref36_Same.l0 k 0 x268000 x268001 x269000 x269001)
def cutroomref36_Same.l0 : Nat → Int → List (S37) → List (S39) → List (S37) → List (S39) → Option (Bool)
 | 0, _, _, _, _, _ => none
 | k + 1, x5, x268000, x268001, x269000, x269001 => if x5 < (x268000.length : Int) then (if 0 ≤ x5 then (if x5 < (x269000.length : Int) then (if (!((((rd_T37 x268000 x5).f0).toList) == (((rd_T37 x269000 x5).f0).toList)) || (!(((rd_T37 x268000 x5).f1) == ((rd_T37 x269000 x5).f1)) || (!(((rd_T37 x268000 x5).f2) == ((rd_T37 x269000 x5).f2))))) = true then (some false) else (cutroomref36_Same.l0 k (wrap64 (x5 + 1)) x268000 x268001 x269000 x269001)) else (none)) else (none)) else (cutroomref36_Same.l1 k 0 x268000 x268001 x269000 x269001)
def cutroomref36_Same.l1 : Nat → Int → List (S37) → List (S39) → List (S37) → List (S39) → Option (Bool)
 | 0, _, _, _, _, _ => none
 | k + 1, x6, x268000, x268001, x269000, x269001 => if x6 < (x268001.length : Int) then (if 0 ≤ x6 then (if x6 < (x269001.length : Int) then (if (!((((rd_T39 x268001 x6).f0).toList) == (((rd_T39 x269001 x6).f0).toList)) || (!((((rd_T39 x268001 x6).f1).toList) == (((rd_T39 x269001 x6).f1).toList)) || (!(((rd_T39 x268001 x6).f2) == ((rd_T39 x269001 x6).f2)) || (!((((rd_T39 x268001 x6).f3).toList) == (((rd_T39 x269001 x6).f3).toList)))))) = true then (some false) else (cutroomref36_Same.l1 k (wrap64 (x6 + 1)) x268000 x268001 x269000 x269001)) else (none)) else (none)) else (some true)
end
def cutroomref36_Same.f (k : Nat) (l0_0 : List (S37)) (l0_1 : List (S39)) (l1_0 : List (S37)) (l1_1 : List (S39)) : Option (Bool) := if (l0_0.length : Int) = (l1_0.length : Int) then (cutroomref36_Same.j0 k ((l0_1.length : Int) != (l1_1.length : Int)) l0_0 l0_1 l1_0 l1_1) else (cutroomref36_Same.j0 k true l0_0 l0_1 l1_0 l1_1)
theorem cutroomref36_Same.mono_l : ∀ k, (∀ y0 y1 y2 y3 y4, LeO (cutroomref36_Same.j0 k y0 y1 y2 y3 y4) (cutroomref36_Same.j0 (k + 1) y0 y1 y2 y3 y4)) ∧ (∀ y0 y1 y2 y3 y4, LeO (cutroomref36_Same.l0 k y0 y1 y2 y3 y4) (cutroomref36_Same.l0 (k + 1) y0 y1 y2 y3 y4)) ∧ (∀ y0 y1 y2 y3 y4, LeO (cutroomref36_Same.l1 k y0 y1 y2 y3 y4) (cutroomref36_Same.l1 (k + 1) y0 y1 y2 y3 y4))
 | 0 => ⟨fun _ _ _ _ _ r h => by simp [cutroomref36_Same.j0] at h, fun _ _ _ _ _ r h => by simp [cutroomref36_Same.l0] at h, fun _ _ _ _ _ r h => by simp [cutroomref36_Same.l1] at h⟩
 | k + 1 => by
  obtain ⟨ih0, ih1, ih2⟩ := cutroomref36_Same.mono_l k
  refine ⟨?_, ?_, ?_⟩
  ·intro y0 y1 y2 y3 y4
   unfold cutroomref36_Same.j0
   repeat' first
   | (with_reducible exact ih0 _ _ _ _ _)
   | (with_reducible exact ih1 _ _ _ _ _)
   | (with_reducible exact ih2 _ _ _ _ _)
   | (with_reducible exact LeO.refl _)
   | (with_reducible exact LeO.none _)
   | (with_reducible refine LeO.ite ?_ ?_)
   | (with_reducible refine LeO.bind ?_ (fun _ => ?_))
   | exact ih0 _ _ _ _ _
   | exact ih1 _ _ _ _ _
   | exact ih2 _ _ _ _ _
   | exact LeO.none _
   | refine LeO.ite ?_ ?_
   | refine LeO.bind ?_ (fun _ => ?_)
  ·intro y0 y1 y2 y3 y4
   unfold cutroomref36_Same.l0
   repeat' first
   | (with_reducible exact ih0 _ _ _ _ _)
   | (with_reducible exact ih1 _ _ _ _ _)
   | (with_reducible exact ih2 _ _ _ _ _)
   | (with_reducible exact LeO.refl _)
   | (with_reducible exact LeO.none _)
   | (with_reducible refine LeO.ite ?_ ?_)
   | (with_reducible refine LeO.bind ?_ (fun _ => ?_))
   | exact ih0 _ _ _ _ _
   | exact ih1 _ _ _ _ _
   | exact ih2 _ _ _ _ _
   | exact LeO.none _
   | refine LeO.ite ?_ ?_
   | refine LeO.bind ?_ (fun _ => ?_)
  ·intro y0 y1 y2 y3 y4
   unfold cutroomref36_Same.l1
   repeat' first
   | (with_reducible exact ih0 _ _ _ _ _)
   | (with_reducible exact ih1 _ _ _ _ _)
   | (with_reducible exact ih2 _ _ _ _ _)
   | (with_reducible exact LeO.refl _)
   | (with_reducible exact LeO.none _)
   | (with_reducible refine LeO.ite ?_ ?_)
   | (with_reducible refine LeO.bind ?_ (fun _ => ?_))
   | exact ih0 _ _ _ _ _
   | exact ih1 _ _ _ _ _
   | exact ih2 _ _ _ _ _
   | exact LeO.none _
   | refine LeO.ite ?_ ?_
   | refine LeO.bind ?_ (fun _ => ?_)
theorem cutroomref36_Same.mono : ∀ a0 a1 a2 a3 k, LeO (cutroomref36_Same.f k a0 a1 a2 a3) (cutroomref36_Same.f (k + 1) a0 a1 a2 a3) := by
 intro a0 a1 a2 a3 k
 obtain ⟨ih0, ih1, ih2⟩ := cutroomref36_Same.mono_l k
 unfold cutroomref36_Same.f
 repeat' first
   | (with_reducible exact ih0 _ _ _ _ _)
   | (with_reducible exact ih1 _ _ _ _ _)
   | (with_reducible exact ih2 _ _ _ _ _)
   | (with_reducible exact LeO.refl _)
   | (with_reducible exact LeO.none _)
   | (with_reducible refine LeO.ite ?_ ?_)
   | (with_reducible refine LeO.bind ?_ (fun _ => ?_))
   | exact ih0 _ _ _ _ _
   | exact ih1 _ _ _ _ _
   | exact ih2 _ _ _ _ _
   | exact LeO.none _
   | refine LeO.ite ?_ ?_
   | refine LeO.bind ?_ (fun _ => ?_)
set_option maxHeartbeats 8000000 in
set_option maxRecDepth 100000 in
theorem cutroomref36_Same.calls (k : Nat) (A0_0 : Option Addr) (c0_0 : Nat) (l0_0 : List (S37)) (A0_1 : Option Addr) (c0_1 : Nat) (l0_1 : List (S39)) (A1_0 : Option Addr) (c1_0 : Nat) (l1_0 : List (S37)) (A1_1 : Option Addr) (c1_1 : Nat) (l1_1 : List (S39)) (r : Bool) (w : World) (hr0_0 : Kd.C k37 w A0_0 l0_0.length l0_0) (hc0_0 : l0_0.length ≤ c0_0) (hr0_1 : Kd.C k39 w A0_1 l0_1.length l0_1) (hc0_1 : l0_1.length ≤ c0_1) (hr1_0 : Kd.C k37 w A1_0 l1_0.length l1_0) (hc1_0 : l1_0.length ≤ c1_0) (hr1_1 : Kd.C k39 w A1_1 l1_1.length l1_1) (hc1_1 : l1_1.length ≤ c1_1) (h : cutroomref36_Same.f k l0_0 l0_1 l1_0 l1_1 = some r) :
  Calls Try.prog 20 #[.agg #[.slice A0_0 l0_0.length c0_0, .slice A0_1 l0_1.length c0_1], .agg #[.slice A1_0 l1_0.length c1_0, .slice A1_1 l1_1.length c1_1]] w fun e w' => e = .returned (.bool r) ∧ Below w.heap.size w w' := by
 have hu30 := Try.underlying30
 have hu37 := Try.underlying37
 have hu39 := Try.underlying39
 have HR0_0 := Aside0.mk hr0_0
 have HC0_0 := Aside0.mk hc0_0
 clear hr0_0 hc0_0
 have HR0_1 := Aside0.mk hr0_1
 have HC0_1 := Aside0.mk hc0_1
 clear hr0_1 hc0_1
 have HR1_0 := Aside0.mk hr1_0
 have HC1_0 := Aside0.mk hc1_0
 clear hr1_0 hc1_0
 have HR1_1 := Aside0.mk hr1_1
 have HC1_1 := Aside0.mk hc1_1
 clear hr1_1 hc1_1
 have HB := Aside0.mk (Below.refl w.heap.size w)
 have H : (if (l0_0.length : Int) = (l1_0.length : Int) then (cutroomref36_Same.j0 k ((l0_1.length : Int) != (l1_1.length : Int)) l0_0 l0_1 l1_0 l1_1) else (cutroomref36_Same.j0 k true l0_0 l0_1 l1_0 l1_1)) = some r := h
 clear h
 have HC3 := Aside0.mk H
 clear H
 go_enter Try.func20, Try.ntmps20
 go_upto_region 1 with (first | ((with_reducible refine gate_dst (N := 2) rfl ?_); (try (refine gate_guard (by rfl) ?_; dsimp only)); refine box_event ?hg (N := 2) ?hd (cs := #[.slice A0_0 l0_0.length c0_0, .slice A0_1 l0_1.length c0_1]) (t := 30) ?hr ?_; (case hd => rfl); (case hg => rfl); (case hr => first | (go_simp; done) | (go_simp; rfl)); intro gb267 hg w4 hbox hb; have BK267 := Aside0.mk (hbox); have GW267 := gw_ hg kB; have GE267 := gw_ hg kB; replace HB := cB hb kB; clear hb hbox hg) | ((with_reducible refine gate_dst (N := 3) rfl ?_); (try (refine gate_guard (by rfl) ?_; dsimp only)); refine box_event ?hg (N := 3) ?hd (cs := #[.slice A1_0 l1_0.length c1_0, .slice A1_1 l1_1.length c1_1]) (t := 30) ?hr ?_; (case hd => rfl); (case hg => rfl); (case hr => first | (go_simp; done) | (go_simp; rfl)); intro gb268 hg w5 hbox hb; have BK268 := Aside0.mk (hbox); have GW268 := gw_ hg kB; have GE268 := gw_ hg kB; have NB267_268 := nb_lt hg BK267; have NB268_267 := nb_gt hg BK267; replace BK267 := cb BK267 hb; replace HB := cB hb kB; clear hb hbox hg))
 repeat (go_quiet (first | ((with_reducible refine gate_dst (N := 2) rfl ?_); (try (refine gate_guard (by rfl) ?_; dsimp only)); refine box_event ?hg (N := 2) ?hd (cs := #[.slice A0_0 l0_0.length c0_0, .slice A0_1 l0_1.length c0_1]) (t := 30) ?hr ?_; (case hd => rfl); (case hg => rfl); (case hr => first | (go_simp; done) | (go_simp; rfl)); intro gb267 hg w4 hbox hb; have BK267 := Aside0.mk (hbox); have GW267 := gw_ hg kB; have GE267 := gw_ hg kB; replace HB := cB hb kB; clear hb hbox hg) | ((with_reducible refine gate_dst (N := 3) rfl ?_); (try (refine gate_guard (by rfl) ?_; dsimp only)); refine box_event ?hg (N := 3) ?hd (cs := #[.slice A1_0 l1_0.length c1_0, .slice A1_1 l1_1.length c1_1]) (t := 30) ?hr ?_; (case hd => rfl); (case hg => rfl); (case hr => first | (go_simp; done) | (go_simp; rfl)); intro gb268 hg w5 hbox hb; have BK268 := Aside0.mk (hbox); have GW268 := gw_ hg kB; have GE268 := gw_ hg kB; have NB267_268 := nb_lt hg BK267; have NB268_267 := nb_gt hg BK267; replace BK267 := cb BK267 hb; replace HB := cB hb kB; clear hb hbox hg)); go_upto_region 1 with (first | ((with_reducible refine gate_dst (N := 2) rfl ?_); (try (refine gate_guard (by rfl) ?_; dsimp only)); refine box_event ?hg (N := 2) ?hd (cs := #[.slice A0_0 l0_0.length c0_0, .slice A0_1 l0_1.length c0_1]) (t := 30) ?hr ?_; (case hd => rfl); (case hg => rfl); (case hr => first | (go_simp; done) | (go_simp; rfl)); intro gb267 hg w4 hbox hb; have BK267 := Aside0.mk (hbox); have GW267 := gw_ hg kB; have GE267 := gw_ hg kB; replace HB := cB hb kB; clear hb hbox hg) | ((with_reducible refine gate_dst (N := 3) rfl ?_); (try (refine gate_guard (by rfl) ?_; dsimp only)); refine box_event ?hg (N := 3) ?hd (cs := #[.slice A1_0 l1_0.length c1_0, .slice A1_1 l1_1.length c1_1]) (t := 30) ?hr ?_; (case hd => rfl); (case hg => rfl); (case hr => first | (go_simp; done) | (go_simp; rfl)); intro gb268 hg w5 hbox hb; have BK268 := Aside0.mk (hbox); have GW268 := gw_ hg kB; have GE268 := gw_ hg kB; have NB267_268 := nb_lt hg BK267; have NB268_267 := nb_gt hg BK267; replace BK267 := cb BK267 hb; replace HB := cB hb kB; clear hb hbox hg)))
 (try simp only [Act.put, List.setIfInBounds_toArray, List.set_cons_zero, List.set_cons_succ])
 go_cut [22] (fun v22 wc => ∃ (kq : Nat) (x22_2 : Bool), v22 = .bool x22_2 ∧ Aside0 (cutroomref36_Same.j0 kq x22_2 l0_0 l0_1 l1_0 l1_1 = some r) ∧ Aside0 (kq ≤ k) ∧ Aside0 (wc.heap[gb267]? = some (.cells #[(.slice A0_0 l0_0.length c0_0), (.slice A0_1 l0_1.length c0_1)] 30 (0, 0))) ∧ Aside0 (wc.heap[gb268]? = some (.cells #[(.slice A1_0 l1_0.length c1_0), (.slice A1_1 l1_1.length c1_1)] 30 (0, 0))) ∧ Aside0 (Below w.heap.size w wc))
 case first =>
  have H := HC3.out
  clear HC3
  by_cases c6 : (l0_0.length : Int) = (l1_0.length : Int)
  ·rw [if_pos c6] at H
   have c6b0 : ((l0_0.length : Int) == (l1_0.length : Int)) = true := beq_iff_eq.mpr c6
   have c6b1 : ((l0_0.length : Int) != (l1_0.length : Int)) = false := bne_eq_false_iff_eq.mpr c6
   have c6b2 : (l0_0.length == l1_0.length) = true := by first | simpa using c6 | (simp at c6 ⊢; omega)
   clear c6
   (first | rw [c6b0] | (simp only [i64_w, i32_w]; rw [c6b0]) | skip)
   have H' := Aside0.mk H
   clear H
   have hnb7 := NB267_268.out
   have hnc7 := NB268_267.out
   have hcz8_0 : w5.cell? ⟨gb267, 0, none⟩ = some (.slice A0_0 l0_0.length c0_0) := (blk_cell BK267.out 0).trans rfl
   have hcz8_1 : w5.cell? ⟨gb267, 1, none⟩ = some (.slice A0_1 l0_1.length c0_1) := (blk_cell BK267.out 1).trans rfl
   have hfz8_0 := blk_frozen BK267.out 0
   have hfz8_1 := blk_frozen BK267.out 1
   have hcz9_0 : w5.cell? ⟨gb268, 0, none⟩ = some (.slice A1_0 l1_0.length c1_0) := (blk_cell BK268.out 0).trans rfl
   have hcz9_1 : w5.cell? ⟨gb268, 1, none⟩ = some (.slice A1_1 l1_1.length c1_1) := (blk_cell BK268.out 1).trans rfl
   have hfz9_0 := blk_frozen BK268.out 0
   have hfz9_1 := blk_frozen BK268.out 1
   go_wp2
   repeat (go_quiet (fail); try go_wp2)
   go_meet
   case rel => exact ⟨_, (((l0_1.length : Int) != (l1_1.length : Int))), (by first | rfl | (simp; done) | (simp [*]; done)), H', ⟨by first | omega | exact Nat.le_refl _⟩, ⟨kb BK267⟩, ⟨kb BK268⟩, ⟨kB⟩⟩
  ·rw [if_neg c6] at H
   have c6b0 : ((l0_0.length : Int) == (l1_0.length : Int)) = false := beq_eq_false_iff_ne.mpr c6
   have c6b1 : ((l0_0.length : Int) != (l1_0.length : Int)) = true := bne_iff_ne.mpr c6
   have c6b2 : (l0_0.length == l1_0.length) = false := by first | simpa using c6 | (simp at c6 ⊢; omega)
   (first | rw [c6b0] | (simp only [i64_w, i32_w]; rw [c6b0]) | skip)
   have H' := Aside0.mk H
   clear H
   have hnb10 := NB267_268.out
   have hnc10 := NB268_267.out
   have hcz11_0 : w5.cell? ⟨gb267, 0, none⟩ = some (.slice A0_0 l0_0.length c0_0) := (blk_cell BK267.out 0).trans rfl
   have hcz11_1 : w5.cell? ⟨gb267, 1, none⟩ = some (.slice A0_1 l0_1.length c0_1) := (blk_cell BK267.out 1).trans rfl
   have hfz11_0 := blk_frozen BK267.out 0
   have hfz11_1 := blk_frozen BK267.out 1
   have hcz12_0 : w5.cell? ⟨gb268, 0, none⟩ = some (.slice A1_0 l1_0.length c1_0) := (blk_cell BK268.out 0).trans rfl
   have hcz12_1 : w5.cell? ⟨gb268, 1, none⟩ = some (.slice A1_1 l1_1.length c1_1) := (blk_cell BK268.out 1).trans rfl
   have hfz12_0 := blk_frozen BK268.out 0
   have hfz12_1 := blk_frozen BK268.out 1
   go_wp2
   repeat (go_quiet (fail); try go_wp2)
   go_meet
   case rel => exact ⟨_, (true), (by first | rfl | (simp; done) | (simp [*]; done)), H', ⟨by first | omega | exact Nat.le_refl _⟩, ⟨kb BK267⟩, ⟨kb BK268⟩, ⟨kB⟩⟩
 case rest =>
  clear HC3
  try clear c1
  try clear c2
  try clear p2
  try clear c6
  try clear c6b0
  try clear c6b1
  try clear c6b2
  try clear c7
  try clear c10
  try clear hcz11_0
  try clear hcz11_1
  try clear hcz12_0
  try clear hcz12_1
  try clear hcz8_0
  try clear hcz8_1
  try clear hcz9_0
  try clear hcz9_1
  try clear hfz11_0
  try clear hfz11_1
  try clear hfz12_0
  try clear hfz12_1
  try clear hfz8_0
  try clear hfz8_1
  try clear hfz9_0
  try clear hfz9_1
  obtain ⟨kq, x22_2, rfl, HA, HJ2, BK267, BK268, HB⟩ := hcut
  cases kq with
  | zero => exact absurd HA.out (by simp [cutroomref36_Same.j0])
  | succ kj2 =>
   have H := HA.out
   clear HA
   simp only [cutroomref36_Same.j0] at H
   by_cases c13 : x22_2 = true
   ·subst c13
    have H1 : (some false) = some r := by rw [if_pos rfl] at H; exact H
    clear H
    have H := H1
    clear H1
    obtain rfl := Option.some.inj H
    go_wp2
    repeat (go_quiet (fail); try go_wp2)
    go_ret
    exact ⟨by first | rfl | (simp [errW_none, errW_some] <;> rfl) | (simp [*, errW_none, errW_some] <;> rfl), kB⟩
   ·replace c13 := Bool.eq_false_iff.mpr c13
    subst c13
    have H1 : (cutroomref36_Same.l0 kj2 0 l0_0 l0_1 l1_0 l1_1) = some r := by rw [if_neg (show ¬ (false = true) by decide)] at H; exact H
    clear H
    have H := H1
    clear H1
    have H' := Aside0.mk H
    clear H
    go_wp2
    repeat (go_quiet (fail); try go_wp2)
    go_loopg [5] kj2 (fun kq v5 w' => ∃ (x5_2 : Int), v5 = .int .i64 x5_2 ∧ Aside0 (cutroomref36_Same.l0 kq x5_2 l0_0 l0_1 l1_0 l1_1 = some r) ∧ Aside0 (kq ≤ kj2) ∧ Aside0 (w'.heap[gb267]? = some (.cells #[(.slice A0_0 l0_0.length c0_0), (.slice A0_1 l0_1.length c0_1)] 30 (0, 0))) ∧ Aside0 (w'.heap[gb268]? = some (.cells #[(.slice A1_0 l1_0.length c1_0), (.slice A1_1 l1_1.length c1_1)] 30 (0, 0))) ∧ Aside0 (Below w.heap.size w w'))
    case atStart => exact ⟨(0), (by first | rfl | (simp; done) | (simp [*]; done)), H', ⟨Nat.le_refl _⟩, ⟨kb BK267⟩, ⟨kb BK268⟩, ⟨kB⟩⟩
    case round =>
     clear H'
     try clear c1
     try clear c2
     try clear p2
     try clear c6
     try clear c6b0
     try clear c6b1
     try clear c6b2
     try clear c7
     try clear c10
     try clear c13
     try clear hcz11_0
     try clear hcz11_1
     try clear hcz12_0
     try clear hcz12_1
     try clear hcz8_0
     try clear hcz8_1
     try clear hcz9_0
     try clear hcz9_1
     try clear hfz11_0
     try clear hfz11_1
     try clear hfz12_0
     try clear hfz12_1
     try clear hfz8_0
     try clear hfz8_1
     try clear hfz9_0
     try clear hfz9_1
     try clear p2
     obtain ⟨x5_2, rfl, HA, HK2, BK267, BK268, HB⟩ := hrel
     cases gk with
     | zero => exact absurd HA.out (by simp [cutroomref36_Same.l0])
     | succ k2 =>
      have H := HA.out
      clear HA
      simp only [cutroomref36_Same.l0] at H
      by_cases c14 : x5_2 < (l0_0.length : Int)
      ·rw [if_pos c14] at H
       have c14b0 : decide (x5_2 < (l0_0.length : Int)) = true := decide_eq_true c14
       clear c14
       by_cases c15 : 0 ≤ x5_2
       ·rw [if_pos c15] at H
        have c15b0 : decide (0 ≤ x5_2) = true := decide_eq_true c15
        clear c15
        by_cases c16 : x5_2 < (l1_0.length : Int)
        ·rw [if_pos c16] at H
         have c16b0 : decide (x5_2 < (l1_0.length : Int)) = true := decide_eq_true c16
         clear c16
         by_cases c17 : (!((((rd_T37 l0_0 x5_2).f0).toList) == (((rd_T37 l1_0 x5_2).f0).toList)) || (!(((rd_T37 l0_0 x5_2).f1) == ((rd_T37 l1_0 x5_2).f1)) || (!(((rd_T37 l0_0 x5_2).f2) == ((rd_T37 l1_0 x5_2).f2))))) = true
         ·rw [if_pos c17] at H
          have c17b0 : (!((((rd_T37 l0_0 x5_2).f0).toList) == (((rd_T37 l1_0 x5_2).f0).toList)) || (!(((rd_T37 l0_0 x5_2).f1) == ((rd_T37 l1_0 x5_2).f1)) || (!(((rd_T37 l0_0 x5_2).f2) == ((rd_T37 l1_0 x5_2).f2))))) = true := c17
          clear c17
          obtain rfl := Option.some.inj H
          have hnb18 := NB267_268.out
          have hnc18 := NB268_267.out
          have hcz19_0 : wr.cell? ⟨gb267, 0, none⟩ = some (.slice A0_0 l0_0.length c0_0) := (blk_cell BK267.out 0).trans rfl
          have hcz19_1 : wr.cell? ⟨gb267, 1, none⟩ = some (.slice A0_1 l0_1.length c0_1) := (blk_cell BK267.out 1).trans rfl
          have hfz19_0 := blk_frozen BK267.out 0
          have hfz19_1 := blk_frozen BK267.out 1
          have p269 : 0 ≤ (x5_2 : Int) := of_decide_eq_true (by first | (with_reducible assumption) | assumption)
          have q269 : x5_2 < (l0_0.length : Int) := of_decide_eq_true (by first | (with_reducible assumption) | assumption)
          obtain ⟨ad269, e269, hx269_0, hx269_1, hx269_2⟩ := at_T37 HR0_0.out x5_2 p269 q269
          cases e269
          replace hx269_0 := (HB.out.cell (World.block_lt_of_cell? w _ hx269_0)).trans hx269_0
          replace hx269_1 := (HB.out.cell (World.block_lt_of_cell? w _ hx269_1)).trans hx269_1
          replace hx269_2 := (HB.out.cell (World.block_lt_of_cell? w _ hx269_2)).trans hx269_2
          replace p269 := eq_true p269
          replace q269 := eq_true q269
          have hcz20_0 : wr.cell? ⟨gb268, 0, none⟩ = some (.slice A1_0 l1_0.length c1_0) := (blk_cell BK268.out 0).trans rfl
          have hcz20_1 : wr.cell? ⟨gb268, 1, none⟩ = some (.slice A1_1 l1_1.length c1_1) := (blk_cell BK268.out 1).trans rfl
          have hfz20_0 := blk_frozen BK268.out 0
          have hfz20_1 := blk_frozen BK268.out 1
          have p270 : 0 ≤ (x5_2 : Int) := of_decide_eq_true (by first | (with_reducible assumption) | assumption)
          have q270 : x5_2 < (l1_0.length : Int) := of_decide_eq_true (by first | (with_reducible assumption) | assumption)
          obtain ⟨ad270, e270, hx270_0, hx270_1, hx270_2⟩ := at_T37 HR1_0.out x5_2 p270 q270
          cases e270
          replace hx270_0 := (HB.out.cell (World.block_lt_of_cell? w _ hx270_0)).trans hx270_0
          replace hx270_1 := (HB.out.cell (World.block_lt_of_cell? w _ hx270_1)).trans hx270_1
          replace hx270_2 := (HB.out.cell (World.block_lt_of_cell? w _ hx270_2)).trans hx270_2
          replace p270 := eq_true p270
          replace q270 := eq_true q270
          go_wp2
          repeat (go_quiet (fail); try go_wp2)
          go_ret
          exact ⟨by first | rfl | (simp [errW_none, errW_some] <;> rfl) | (simp [*, errW_none, errW_some] <;> rfl), kB⟩
         ·rw [if_neg c17] at H
          have c17b0 : (!((((rd_T37 l0_0 x5_2).f0).toList) == (((rd_T37 l1_0 x5_2).f0).toList)) || (!(((rd_T37 l0_0 x5_2).f1) == ((rd_T37 l1_0 x5_2).f1)) || (!(((rd_T37 l0_0 x5_2).f2) == ((rd_T37 l1_0 x5_2).f2))))) = false := by simpa using c17
          clear c17
          have H' := Aside0.mk H
          clear H
          have hnb21 := NB267_268.out
          have hnc21 := NB268_267.out
          have hcz22_0 : wr.cell? ⟨gb267, 0, none⟩ = some (.slice A0_0 l0_0.length c0_0) := (blk_cell BK267.out 0).trans rfl
          have hcz22_1 : wr.cell? ⟨gb267, 1, none⟩ = some (.slice A0_1 l0_1.length c0_1) := (blk_cell BK267.out 1).trans rfl
          have hfz22_0 := blk_frozen BK267.out 0
          have hfz22_1 := blk_frozen BK267.out 1
          have p269 : 0 ≤ (x5_2 : Int) := of_decide_eq_true (by first | (with_reducible assumption) | assumption)
          have q269 : x5_2 < (l0_0.length : Int) := of_decide_eq_true (by first | (with_reducible assumption) | assumption)
          obtain ⟨ad269, e269, hx269_0, hx269_1, hx269_2⟩ := at_T37 HR0_0.out x5_2 p269 q269
          cases e269
          replace hx269_0 := (HB.out.cell (World.block_lt_of_cell? w _ hx269_0)).trans hx269_0
          replace hx269_1 := (HB.out.cell (World.block_lt_of_cell? w _ hx269_1)).trans hx269_1
          replace hx269_2 := (HB.out.cell (World.block_lt_of_cell? w _ hx269_2)).trans hx269_2
          replace p269 := eq_true p269
          replace q269 := eq_true q269
          have hcz23_0 : wr.cell? ⟨gb268, 0, none⟩ = some (.slice A1_0 l1_0.length c1_0) := (blk_cell BK268.out 0).trans rfl
          have hcz23_1 : wr.cell? ⟨gb268, 1, none⟩ = some (.slice A1_1 l1_1.length c1_1) := (blk_cell BK268.out 1).trans rfl
          have hfz23_0 := blk_frozen BK268.out 0
          have hfz23_1 := blk_frozen BK268.out 1
          have p270 : 0 ≤ (x5_2 : Int) := of_decide_eq_true (by first | (with_reducible assumption) | assumption)
          have q270 : x5_2 < (l1_0.length : Int) := of_decide_eq_true (by first | (with_reducible assumption) | assumption)
          obtain ⟨ad270, e270, hx270_0, hx270_1, hx270_2⟩ := at_T37 HR1_0.out x5_2 p270 q270
          cases e270
          replace hx270_0 := (HB.out.cell (World.block_lt_of_cell? w _ hx270_0)).trans hx270_0
          replace hx270_1 := (HB.out.cell (World.block_lt_of_cell? w _ hx270_1)).trans hx270_1
          replace hx270_2 := (HB.out.cell (World.block_lt_of_cell? w _ hx270_2)).trans hx270_2
          replace p270 := eq_true p270
          replace q270 := eq_true q270
          go_wp2
          repeat (go_quiet (fail); try go_wp2)
          go_roundg k2
          case measure => have := HJ2.out; have := HK2.out; omega
          case rel => exact ⟨(wrap64 (x5_2 + 1)), (by first | rfl | (simp; done) | (simp [*]; done)), H', ⟨by have := HJ2.out; have := HK2.out; omega⟩, ⟨kb BK267⟩, ⟨kb BK268⟩, ⟨kB⟩⟩
        ·rw [if_neg c16] at H
         exact absurd H (by simp)
       ·rw [if_neg c15] at H
        exact absurd H (by simp)
      ·rw [if_neg c14] at H
       have c14b0 : decide (x5_2 < (l0_0.length : Int)) = false := decide_eq_false c14
       clear c14
       have H' := Aside0.mk H
       clear H
       have hnb24 := NB267_268.out
       have hnc24 := NB268_267.out
       have hcz25_0 : wr.cell? ⟨gb267, 0, none⟩ = some (.slice A0_0 l0_0.length c0_0) := (blk_cell BK267.out 0).trans rfl
       have hcz25_1 : wr.cell? ⟨gb267, 1, none⟩ = some (.slice A0_1 l0_1.length c0_1) := (blk_cell BK267.out 1).trans rfl
       have hfz25_0 := blk_frozen BK267.out 0
       have hfz25_1 := blk_frozen BK267.out 1
       go_wp2
       repeat (go_quiet (fail); try go_wp2)
       go_loopg [6] k2 (fun kq v6 w' => ∃ (x6_3 : Int), v6 = .int .i64 x6_3 ∧ Aside0 (cutroomref36_Same.l1 kq x6_3 l0_0 l0_1 l1_0 l1_1 = some r) ∧ Aside0 (kq ≤ k2) ∧ Aside0 (w'.heap[gb267]? = some (.cells #[(.slice A0_0 l0_0.length c0_0), (.slice A0_1 l0_1.length c0_1)] 30 (0, 0))) ∧ Aside0 (w'.heap[gb268]? = some (.cells #[(.slice A1_0 l1_0.length c1_0), (.slice A1_1 l1_1.length c1_1)] 30 (0, 0))) ∧ Aside0 (Below w.heap.size w w'))
       case atStart => exact ⟨(0), (by first | rfl | (simp; done) | (simp [*]; done)), H', ⟨Nat.le_refl _⟩, ⟨kb BK267⟩, ⟨kb BK268⟩, ⟨kB⟩⟩
       case round =>
        clear H'
        try clear c1
        try clear c2
        try clear p2
        try clear q2
        try clear hx2
        try clear c6
        try clear c6b0
        try clear c6b1
        try clear c6b2
        try clear p6
        try clear c7
        try clear c10
        try clear c13
        try clear c14
        try clear c14b0
        try clear c15
        try clear c15b0
        try clear c16
        try clear c16b0
        try clear c17
        try clear c17b0
        try clear c18
        try clear c20
        try clear c21
        try clear c24
        try clear hcz11_0
        try clear hcz11_1
        try clear hcz12_0
        try clear hcz12_1
        try clear hcz19_0
        try clear hcz19_1
        try clear hcz20_0
        try clear hcz20_1
        try clear hcz22_0
        try clear hcz22_1
        try clear hcz23_0
        try clear hcz23_1
        try clear hcz25_0
        try clear hcz25_1
        try clear hcz8_0
        try clear hcz8_1
        try clear hcz9_0
        try clear hcz9_1
        try clear hfz11_0
        try clear hfz11_1
        try clear hfz12_0
        try clear hfz12_1
        try clear hfz19_0
        try clear hfz19_1
        try clear hfz20_0
        try clear hfz20_1
        try clear hfz22_0
        try clear hfz22_1
        try clear hfz23_0
        try clear hfz23_1
        try clear hfz25_0
        try clear hfz25_1
        try clear hfz8_0
        try clear hfz8_1
        try clear hfz9_0
        try clear hfz9_1
        try clear hx269_0
        try clear hx269_1
        try clear hx269_2
        try clear hx270_0
        try clear hx270_1
        try clear hx270_2
        try clear p2
        try clear p269
        try clear p270
        try clear q269
        try clear q270
        obtain ⟨x6_3, rfl, HA, HK3, BK267, BK268, HB⟩ := hrel
        cases gk with
        | zero => exact absurd HA.out (by simp [cutroomref36_Same.l1])
        | succ k3 =>
         have H := HA.out
         clear HA
         simp only [cutroomref36_Same.l1] at H
         by_cases c26 : x6_3 < (l0_1.length : Int)
         ·rw [if_pos c26] at H
          have c26b0 : decide (x6_3 < (l0_1.length : Int)) = true := decide_eq_true c26
          clear c26
          by_cases c27 : 0 ≤ x6_3
          ·rw [if_pos c27] at H
           have c27b0 : decide (0 ≤ x6_3) = true := decide_eq_true c27
           clear c27
           by_cases c28 : x6_3 < (l1_1.length : Int)
           ·rw [if_pos c28] at H
            have c28b0 : decide (x6_3 < (l1_1.length : Int)) = true := decide_eq_true c28
            clear c28
            by_cases c29 : (!((((rd_T39 l0_1 x6_3).f0).toList) == (((rd_T39 l1_1 x6_3).f0).toList)) || (!((((rd_T39 l0_1 x6_3).f1).toList) == (((rd_T39 l1_1 x6_3).f1).toList)) || (!(((rd_T39 l0_1 x6_3).f2) == ((rd_T39 l1_1 x6_3).f2)) || (!((((rd_T39 l0_1 x6_3).f3).toList) == (((rd_T39 l1_1 x6_3).f3).toList)))))) = true
            ·rw [if_pos c29] at H
             have c29b0 : (!((((rd_T39 l0_1 x6_3).f0).toList) == (((rd_T39 l1_1 x6_3).f0).toList)) || (!((((rd_T39 l0_1 x6_3).f1).toList) == (((rd_T39 l1_1 x6_3).f1).toList)) || (!(((rd_T39 l0_1 x6_3).f2) == ((rd_T39 l1_1 x6_3).f2)) || (!((((rd_T39 l0_1 x6_3).f3).toList) == (((rd_T39 l1_1 x6_3).f3).toList)))))) = true := c29
             clear c29
             obtain rfl := Option.some.inj H
             have hnb30 := NB267_268.out
             have hnc30 := NB268_267.out
             have hcz31_0 : wr.cell? ⟨gb267, 0, none⟩ = some (.slice A0_0 l0_0.length c0_0) := (blk_cell BK267.out 0).trans rfl
             have hcz31_1 : wr.cell? ⟨gb267, 1, none⟩ = some (.slice A0_1 l0_1.length c0_1) := (blk_cell BK267.out 1).trans rfl
             have hfz31_0 := blk_frozen BK267.out 0
             have hfz31_1 := blk_frozen BK267.out 1
             have p271 : 0 ≤ (x6_3 : Int) := of_decide_eq_true (by first | (with_reducible assumption) | assumption)
             have q271 : x6_3 < (l0_1.length : Int) := of_decide_eq_true (by first | (with_reducible assumption) | assumption)
             obtain ⟨ad271, e271, hx271_0, hx271_1, hx271_2, hx271_3⟩ := at_T39 HR0_1.out x6_3 p271 q271
             cases e271
             replace hx271_0 := (HB.out.cell (World.block_lt_of_cell? w _ hx271_0)).trans hx271_0
             replace hx271_1 := (HB.out.cell (World.block_lt_of_cell? w _ hx271_1)).trans hx271_1
             replace hx271_2 := (HB.out.cell (World.block_lt_of_cell? w _ hx271_2)).trans hx271_2
             replace hx271_3 := (HB.out.cell (World.block_lt_of_cell? w _ hx271_3)).trans hx271_3
             replace p271 := eq_true p271
             replace q271 := eq_true q271
             have hcz32_0 : wr.cell? ⟨gb268, 0, none⟩ = some (.slice A1_0 l1_0.length c1_0) := (blk_cell BK268.out 0).trans rfl
             have hcz32_1 : wr.cell? ⟨gb268, 1, none⟩ = some (.slice A1_1 l1_1.length c1_1) := (blk_cell BK268.out 1).trans rfl
             have hfz32_0 := blk_frozen BK268.out 0
             have hfz32_1 := blk_frozen BK268.out 1
             have p272 : 0 ≤ (x6_3 : Int) := of_decide_eq_true (by first | (with_reducible assumption) | assumption)
             have q272 : x6_3 < (l1_1.length : Int) := of_decide_eq_true (by first | (with_reducible assumption) | assumption)
             obtain ⟨ad272, e272, hx272_0, hx272_1, hx272_2, hx272_3⟩ := at_T39 HR1_1.out x6_3 p272 q272
             cases e272
             replace hx272_0 := (HB.out.cell (World.block_lt_of_cell? w _ hx272_0)).trans hx272_0
             replace hx272_1 := (HB.out.cell (World.block_lt_of_cell? w _ hx272_1)).trans hx272_1
             replace hx272_2 := (HB.out.cell (World.block_lt_of_cell? w _ hx272_2)).trans hx272_2
             replace hx272_3 := (HB.out.cell (World.block_lt_of_cell? w _ hx272_3)).trans hx272_3
             replace p272 := eq_true p272
             replace q272 := eq_true q272
             go_wp2
             repeat (go_quiet (fail); try go_wp2)
             go_ret
             exact ⟨by first | rfl | (simp [errW_none, errW_some] <;> rfl) | (simp [*, errW_none, errW_some] <;> rfl), kB⟩
            ·rw [if_neg c29] at H
             have c29b0 : (!((((rd_T39 l0_1 x6_3).f0).toList) == (((rd_T39 l1_1 x6_3).f0).toList)) || (!((((rd_T39 l0_1 x6_3).f1).toList) == (((rd_T39 l1_1 x6_3).f1).toList)) || (!(((rd_T39 l0_1 x6_3).f2) == ((rd_T39 l1_1 x6_3).f2)) || (!((((rd_T39 l0_1 x6_3).f3).toList) == (((rd_T39 l1_1 x6_3).f3).toList)))))) = false := by simpa using c29
             clear c29
             have H' := Aside0.mk H
             clear H
             have hnb33 := NB267_268.out
             have hnc33 := NB268_267.out
             have hcz34_0 : wr.cell? ⟨gb267, 0, none⟩ = some (.slice A0_0 l0_0.length c0_0) := (blk_cell BK267.out 0).trans rfl
             have hcz34_1 : wr.cell? ⟨gb267, 1, none⟩ = some (.slice A0_1 l0_1.length c0_1) := (blk_cell BK267.out 1).trans rfl
             have hfz34_0 := blk_frozen BK267.out 0
             have hfz34_1 := blk_frozen BK267.out 1
             have p271 : 0 ≤ (x6_3 : Int) := of_decide_eq_true (by first | (with_reducible assumption) | assumption)
             have q271 : x6_3 < (l0_1.length : Int) := of_decide_eq_true (by first | (with_reducible assumption) | assumption)
             obtain ⟨ad271, e271, hx271_0, hx271_1, hx271_2, hx271_3⟩ := at_T39 HR0_1.out x6_3 p271 q271
             cases e271
             replace hx271_0 := (HB.out.cell (World.block_lt_of_cell? w _ hx271_0)).trans hx271_0
             replace hx271_1 := (HB.out.cell (World.block_lt_of_cell? w _ hx271_1)).trans hx271_1
             replace hx271_2 := (HB.out.cell (World.block_lt_of_cell? w _ hx271_2)).trans hx271_2
             replace hx271_3 := (HB.out.cell (World.block_lt_of_cell? w _ hx271_3)).trans hx271_3
             replace p271 := eq_true p271
             replace q271 := eq_true q271
             have hcz35_0 : wr.cell? ⟨gb268, 0, none⟩ = some (.slice A1_0 l1_0.length c1_0) := (blk_cell BK268.out 0).trans rfl
             have hcz35_1 : wr.cell? ⟨gb268, 1, none⟩ = some (.slice A1_1 l1_1.length c1_1) := (blk_cell BK268.out 1).trans rfl
             have hfz35_0 := blk_frozen BK268.out 0
             have hfz35_1 := blk_frozen BK268.out 1
             have p272 : 0 ≤ (x6_3 : Int) := of_decide_eq_true (by first | (with_reducible assumption) | assumption)
             have q272 : x6_3 < (l1_1.length : Int) := of_decide_eq_true (by first | (with_reducible assumption) | assumption)
             obtain ⟨ad272, e272, hx272_0, hx272_1, hx272_2, hx272_3⟩ := at_T39 HR1_1.out x6_3 p272 q272
             cases e272
             replace hx272_0 := (HB.out.cell (World.block_lt_of_cell? w _ hx272_0)).trans hx272_0
             replace hx272_1 := (HB.out.cell (World.block_lt_of_cell? w _ hx272_1)).trans hx272_1
             replace hx272_2 := (HB.out.cell (World.block_lt_of_cell? w _ hx272_2)).trans hx272_2
             replace hx272_3 := (HB.out.cell (World.block_lt_of_cell? w _ hx272_3)).trans hx272_3
             replace p272 := eq_true p272
             replace q272 := eq_true q272
             go_wp2
             repeat (go_quiet (fail); try go_wp2)
             go_roundg k3
             case measure => have := HJ2.out; have := HK2.out; have := HK3.out; omega
             case rel => exact ⟨(wrap64 (x6_3 + 1)), (by first | rfl | (simp; done) | (simp [*]; done)), H', ⟨by have := HJ2.out; have := HK2.out; have := HK3.out; omega⟩, ⟨kb BK267⟩, ⟨kb BK268⟩, ⟨kB⟩⟩
           ·rw [if_neg c28] at H
            exact absurd H (by simp)
          ·rw [if_neg c27] at H
           exact absurd H (by simp)
         ·rw [if_neg c26] at H
          have c26b0 : decide (x6_3 < (l0_1.length : Int)) = false := decide_eq_false c26
          clear c26
          obtain rfl := Option.some.inj H
          have hnb36 := NB267_268.out
          have hnc36 := NB268_267.out
          have hcz37_0 : wr.cell? ⟨gb267, 0, none⟩ = some (.slice A0_0 l0_0.length c0_0) := (blk_cell BK267.out 0).trans rfl
          have hcz37_1 : wr.cell? ⟨gb267, 1, none⟩ = some (.slice A0_1 l0_1.length c0_1) := (blk_cell BK267.out 1).trans rfl
          have hfz37_0 := blk_frozen BK267.out 0
          have hfz37_1 := blk_frozen BK267.out 1
          go_wp2
          repeat (go_quiet (fail); try go_wp2)
          go_ret
          exact ⟨by first | rfl | (simp [errW_none, errW_some] <;> rfl) | (simp [*, errW_none, errW_some] <;> rfl), kB⟩
def cutroomref36_SameOuts.l0 : Nat → List (S61) → List (S61) → Int → Option (Bool)
 | 0, _, _, _ => none
 | k + 1, x0, x1, x5 => if x5 < (x0.length : Int) then (if 0 ≤ x5 then (if x5 < (x1.length : Int) then (if (!((((rd_T61 x0 x5).f0).toList) == (((rd_T61 x1 x5).f0).toList)) || (!(((rd_T61 x0 x5).f1) == ((rd_T61 x1 x5).f1)))) = true then (some false) else (cutroomref36_SameOuts.l0 k x0 x1 (wrap64 (x5 + 1)))) else (none)) else (none)) else (some true)
def cutroomref36_SameOuts.f (k : Nat) (l0 : List (S61)) (l1 : List (S61)) : Option (Bool) := if (l0.length : Int) = (l1.length : Int) then (cutroomref36_SameOuts.l0 k l0 l1 0) else (some false)
theorem cutroomref36_SameOuts.mono_l : ∀ k, (∀ y0 y1 y2, LeO (cutroomref36_SameOuts.l0 k y0 y1 y2) (cutroomref36_SameOuts.l0 (k + 1) y0 y1 y2))
 | 0 => fun _ _ _ r h => by simp [cutroomref36_SameOuts.l0] at h
 | k + 1 => by
  have ih0 := cutroomref36_SameOuts.mono_l k
  ·intro y0 y1 y2
   unfold cutroomref36_SameOuts.l0
   repeat' first
   | (with_reducible exact ih0 _ _ _)
   | (with_reducible exact LeO.refl _)
   | (with_reducible exact LeO.none _)
   | (with_reducible refine LeO.ite ?_ ?_)
   | (with_reducible refine LeO.bind ?_ (fun _ => ?_))
   | exact ih0 _ _ _
   | exact LeO.none _
   | refine LeO.ite ?_ ?_
   | refine LeO.bind ?_ (fun _ => ?_)
theorem cutroomref36_SameOuts.mono : ∀ a0 a1 k, LeO (cutroomref36_SameOuts.f k a0 a1) (cutroomref36_SameOuts.f (k + 1) a0 a1) := by
 intro a0 a1 k
 have ih0 := cutroomref36_SameOuts.mono_l k
 unfold cutroomref36_SameOuts.f
 repeat' first
   | (with_reducible exact ih0 _ _ _)
   | (with_reducible exact LeO.refl _)
   | (with_reducible exact LeO.none _)
   | (with_reducible refine LeO.ite ?_ ?_)
   | (with_reducible refine LeO.bind ?_ (fun _ => ?_))
   | exact ih0 _ _ _
   | exact LeO.none _
   | refine LeO.ite ?_ ?_
   | refine LeO.bind ?_ (fun _ => ?_)
set_option maxHeartbeats 8000000 in
set_option maxRecDepth 100000 in
theorem cutroomref36_SameOuts.calls (k : Nat) (A0 : Option Addr) (c0 : Nat) (l0 : List (S61)) (A1 : Option Addr) (c1 : Nat) (l1 : List (S61)) (r : Bool) (w : World) (hr0 : Kd.C k61 w A0 l0.length l0) (hc0 : l0.length ≤ c0) (hr1 : Kd.C k61 w A1 l1.length l1) (hc1 : l1.length ≤ c1) (h : cutroomref36_SameOuts.f k l0 l1 = some r) :
  Calls Try.prog 21 #[.slice A0 l0.length c0, .slice A1 l1.length c1] w fun e w' => e = .returned (.bool r) ∧ Drawn0 w w' := by
 have hu61 := Try.underlying61
 have HR0 := Aside0.mk hr0
 have HC0 := Aside0.mk hc0
 clear hr0 hc0
 have HR1 := Aside0.mk hr1
 have HC1 := Aside0.mk hc1
 clear hr1 hc1
 have H : (if (l0.length : Int) = (l1.length : Int) then (cutroomref36_SameOuts.l0 k l0 l1 0) else (some false)) = some r := h
 clear h
 by_cases c3 : (l0.length : Int) = (l1.length : Int)
 ·rw [if_pos c3] at H
  have c3b0 : ((l0.length : Int) == (l1.length : Int)) = true := beq_iff_eq.mpr c3
  have c3b1 : ((l0.length : Int) != (l1.length : Int)) = false := bne_eq_false_iff_eq.mpr c3
  have c3b2 : (l0.length == l1.length) = true := by first | simpa using c3 | (simp at c3 ⊢; omega)
  clear c3
  have H' := Aside0.mk H
  clear H
  go_enter Try.func21, Try.ntmps21
  go_wp2
  repeat (go_quiet (fail); try go_wp2)
  go_loopg [5] k (fun kq v5 w' => ∃ (x5_1 : Int), v5 = .int .i64 x5_1 ∧ Aside0 (cutroomref36_SameOuts.l0 kq l0 l1 x5_1 = some r) ∧ Aside0 (kq ≤ k) ∧ Drawn0 w w')
  case atStart => exact ⟨(0), (by first | rfl | (simp; done) | (simp [*]; done)), H', ⟨Nat.le_refl _⟩, by repeat (first | exact Drawn0.refl _ | apply Drawn0.step)⟩
  case round =>
   clear H'
   try clear c1
   try clear c2
   try clear p2
   try clear c3
   try clear c3b0
   try clear c3b1
   try clear c3b2
   obtain ⟨x5_1, rfl, HA, HK1, ⟨m1, rfl⟩⟩ := hrel
   cases gk with
   | zero => exact absurd HA.out (by simp [cutroomref36_SameOuts.l0])
   | succ k1 =>
    have H := HA.out
    clear HA
    simp only [cutroomref36_SameOuts.l0] at H
    by_cases c4 : x5_1 < (l0.length : Int)
    ·rw [if_pos c4] at H
     have c4b0 : decide (x5_1 < (l0.length : Int)) = true := decide_eq_true c4
     clear c4
     by_cases c5 : 0 ≤ x5_1
     ·rw [if_pos c5] at H
      have c5b0 : decide (0 ≤ x5_1) = true := decide_eq_true c5
      clear c5
      by_cases c6 : x5_1 < (l1.length : Int)
      ·rw [if_pos c6] at H
       have c6b0 : decide (x5_1 < (l1.length : Int)) = true := decide_eq_true c6
       clear c6
       by_cases c7 : (!((((rd_T61 l0 x5_1).f0).toList) == (((rd_T61 l1 x5_1).f0).toList)) || (!(((rd_T61 l0 x5_1).f1) == ((rd_T61 l1 x5_1).f1)))) = true
       ·rw [if_pos c7] at H
        have c7b0 : (!((((rd_T61 l0 x5_1).f0).toList) == (((rd_T61 l1 x5_1).f0).toList)) || (!(((rd_T61 l0 x5_1).f1) == ((rd_T61 l1 x5_1).f1)))) = true := c7
        clear c7
        obtain rfl := Option.some.inj H
        have p273 : 0 ≤ (x5_1 : Int) := of_decide_eq_true (by first | (with_reducible assumption) | assumption)
        have q273 : x5_1 < (l0.length : Int) := of_decide_eq_true (by first | (with_reducible assumption) | assumption)
        obtain ⟨ad273, e273, hx273_0, hx273_1⟩ := at_T61 HR0.out x5_1 p273 q273
        cases e273
        replace p273 := eq_true p273
        replace q273 := eq_true q273
        have p274 : 0 ≤ (x5_1 : Int) := of_decide_eq_true (by first | (with_reducible assumption) | assumption)
        have q274 : x5_1 < (l1.length : Int) := of_decide_eq_true (by first | (with_reducible assumption) | assumption)
        obtain ⟨ad274, e274, hx274_0, hx274_1⟩ := at_T61 HR1.out x5_1 p274 q274
        cases e274
        replace p274 := eq_true p274
        replace q274 := eq_true q274
        go_wp2
        repeat (go_quiet (fail); try go_wp2)
        go_ret
        exact ⟨by first | rfl | (simp; done) | (simp [*]; done), by repeat (first | exact Drawn0.refl _ | apply Drawn0.step)⟩
       ·rw [if_neg c7] at H
        have c7b0 : (!((((rd_T61 l0 x5_1).f0).toList) == (((rd_T61 l1 x5_1).f0).toList)) || (!(((rd_T61 l0 x5_1).f1) == ((rd_T61 l1 x5_1).f1)))) = false := by simpa using c7
        clear c7
        have H' := Aside0.mk H
        clear H
        have p273 : 0 ≤ (x5_1 : Int) := of_decide_eq_true (by first | (with_reducible assumption) | assumption)
        have q273 : x5_1 < (l0.length : Int) := of_decide_eq_true (by first | (with_reducible assumption) | assumption)
        obtain ⟨ad273, e273, hx273_0, hx273_1⟩ := at_T61 HR0.out x5_1 p273 q273
        cases e273
        replace p273 := eq_true p273
        replace q273 := eq_true q273
        have p274 : 0 ≤ (x5_1 : Int) := of_decide_eq_true (by first | (with_reducible assumption) | assumption)
        have q274 : x5_1 < (l1.length : Int) := of_decide_eq_true (by first | (with_reducible assumption) | assumption)
        obtain ⟨ad274, e274, hx274_0, hx274_1⟩ := at_T61 HR1.out x5_1 p274 q274
        cases e274
        replace p274 := eq_true p274
        replace q274 := eq_true q274
        go_wp2
        repeat (go_quiet (fail); try go_wp2)
        go_roundg k1
        case measure => have := HK1.out; omega
        case rel => exact ⟨(wrap64 (x5_1 + 1)), (by first | rfl | (simp; done) | (simp [*]; done)), H', ⟨by have := HK1.out; omega⟩, by repeat (first | exact Drawn0.refl _ | apply Drawn0.step)⟩
      ·rw [if_neg c6] at H
       exact absurd H (by simp)
     ·rw [if_neg c5] at H
      exact absurd H (by simp)
    ·rw [if_neg c4] at H
     have c4b0 : decide (x5_1 < (l0.length : Int)) = false := decide_eq_false c4
     clear c4
     obtain rfl := Option.some.inj H
     go_wp2
     repeat (go_quiet (fail); try go_wp2)
     go_ret
     exact ⟨by first | rfl | (simp; done) | (simp [*]; done), by repeat (first | exact Drawn0.refl _ | apply Drawn0.step)⟩
 ·rw [if_neg c3] at H
  have c3b0 : ((l0.length : Int) == (l1.length : Int)) = false := beq_eq_false_iff_ne.mpr c3
  have c3b1 : ((l0.length : Int) != (l1.length : Int)) = true := bne_iff_ne.mpr c3
  have c3b2 : (l0.length == l1.length) = false := by first | simpa using c3 | (simp at c3 ⊢; omega)
  obtain rfl := Option.some.inj H
  go_enter Try.func21, Try.ntmps21
  go_wp2
  repeat (go_quiet (fail); try go_wp2)
  go_ret
  exact ⟨by first | rfl | (simp; done) | (simp [*]; done), by repeat (first | exact Drawn0.refl _ | apply Drawn0.step)⟩
def cutroomlaw36_errnos.l0 : Nat → List Int → List Int → Int → Int → Option (Bool)
 | 0, _, _, _, _ => none
 | k + 1, x0, x1, x12, x13 => if x13 < x12 then (if 0 ≤ x13 then (if x13 < (x0.length : Int) then (if x13 < (x1.length : Int) then (if (rd x0 x13) = (rd x1 x13) then (cutroomlaw36_errnos.l0 k x0 x1 x12 (wrap64 (x13 + 1))) else (some false)) else (none)) else (none)) else (none)) else (some true)
def cutroomlaw36_errnos.f (k : Nat) (l0 : List Int) (l1 : List Int) : Option (Bool) := if (l0.length : Int) = (l1.length : Int) then (cutroomlaw36_errnos.l0 k l0 l1 (l0.length : Int) 0) else (some false)
theorem cutroomlaw36_errnos.mono_l : ∀ k, (∀ y0 y1 y2 y3, LeO (cutroomlaw36_errnos.l0 k y0 y1 y2 y3) (cutroomlaw36_errnos.l0 (k + 1) y0 y1 y2 y3))
 | 0 => fun _ _ _ _ r h => by simp [cutroomlaw36_errnos.l0] at h
 | k + 1 => by
  have ih0 := cutroomlaw36_errnos.mono_l k
  ·intro y0 y1 y2 y3
   unfold cutroomlaw36_errnos.l0
   repeat' first
   | (with_reducible exact ih0 _ _ _ _)
   | (with_reducible exact LeO.refl _)
   | (with_reducible exact LeO.none _)
   | (with_reducible refine LeO.ite ?_ ?_)
   | (with_reducible refine LeO.bind ?_ (fun _ => ?_))
   | exact ih0 _ _ _ _
   | exact LeO.none _
   | refine LeO.ite ?_ ?_
   | refine LeO.bind ?_ (fun _ => ?_)
theorem cutroomlaw36_errnos.mono : ∀ a0 a1 k, LeO (cutroomlaw36_errnos.f k a0 a1) (cutroomlaw36_errnos.f (k + 1) a0 a1) := by
 intro a0 a1 k
 have ih0 := cutroomlaw36_errnos.mono_l k
 unfold cutroomlaw36_errnos.f
 repeat' first
   | (with_reducible exact ih0 _ _ _ _)
   | (with_reducible exact LeO.refl _)
   | (with_reducible exact LeO.none _)
   | (with_reducible refine LeO.ite ?_ ?_)
   | (with_reducible refine LeO.bind ?_ (fun _ => ?_))
   | exact ih0 _ _ _ _
   | exact LeO.none _
   | refine LeO.ite ?_ ?_
   | refine LeO.bind ?_ (fun _ => ?_)
set_option maxHeartbeats 8000000 in
set_option maxRecDepth 100000 in
theorem cutroomlaw36_errnos.calls (k : Nat) (A0 : Option Addr) (c0 : Nat) (l0 : List Int) (A1 : Option Addr) (c1 : Nat) (l1 : List Int) (r : Bool) (w : World) (hr0 : Kd.C (Kd.int .i64) w A0 l0.length l0) (hc0 : l0.length ≤ c0) (hr1 : Kd.C (Kd.int .i64) w A1 l1.length l1) (hc1 : l1.length ≤ c1) (h : cutroomlaw36_errnos.f k l0 l1 = some r) :
  Calls Try.prog 24 #[.slice A0 l0.length c0, .slice A1 l1.length c1] w fun e w' => e = .returned (.bool r) ∧ Drawn0 w w' := by
 have HR0 := Aside0.mk hr0
 have HC0 := Aside0.mk hc0
 clear hr0 hc0
 have HR1 := Aside0.mk hr1
 have HC1 := Aside0.mk hc1
 clear hr1 hc1
 have H : (if (l0.length : Int) = (l1.length : Int) then (cutroomlaw36_errnos.l0 k l0 l1 (l0.length : Int) 0) else (some false)) = some r := h
 clear h
 by_cases c3 : (l0.length : Int) = (l1.length : Int)
 ·rw [if_pos c3] at H
  have c3b0 : ((l0.length : Int) == (l1.length : Int)) = true := beq_iff_eq.mpr c3
  have c3b1 : ((l0.length : Int) != (l1.length : Int)) = false := bne_eq_false_iff_eq.mpr c3
  have c3b2 : (l0.length == l1.length) = true := by first | simpa using c3 | (simp at c3 ⊢; omega)
  clear c3
  have H' := Aside0.mk H
  clear H
  go_enter Try.func24, Try.ntmps24
  go_wp2
  repeat (go_quiet (fail); try go_wp2)
  go_loopg [13] k (fun kq v13 w' => ∃ (x13_1 : Int), v13 = .int .i64 x13_1 ∧ Aside0 (cutroomlaw36_errnos.l0 kq l0 l1 (l0.length : Int) x13_1 = some r) ∧ Aside0 (kq ≤ k) ∧ Drawn0 w w')
  case atStart => exact ⟨(0), (by first | rfl | (simp; done) | (simp [*]; done)), H', ⟨Nat.le_refl _⟩, by repeat (first | exact Drawn0.refl _ | apply Drawn0.step)⟩
  case round =>
   clear H'
   try clear c1
   try clear c2
   try clear p2
   try clear c3
   try clear c3b0
   try clear c3b1
   try clear c3b2
   obtain ⟨x13_1, rfl, HA, HK1, ⟨m1, rfl⟩⟩ := hrel
   cases gk with
   | zero => exact absurd HA.out (by simp [cutroomlaw36_errnos.l0])
   | succ k1 =>
    have H := HA.out
    clear HA
    simp only [cutroomlaw36_errnos.l0] at H
    by_cases c4 : x13_1 < (l0.length : Int)
    ·rw [if_pos c4] at H
     have c4b0 : decide (x13_1 < (l0.length : Int)) = true := decide_eq_true c4
     clear c4
     by_cases c5 : 0 ≤ x13_1
     ·rw [if_pos c5] at H
      have c5b0 : decide (0 ≤ x13_1) = true := decide_eq_true c5
      clear c5
      by_cases c6 : x13_1 < (l0.length : Int)
      ·rw [if_pos c6] at H
       have c6b0 : decide (x13_1 < (l0.length : Int)) = true := decide_eq_true c6
       clear c6
       by_cases c7 : x13_1 < (l1.length : Int)
       ·rw [if_pos c7] at H
        have c7b0 : decide (x13_1 < (l1.length : Int)) = true := decide_eq_true c7
        clear c7
        by_cases c8 : (rd l0 x13_1) = (rd l1 x13_1)
        ·rw [if_pos c8] at H
         have c8b0 : ((rd l0 x13_1) == (rd l1 x13_1)) = true := beq_iff_eq.mpr c8
         have c8b1 : ((rd l0 x13_1) != (rd l1 x13_1)) = false := bne_eq_false_iff_eq.mpr c8
         clear c8
         have H' := Aside0.mk H
         clear H
         have p275 : 0 ≤ (x13_1 : Int) := of_decide_eq_true (by first | (with_reducible assumption) | assumption)
         have q275 : x13_1 < (l0.length : Int) := of_decide_eq_true (by first | (with_reducible assumption) | assumption)
         obtain ⟨ad275, e275, hx275_0⟩ := Kd.at_int HR0.out x13_1 p275 q275
         cases e275
         replace p275 := eq_true p275
         replace q275 := eq_true q275
         have p276 : 0 ≤ (x13_1 : Int) := of_decide_eq_true (by first | (with_reducible assumption) | assumption)
         have q276 : x13_1 < (l1.length : Int) := of_decide_eq_true (by first | (with_reducible assumption) | assumption)
         obtain ⟨ad276, e276, hx276_0⟩ := Kd.at_int HR1.out x13_1 p276 q276
         cases e276
         replace p276 := eq_true p276
         replace q276 := eq_true q276
         go_wp2
         repeat (go_quiet (fail); try go_wp2)
         go_roundg k1
         case measure => have := HK1.out; omega
         case rel => exact ⟨(wrap64 (x13_1 + 1)), (by first | rfl | (simp; done) | (simp [*]; done)), H', ⟨by have := HK1.out; omega⟩, by repeat (first | exact Drawn0.refl _ | apply Drawn0.step)⟩
        ·rw [if_neg c8] at H
         have c8b0 : ((rd l0 x13_1) == (rd l1 x13_1)) = false := beq_eq_false_iff_ne.mpr c8
         have c8b1 : ((rd l0 x13_1) != (rd l1 x13_1)) = true := bne_iff_ne.mpr c8
         obtain rfl := Option.some.inj H
         have p275 : 0 ≤ (x13_1 : Int) := of_decide_eq_true (by first | (with_reducible assumption) | assumption)
         have q275 : x13_1 < (l0.length : Int) := of_decide_eq_true (by first | (with_reducible assumption) | assumption)
         obtain ⟨ad275, e275, hx275_0⟩ := Kd.at_int HR0.out x13_1 p275 q275
         cases e275
         replace p275 := eq_true p275
         replace q275 := eq_true q275
         have p276 : 0 ≤ (x13_1 : Int) := of_decide_eq_true (by first | (with_reducible assumption) | assumption)
         have q276 : x13_1 < (l1.length : Int) := of_decide_eq_true (by first | (with_reducible assumption) | assumption)
         obtain ⟨ad276, e276, hx276_0⟩ := Kd.at_int HR1.out x13_1 p276 q276
         cases e276
         replace p276 := eq_true p276
         replace q276 := eq_true q276
         go_wp2
         repeat (go_quiet (fail); try go_wp2)
         go_ret
         exact ⟨by first | rfl | (simp; done) | (simp [*]; done), by repeat (first | exact Drawn0.refl _ | apply Drawn0.step)⟩
       ·rw [if_neg c7] at H
        exact absurd H (by simp)
      ·rw [if_neg c6] at H
       exact absurd H (by simp)
     ·rw [if_neg c5] at H
      exact absurd H (by simp)
    ·rw [if_neg c4] at H
     have c4b0 : decide (x13_1 < (l0.length : Int)) = false := decide_eq_false c4
     clear c4
     obtain rfl := Option.some.inj H
     go_wp2
     repeat (go_quiet (fail); try go_wp2)
     go_ret
     exact ⟨by first | rfl | (simp; done) | (simp [*]; done), by repeat (first | exact Drawn0.refl _ | apply Drawn0.step)⟩
 ·rw [if_neg c3] at H
  have c3b0 : ((l0.length : Int) == (l1.length : Int)) = false := beq_eq_false_iff_ne.mpr c3
  have c3b1 : ((l0.length : Int) != (l1.length : Int)) = true := bne_iff_ne.mpr c3
  have c3b2 : (l0.length == l1.length) = false := by first | simpa using c3 | (simp at c3 ⊢; omega)
  obtain rfl := Option.some.inj H
  go_enter Try.func24, Try.ntmps24
  go_wp2
  repeat (go_quiet (fail); try go_wp2)
  go_ret
  exact ⟨by first | rfl | (simp; done) | (simp [*]; done), by repeat (first | exact Drawn0.refl _ | apply Drawn0.step)⟩
end Go.Proofs.Ytpnhkmicepmciaa.Y

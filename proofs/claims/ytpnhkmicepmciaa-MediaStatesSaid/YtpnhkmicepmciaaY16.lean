/- A part of this claim's walks: functions' contracts, or plain lemmas; conditions: each one's own. -/
import Derived.Test.YtpnhkmicepmciaaY0
import Derived.Test.YtpnhkmicepmciaaY12
import Derived.Test.YtpnhkmicepmciaaY15
import Derived.Test.YtpnhkmicepmciaaPar
namespace Go.Proofs.Ytpnhkmicepmciaa.Y
open Go.RowKit Go.Proofs.YtpnhkmicepmciaaW.PrintWords Go.Proofs.YtpnhkmicepmciaaW.PrintLast Go.Proofs.YtpnhkmicepmciaaW.PrintMore Go.Proofs.Ytpnhkmicepmciaa.Par
attribute [local go_sem] max2_int min2_int max_two min_two max_three min_three max_four min_four   -- for this text's walks alone
set_option linter.unusedVariables false
set_option linter.unusedSimpArgs false
mutual
def cutroomref36_Run.j0 : Nat → List (S45) → List (S61) → List Int → Bool → List (S37) → List (S39) → Option ((List (S37)) × (List (S39)) × (List (S61)) × List Int)
 | 0, _, _, _, _, _, _ => none
 | k + 1, x1, x7, x8, x9, x233000, x233001 => cutroomref36_Run.l0 k x1 x7 x8 x9 0 x233000 x233001
def cutroomref36_Run.l0 : Nat → List (S45) → List (S61) → List Int → Bool → Int → List (S37) → List (S39) → Option ((List (S37)) × (List (S39)) × (List (S61)) × List Int)
 | 0, _, _, _, _, _, _, _ => none
 | k + 1, x1, x7, x8, x9, x11, x233000, x233001 => if x11 < (x1.length : Int) then (if x9 = true then (if 0 ≤ x11 then ((cutroomref36_Step.f x233000 x233001 ((rd_T45 x1 x11).f0) ((rd_T45 x1 x11).f1) ((rd_T45 x1 x11).f2) ((rd_T45 x1 x11).f3) ((rd_T45 x1 x11).f4)).bind fun bt246 => (if x8.length < 17592186044416 then ((some (x8 ++ [bt246.2.2.2] : List Int)).bind fun y257 => (if bt246.2.2.2 = 0 then (if x7.length + bt246.2.2.1.length < 5864062014805 then (cutroomref36_Run.l0 k x1 (x7 ++ bt246.2.2.1) y257 x9 (wrap64 (x11 + 1)) bt246.1 bt246.2.1) else (none)) else (cutroomref36_Run.l0 k x1 x7 y257 x9 (wrap64 (x11 + 1)) x233000 x233001))) else (none))) else (none)) else (if x8.length < 17592186044416 then (cutroomref36_Run.l0 k x1 x7 (x8 ++ [1]) x9 (wrap64 (x11 + 1)) x233000 x233001) else (none))) else (some (x233000, x233001, x7, x8))
end
def cutroomref36_Run.f (k : Nat) (l0_0 : List (S37)) (l0_1 : List (S39)) (l1 : List (S45)) : Option ((List (S37)) × (List (S39)) × (List (S61)) × List Int) := (cutroomref36_Valid.f k l0_0 l0_1).bind fun t231 => (if t231 = true then ((some (([] : List (S37)) : List (S37))).bind fun y233 => (if y233.length + l0_0.length < 4398046511104 then ((some (([] : List (S39)) : List (S39))).bind fun y239 => (if y239.length + l0_1.length < 2513169434916 then (cutroomref36_Run.j0 k l1 ([] : List (S61)) ([] : List Int) t231 (y233 ++ l0_0) (y239 ++ l0_1)) else (none))) else (none))) else (cutroomref36_Run.j0 k l1 ([] : List (S61)) ([] : List Int) t231 ([] : List (S37)) ([] : List (S39))))
theorem cutroomref36_Run.mono_l : ∀ k, (∀ y0 y1 y2 y3 y4 y5, LeO (cutroomref36_Run.j0 k y0 y1 y2 y3 y4 y5) (cutroomref36_Run.j0 (k + 1) y0 y1 y2 y3 y4 y5)) ∧ (∀ y0 y1 y2 y3 y4 y5 y6, LeO (cutroomref36_Run.l0 k y0 y1 y2 y3 y4 y5 y6) (cutroomref36_Run.l0 (k + 1) y0 y1 y2 y3 y4 y5 y6))
 | 0 => ⟨fun _ _ _ _ _ _ r h => by simp [cutroomref36_Run.j0] at h, fun _ _ _ _ _ _ _ r h => by simp [cutroomref36_Run.l0] at h⟩
 | k + 1 => by
  obtain ⟨ih0, ih1⟩ := cutroomref36_Run.mono_l k
  refine ⟨?_, ?_⟩
  ·intro y0 y1 y2 y3 y4 y5
   unfold cutroomref36_Run.j0
   repeat' first
   | (with_reducible exact ih0 _ _ _ _ _ _)
   | (with_reducible exact ih1 _ _ _ _ _ _ _)
   | (with_reducible exact cutroomref36_Valid.mono _ _ _)
   | (with_reducible exact LeO.refl _)
   | (with_reducible exact LeO.none _)
   | (with_reducible refine LeO.ite ?_ ?_)
   | (with_reducible refine LeO.bind ?_ (fun _ => ?_))
   | exact ih0 _ _ _ _ _ _
   | exact ih1 _ _ _ _ _ _ _
   | exact cutroomref36_Valid.mono _ _ _
   | exact LeO.none _
   | refine LeO.ite ?_ ?_
   | refine LeO.bind ?_ (fun _ => ?_)
  ·intro y0 y1 y2 y3 y4 y5 y6
   unfold cutroomref36_Run.l0
   repeat' first
   | (with_reducible exact ih0 _ _ _ _ _ _)
   | (with_reducible exact ih1 _ _ _ _ _ _ _)
   | (with_reducible exact cutroomref36_Valid.mono _ _ _)
   | (with_reducible exact LeO.refl _)
   | (with_reducible exact LeO.none _)
   | (with_reducible refine LeO.ite ?_ ?_)
   | (with_reducible refine LeO.bind ?_ (fun _ => ?_))
   | exact ih0 _ _ _ _ _ _
   | exact ih1 _ _ _ _ _ _ _
   | exact cutroomref36_Valid.mono _ _ _
   | exact LeO.none _
   | refine LeO.ite ?_ ?_
   | refine LeO.bind ?_ (fun _ => ?_)
theorem cutroomref36_Run.mono : ∀ a0 a1 a2 k, LeO (cutroomref36_Run.f k a0 a1 a2) (cutroomref36_Run.f (k + 1) a0 a1 a2) := by
 intro a0 a1 a2 k
 obtain ⟨ih0, ih1⟩ := cutroomref36_Run.mono_l k
 unfold cutroomref36_Run.f
 repeat' first
   | (with_reducible exact ih0 _ _ _ _ _ _)
   | (with_reducible exact ih1 _ _ _ _ _ _ _)
   | (with_reducible exact cutroomref36_Valid.mono _ _ _)
   | (with_reducible exact LeO.refl _)
   | (with_reducible exact LeO.none _)
   | (with_reducible refine LeO.ite ?_ ?_)
   | (with_reducible refine LeO.bind ?_ (fun _ => ?_))
   | exact ih0 _ _ _ _ _ _
   | exact ih1 _ _ _ _ _ _ _
   | exact cutroomref36_Valid.mono _ _ _
   | exact LeO.none _
   | refine LeO.ite ?_ ?_
   | refine LeO.bind ?_ (fun _ => ?_)
def cutroomref36_Run.T6 : Bool × List (List Nat × List Nat) := (true, [([], []), ([], []), ([1], [1]), ([0, 2], [0, 2]), ([], []), ([], []), ([5], [5]), ([4, 6, 3], [4, 6]), ([3, 7], [3, 7]), ([8, 7, 0, 1, 2, 3, 4, 5, 6, 7, 8], [8])])
def cutroomref36_Run.B6 : List Nat := [0, 0, 2, 7, 0, 0, 32, 127, 255, 511]
theorem cutroomref36_Run.tab6 : rtab .any (opsOf Try.f23 6) = cutroomref36_Run.T6 := by kernel_rfl
theorem cutroomref36_Run.bits6 : waitsOk cutroomref36_Run.T6.2 cutroomref36_Run.B6 = true := by kernel_rfl
def cutroomref36_Run.T12 : Bool × List (List Nat × List Nat) := (true, [([], []), ([], []), ([], []), ([1, 2], [1, 2]), ([3], [3]), ([0, 4], [0, 4]), ([5], [5]), ([6], [6]), ([6], [6]), ([6], [6]), ([], []), ([10, 7, 5, 0, 1, 2, 3, 4, 5, 6, 7, 10], [7, 10]), ([8, 11, 0, 1, 2, 3, 4, 5, 6, 7, 8, 10, 11], [8]), ([9, 12, 0, 1, 2, 3, 4, 5, 6, 7, 8, 9, 10, 11, 12], [9])])
def cutroomref36_Run.B12 : List Nat := [0, 0, 0, 6, 14, 31, 63, 127, 127, 127, 0, 1279, 3583, 8191]
theorem cutroomref36_Run.tab12 : rtab .any (opsOf Try.f23 12) = cutroomref36_Run.T12 := by kernel_rfl
theorem cutroomref36_Run.bits12 : waitsOk cutroomref36_Run.T12.2 cutroomref36_Run.B12 = true := by kernel_rfl
set_option maxHeartbeats 8000000 in
set_option maxRecDepth 100000 in
theorem cutroomref36_Run.calls (k : Nat) (A0_0 : Option Addr) (c0_0 : Nat) (l0_0 : List (S37)) (A0_1 : Option Addr) (c0_1 : Nat) (l0_1 : List (S39)) (A1 : Option Addr) (c1 : Nat) (l1 : List (S45)) (r1 : List (S37)) (r2 : List (S39)) (r3 : List (S61)) (r4 : List Int) (w : World) (hr0_0 : Kd.C k37 w A0_0 l0_0.length l0_0) (hc0_0 : l0_0.length ≤ c0_0) (hr0_1 : Kd.C k39 w A0_1 l0_1.length l0_1) (hc0_1 : l0_1.length ≤ c0_1) (hr1 : Kd.C k45 w A1 l1.length l1) (hc1 : l1.length ≤ c1) (h : cutroomref36_Run.f k l0_0 l0_1 l1 = some (r1, r2, r3, r4)) :
  Calls Try.prog 23 #[.agg #[.slice A0_0 l0_0.length c0_0, .slice A0_1 l0_1.length c0_1], .slice A1 l1.length c1] w fun e w' => ∃ v0_ v1_ v2_ v3_ : Value, e = .returned (.tuple #[.agg #[v0_, v1_], v2_, v3_]) ∧ Kd.R k37 37 w' w.heap.size (fun _ => True) v0_ r1 ∧ Kd.R k39 39 w' w.heap.size (fun _ => True) v1_ r2 ∧ Kd.R k61 61 w' w.heap.size (fun _ => True) v2_ r3 ∧ Kd.R (Kd.int .i64) 49 w' w.heap.size (fun _ => True) v3_ r4 ∧ Below w.heap.size w w' := by
 have hu30 := Try.underlying30
 have hu45 := Try.underlying45
 have HR0_0 := Aside0.mk hr0_0
 have HC0_0 := Aside0.mk hc0_0
 clear hr0_0 hc0_0
 have HR0_1 := Aside0.mk hr0_1
 have HC0_1 := Aside0.mk hc0_1
 clear hr0_1 hc0_1
 have HR1 := Aside0.mk hr1
 have HC1 := Aside0.mk hc1
 clear hr1 hc1
 have HB := Aside0.mk (Below.refl w.heap.size w)
 have H : ((cutroomref36_Valid.f k l0_0 l0_1).bind fun t231 => (if t231 = true then ((some (([] : List (S37)) : List (S37))).bind fun y233 => (if y233.length + l0_0.length < 4398046511104 then ((some (([] : List (S39)) : List (S39))).bind fun y239 => (if y239.length + l0_1.length < 2513169434916 then (cutroomref36_Run.j0 k l1 ([] : List (S61)) ([] : List Int) t231 (y233 ++ l0_0) (y239 ++ l0_1)) else (none))) else (none))) else (cutroomref36_Run.j0 k l1 ([] : List (S61)) ([] : List Int) t231 ([] : List (S37)) ([] : List (S39))))) = some (r1, r2, r3, r4) := h
 clear h
 replace H := Option.bind_eq_some_iff.mp H
 obtain ⟨t231, A30, H⟩ := H
 replace H : (if t231 = true then ((some (([] : List (S37)) : List (S37))).bind fun y233 => (if y233.length + l0_0.length < 4398046511104 then ((some (([] : List (S39)) : List (S39))).bind fun y239 => (if y239.length + l0_1.length < 2513169434916 then (cutroomref36_Run.j0 k l1 ([] : List (S61)) ([] : List Int) t231 (y233 ++ l0_0) (y239 ++ l0_1)) else (none))) else (none))) else (cutroomref36_Run.j0 k l1 ([] : List (S61)) ([] : List Int) t231 ([] : List (S37)) ([] : List (S39)))) = some (r1, r2, r3, r4) := H
 have A3 := Aside0.mk A30
 clear A30
 have HC4 := Aside0.mk H
 clear H
 go_enter Try.func23, Try.ntmps23
 go_upto_if 18 with (first | ((with_reducible refine gate_dst (N := 2) rfl ?_); refine box_event ?hg (N := 2) ?hd (cs := #[.slice A0_0 l0_0.length c0_0, .slice A0_1 l0_1.length c0_1]) (t := 30) ?hr ?_; (case hd => rfl); (case hg => rfl); (case hr => first | (go_simp; done) | (go_simp; rfl)); intro gb229 hg w5 hbox hb; have BK229 := Aside0.mk (hbox); have GW229 := gw_ hg kB; have GE229 := gw_ hg kB; replace HB := cB hb kB; clear hb hbox hg) | ((with_reducible refine gate_dst (N := 4) rfl ?_); refine box_event ?hg (N := 4) ?hd (cs := #[.slice none 0 0, .slice none 0 0]) (t := 30) ?hr ?_; (case hd => rfl); (case hg => rfl); (case hr => first | (go_simp; done) | (go_simp; rfl)); intro gb230 hg w6 hbox hb; have BK230 := Aside0.mk (hbox); have GW230 := gw_ hg kB; have GE230 := gw_ hg kB; have NB229_230 := nb_lt hg BK229; have NB230_229 := nb_gt hg BK229; replace BK229 := cb BK229 hb; replace HB := cB hb kB; clear hb hbox hg; have hnb7 := NB229_230.out; have hnc7 := NB230_229.out; have hcz8_0 : w6.cell? ⟨gb229, 0, none⟩ = some (.slice A0_0 l0_0.length c0_0) := (blk_cell BK229.out 0).trans rfl; have hcz8_1 : w6.cell? ⟨gb229, 1, none⟩ = some (.slice A0_1 l0_1.length c0_1) := (blk_cell BK229.out 1).trans rfl; have hfz8_0 := blk_frozen BK229.out 0; have hfz8_1 := blk_frozen BK229.out 1) | ((with_reducible refine gate_callee (f := 14) rfl ?_); refine goesL_ (some 16) rfl rfl Try.func14 (by kernel_rfl) rfl #[.agg #[.slice A0_0 l0_0.length c0_0, .slice A0_1 l0_1.length c0_1]] rfl (by (try simp only [List.map_toArray, List.map_cons, List.map_nil]); first | done | rfl | (simp only [List.length_drop, List.length_take]; rfl)) ?_; (with_reducible refine (cutroomref36_Valid.calls k _ _ l0_0 _ _ l0_1 t231 _ ?side1 ?side2 ?side3 ?side4 A3.out).mono ?_); (case side1 => repeat (first | exact (Kd.C_below HR0_0.out HB.out) | (with_reducible refine Kd.C_alloc ?_ _) | (with_reducible refine Kd.C_drewN ?_ _) | (with_reducible refine Kd.C_drew ?_))); (case side2 => exact HC0_0.out); (case side3 => repeat (first | exact (Kd.C_below HR0_1.out HB.out) | (with_reducible refine Kd.C_alloc ?_ _) | (with_reducible refine Kd.C_drewN ?_ _) | (with_reducible refine Kd.C_drew ?_))); (case side4 => exact HC0_1.out); rintro e w9 ⟨rfl, hb⟩; refine ⟨_, rfl, ?_⟩; replace BK229 := cb BK229 hb; replace BK230 := cb BK230 hb; replace HB := cB hb kB; (try clear hb); (try clear hb2); (try clear hk); (try clear hi)) | ((with_reducible refine gate_dst (N := 10) rfl ?_); refine box_event ?hg (N := 10) ?hd (cs := #[.slice none 0 0, .slice none 0 0]) (t := 30) ?hr ?_; (case hd => rfl); (case hg => rfl); (case hr => first | (go_simp; done) | (go_simp; rfl)); intro gb232 hg w10 hbox hb; have BK232 := Aside0.mk (hbox); have GW232 := gw_ hg kB; have GE232 := gw_ hg kB; have NB229_232 := nb_lt hg BK229; have NB232_229 := nb_gt hg BK229; have NB230_232 := nb_lt hg BK230; have NB232_230 := nb_gt hg BK230; replace BK229 := cb BK229 hb; replace BK230 := cb BK230 hb; replace HB := cB hb kB; clear hb hbox hg; have hnb11 := NB232_229.out; have hnc11 := NB229_232.out; have hnb12 := NB232_230.out; have hnc12 := NB230_232.out; have hcz13_0 : w10.cell? ⟨gb232, 0, none⟩ = some (.slice none 0 0) := (blk_cell BK232.out 0).trans rfl; have hcz13_1 : w10.cell? ⟨gb232, 1, none⟩ = some (.slice none 0 0) := (blk_cell BK232.out 1).trans rfl; have hfz13_0 := blk_frozen BK232.out 0; have hfz13_1 := blk_frozen BK232.out 1))
 (try simp only [Act.put, List.setIfInBounds_toArray, List.set_cons_zero, List.set_cons_succ])
 go_cut [] (fun wc => ∃ (kq : Nat) (x233000_3 : List (S37)) (x233001_3 : List (S39)) (u233000 : Value) (u233001 : Value), Aside0 (cutroomref36_Run.j0 kq l1 ([] : List (S61)) ([] : List Int) t231 x233000_3 x233001_3 = some (r1, r2, r3, r4)) ∧ Aside0 (kq ≤ k) ∧ Aside0 (Kd.R k61 61 wc w.heap.size (fun _ => True) (.slice none 0 0) ([] : List (S61))) ∧ Aside0 (Kd.R (Kd.int .i64) 49 wc w.heap.size (fun _ => True) (.slice none 0 0) ([] : List Int)) ∧ Aside0 (Kd.R k37 37 wc w.heap.size (fun _ => True) u233000 x233000_3) ∧ Aside0 (Kd.R k39 39 wc w.heap.size (fun _ => True) u233001 x233001_3) ∧ Aside0 (wc.heap[gb229]? = some (.cells #[(.slice A0_0 l0_0.length c0_0), (.slice A0_1 l0_1.length c0_1)] 30 (0, 0))) ∧ Aside0 (wc.heap[gb230]? = some (.cells #[(.slice none 0 0), (.slice none 0 0)] 30 (0, 0))) ∧ Aside0 (wc.heap[gb232]? = some (.cells #[u233000, u233001] 30 (0, 0))) ∧ Aside0 (Below w.heap.size w wc))
 case first =>
  have H := HC4.out
  clear HC4
  by_cases c14 : t231 = true
  ·subst c14
   have H1 : ((some (([] : List (S37)) : List (S37))).bind fun y233 => (if y233.length + l0_0.length < 4398046511104 then ((some (([] : List (S39)) : List (S39))).bind fun y239 => (if y239.length + l0_1.length < 2513169434916 then (cutroomref36_Run.j0 k l1 ([] : List (S61)) ([] : List Int) true (y233 ++ l0_0) (y239 ++ l0_1)) else (none))) else (none))) = some (r1, r2, r3, r4) := by rw [if_pos rfl] at H; exact H
   clear H
   have H := H1
   clear H1
   obtain ⟨y233, hy233⟩ : ∃ y_ : List (S37), y_ = (([] : List (S37))) := ⟨_, rfl⟩
   replace H : (if y233.length + l0_0.length < 4398046511104 then ((some (([] : List (S39)) : List (S39))).bind fun y239 => (if y239.length + l0_1.length < 2513169434916 then (cutroomref36_Run.j0 k l1 ([] : List (S61)) ([] : List Int) true (y233 ++ l0_0) (y239 ++ l0_1)) else (none))) else (none)) = some (r1, r2, r3, r4) := by first | (rw [hy233]; with_reducible exact H) | (have H2_ := (Option.bind_some _ _).symm.trans H; rw [hy233]; with_reducible exact H2_) | (have H2_ := (Option.bind_some _ _).symm.trans H; with_reducible exact H2_) | with_reducible exact H | (rw [hy233]; exact H) | exact H
   have Ny233 := Aside0.mk hy233
   clear hy233
   by_cases c15 : y233.length + l0_0.length < 4398046511104
   ·rw [if_pos c15] at H
    have LMc15 := Aside0.mk c15
    clear c15
    obtain ⟨y236, hy236⟩ : ∃ y_ : List (S37), y_ = (y233 ++ l0_0) := ⟨_, rfl⟩
    replace H : ((some (([] : List (S39)) : List (S39))).bind fun y239 => (if y239.length + l0_1.length < 2513169434916 then (cutroomref36_Run.j0 k l1 ([] : List (S61)) ([] : List Int) true y236 (y239 ++ l0_1)) else (none))) = some (r1, r2, r3, r4) := by first | (rw [hy236]; with_reducible exact H) | (have H2_ := (Option.bind_some _ _).symm.trans H; rw [hy236]; with_reducible exact H2_) | (have H2_ := (Option.bind_some _ _).symm.trans H; with_reducible exact H2_) | with_reducible exact H | (rw [hy236]; exact H) | exact H
    have Ny236 := Aside0.mk hy236
    clear hy236
    obtain ⟨y239, hy239⟩ : ∃ y_ : List (S39), y_ = (([] : List (S39))) := ⟨_, rfl⟩
    replace H : (if y239.length + l0_1.length < 2513169434916 then (cutroomref36_Run.j0 k l1 ([] : List (S61)) ([] : List Int) true y236 (y239 ++ l0_1)) else (none)) = some (r1, r2, r3, r4) := by first | (rw [hy239]; with_reducible exact H) | (have H2_ := (Option.bind_some _ _).symm.trans H; rw [hy239]; with_reducible exact H2_) | (have H2_ := (Option.bind_some _ _).symm.trans H; with_reducible exact H2_) | with_reducible exact H | (rw [hy239]; exact H) | exact H
    have Ny239 := Aside0.mk hy239
    clear hy239
    by_cases c16 : y239.length + l0_1.length < 2513169434916
    ·rw [if_pos c16] at H
     have LMc16 := Aside0.mk c16
     clear c16
     obtain ⟨y242, hy242⟩ : ∃ y_ : List (S39), y_ = (y239 ++ l0_1) := ⟨_, rfl⟩
     replace H : (cutroomref36_Run.j0 k l1 ([] : List (S61)) ([] : List Int) true y236 y242) = some (r1, r2, r3, r4) := by first | (rw [hy242]; with_reducible exact H) | (have H2_ := (Option.bind_some _ _).symm.trans H; rw [hy242]; with_reducible exact H2_) | (have H2_ := (Option.bind_some _ _).symm.trans H; with_reducible exact H2_) | with_reducible exact H | (rw [hy242]; exact H) | exact H
     have Ny242 := Aside0.mk hy242
     clear hy242
     have H' := Aside0.mk H
     clear H
     try go_wp2
     have n0_ : Aside0 (((w10.setCell ⟨gb232, 0, none⟩ (.slice none 0 0)).setCell ⟨gb232, 1, none⟩ (.slice none 0 0)).heap[gb229]? = some (.cells #[.slice A0_0 l0_0.length c0_0, .slice A0_1 l0_1.length c0_1] 30 (0, 0))) := ⟨kb BK229⟩
     have n1_ : Aside0 (((w10.setCell ⟨gb232, 0, none⟩ (.slice none 0 0)).setCell ⟨gb232, 1, none⟩ (.slice none 0 0)).heap[gb230]? = some (.cells #[.slice none 0 0, .slice none 0 0] 30 (0, 0))) := ⟨kb BK230⟩
     have n2_ : Aside0 (((w10.setCell ⟨gb232, 0, none⟩ (.slice none 0 0)).setCell ⟨gb232, 1, none⟩ (.slice none 0 0)).heap[gb232]? = some (.cells #[.slice none 0 0, .slice none 0 0] 30 (0, 0))) := ⟨by (with_reducible repeat (first | refine blk_drewN ?_ _ | refine blk_drew ?_ | refine blk_alloc ?_ _)); refine blk_put (cs := #[.slice none 0 0, .slice none 0 0]) ?_ 1 _ rfl; (with_reducible repeat (first | refine blk_drewN ?_ _ | refine blk_drew ?_ | refine blk_alloc ?_ _)); refine blk_put (cs := #[.slice none 0 0, .slice none 0 0]) ?_ 0 _ rfl; (with_reducible repeat (first | refine blk_drewN ?_ _ | refine blk_drew ?_ | refine blk_alloc ?_ _)); exact BK232.out⟩
     have n3_ : Aside0 (Below w.heap.size w ((w10.setCell ⟨gb232, 0, none⟩ (.slice none 0 0)).setCell ⟨gb232, 1, none⟩ (.slice none 0 0))) := ⟨kB⟩
     (try clear BK229)
     (try clear BK230)
     (try clear BK232)
     (try clear HB)
     generalize ((w10.setCell ⟨gb232, 0, none⟩ (.slice none 0 0)).setCell ⟨gb232, 1, none⟩ (.slice none 0 0)) = w17 at n0_ n1_ n2_ n3_ ⊢
     have BK229 := n0_
     have BK230 := n1_
     have BK232 := n2_
     have HB := n3_
     clear n0_ n1_ n2_ n3_
     replace BK229 := Aside0.mk (blk_drew BK229.out)
     replace BK230 := Aside0.mk (blk_drew BK230.out)
     replace BK232 := Aside0.mk (blk_drew BK232.out)
     replace HB := Aside0.mk (below_drew1 HB.out)
     refine start_ (n := 10) (S := fun w' => w'.cell? ⟨gb229, 0, none⟩ = some (.slice A0_0 l0_0.length c0_0) ∧ w'.cell? ⟨gb229, 1, none⟩ = some (.slice A0_1 l0_1.length c0_1)) (ds := []) #[false, false, false, false, false, false, false, false, false, false] (by kernel_rfl) rfl rfl ⟨(blk_cell BK229.out 0).trans rfl, (blk_cell BK229.out 1).trans rfl⟩ (fun hHeld => ?_); refine with_tabW cutroomref36_Run.tab6 cutroomref36_Run.bits6 (fun HT_ HW_ => ?_)
     generalize w17.drew = w18 at BK229 BK230 BK232 HB hHeld ⊢
     refine plan_ [(1, 20, false), (5, 24, false), (2, 21, true), (6, 25, true)] ?_
     repeat (first
      | (
       refine plan_pure (v := ?_) (a' := ?_) rfl rfl (any_of HT_.out (by kernel_rfl)) (Or.inl ⟨by rfl, ?_⟩) ?_ ?_ (fun _ _ _ h => h)
       rotate_left
       ·intro w'
        go_simp
        with_reducible rfl
       rotate_left
       ·simp only [Act.put, List.setIfInBounds_toArray, List.set_cons_zero, List.set_cons_succ, i64_w, i32_w]
        rfl)
      | (
       refine plan_take (v := ?_) (a' := ?_) rfl rfl (take_ofW HT_.out HW_.out (by kernel_rfl)) (Or.inl ⟨by rfl, ?_⟩) hHeld ?_ ?_ (fun _ _ _ h => h)
       rotate_left
       ·rintro w' ⟨s0, s1⟩
        go_simp
        with_reducible rfl
       rotate_left
       ·simp only [Act.put, List.setIfInBounds_toArray, List.set_cons_zero, List.set_cons_succ, i64_w, i32_w]
        rfl))
     refine plan_end ?_
     refine join_ (σ := Value × Value × Value) 3 #[true, true, true, true, true, true, true, false, false, false] (fun s_ => [(19, s_.1), (22, s_.2.1), (23, s_.2.2)]) (fun s_ w' => (w'.cell? ⟨gb229, 0, none⟩ = some (.slice A0_0 l0_0.length c0_0) ∧ w'.cell? ⟨gb229, 1, none⟩ = some (.slice A0_1 l0_1.length c0_1)) ∧ (Kd.R k37 37 w' w.heap.size (fun _ => True) s_.2.1 y236) ∧ (Kd.R k39 39 w' w.heap.size (fun _ => True) s_.2.2 y239) ∧ (w'.heap[gb229]? = some (.cells #[.slice A0_0 l0_0.length c0_0, .slice A0_1 l0_1.length c0_1] 30 (0, 0))) ∧ (w'.heap[gb230]? = some (.cells #[.slice none 0 0, .slice none 0 0] 30 (0, 0))) ∧ (w'.heap[gb232]? = some (.cells #[.slice none 0 0, .slice none 0 0] 30 (0, 0))) ∧ (Below w.heap.size w w')) ?_ ?_
     rotate_left
     ·intro hCont
      refine two_ (i := 0) (j := 4) (Ni := some 19) (Nj := some 23) #[true, true, true, false, false, true, true, false, false, false] #[false, true, true, false, true, true, true, false, false, false] rfl rfl rfl rfl (two_of HT_.out (by kernel_rfl)) (by decide) (by decide) (fun K hK => ?_) (fun K hK => ?_)
      ·skip
       refine Kd.R_lit_step k37 _ 37 ?hg (N := 19) ?hd (xs := ([] : List (S37))) (inner := []) (ok := fun _ => True) (okp := fun _ => True) ?hr ?hp (fun _ hk => hk) trivial (Below.refl _ _) (Nat.le_refl _) (by simp) ?_; (case hd => rfl); (case hg => rfl); (case hr => first | (go_simp; done) | (go_simp; rfl)); (case hp => exact (Reps.none _ _))
       intro v234 w19 ho20 hb hg_ hnew_
       clear hg_ hnew_
       (first | rw [← Ny233.out] at ho20 | (simp only [Int.reduceToNat] at ho20; rw [← Ny233.out] at ho20))
       have HO235 := Aside0.mk (Kd.R_lower ho20 (below_size (kB)))
       replace BK229 := cb BK229 hb
       replace BK230 := cb BK230 hb
       replace BK232 := cb BK232 hb
       replace HB := cB hb kB
       clear hb ho20
       refine hK.out _ _ ⟨(blk_cell BK229.out 0).trans rfl, (blk_cell BK229.out 1).trans rfl⟩ (fun hHeld => ?_)
       clear hK K
       refine norm_ (a' := ?_) ?_ ?_
       rotate_left
       ·show Act.put _ (some 19) _ = _
        simp only [Act.put, List.setIfInBounds_toArray, List.set_cons_zero, List.set_cons_succ, i64_w, i32_w]
        rfl
       refine two_ (i := 3) (j := 4) (Ni := some 22) (Nj := some 23) #[true, true, true, true, false, true, true, false, false, false] #[true, true, true, false, true, true, true, false, false, false] rfl rfl rfl rfl (two_of HT_.out (by kernel_rfl)) (by decide) (by decide) (fun K hK => ?_) (fun K hK => ?_)
       ·skip
        refine Kd.R_append_rows_step k37 (w0 := w) w.heap.size (by rfl) (.tmp 19) (.tmp 21) 27 37 (.agg #[(.string ⟨#[]⟩), (.int .u64 0), (.bool false)]) 32 rfl Try.underlying27 info37 rfl (by decide) (by omega) v234 y233 l0_0 _ _ _ (fun _ => True) (fun _ => False) rfl rfl ?aO ?aR (fun _ _ h => h) (fun _ h => h.elim) ?aF ?aB ?aS ?aL ?_
        (case aR => repeat (first | exact (Kd.C_below HR0_0.out HB.out) | (with_reducible refine Kd.C_alloc ?_ _) | (with_reducible refine Kd.C_drewN ?_ _) | (with_reducible refine Kd.C_drew ?_)))
        (case aB => exact (kB))
        (case aF => exact (fun _ _ => trivial))
        (case aO => exact (kr HO235))
        (case aS => exact (below_size (kB)))
        (case aL => have := LMc15.out; omega)
        intro v237 w21 ho hb hg hat
        rw [← Ny236.out] at ho
        have HO238 := Aside0.mk (ho)
        replace BK229 := Aside0.mk (blk_grown (kb BK229) hg (Kd.R_ne HO235.out BK229.out (by decide)))
        replace BK230 := Aside0.mk (blk_grown (kb BK230) hg (Kd.R_ne HO235.out BK230.out (by decide)))
        replace BK232 := Aside0.mk (blk_grown (kb BK232) hg (Kd.R_ne HO235.out BK232.out (by decide)))
        replace HB := Aside0.mk (hb)
        clear HO235
        clear ho hb hg hat
        refine hK.out _ _ ⟨(blk_cell BK229.out 0).trans rfl, (blk_cell BK229.out 1).trans rfl⟩ (fun hHeld => ?_)
        clear hK K
        refine norm_ (a' := ?_) ?_ ?_
        rotate_left
        ·show Act.put _ (some 22) _ = _
         simp only [Act.put, List.setIfInBounds_toArray, List.set_cons_zero, List.set_cons_succ, i64_w, i32_w]
         rfl
        refine one_ (i := 4) (N := some 23) #[true, true, true, true, true, true, true, false, false, false] rfl rfl (one_of HT_.out (by kernel_rfl)) (by decide) (fun K hK => ?_)
        refine Kd.R_lit_step k39 _ 39 ?hg (N := 23) ?hd (xs := ([] : List (S39))) (inner := []) (ok := fun _ => True) (okp := fun _ => True) ?hr ?hp (fun _ hk => hk) trivial (Below.refl _ _) (Nat.le_refl _) (by simp) ?_; (case hd => rfl); (case hg => rfl); (case hr => first | (go_simp; done) | (go_simp; rfl)); (case hp => exact (Reps.none _ _))
        intro v240 w22 ho23 hb hg_ hnew_
        clear hg_ hnew_
        (first | rw [← Ny239.out] at ho23 | (simp only [Int.reduceToNat] at ho23; rw [← Ny239.out] at ho23))
        have HO241 := Aside0.mk (Kd.R_lower ho23 (below_size (kB)))
        replace HO238 := cr HO238 hb
        replace BK229 := cb BK229 hb
        replace BK230 := cb BK230 hb
        replace BK232 := cb BK232 hb
        replace HB := cB hb kB
        clear hb ho23
        refine hK.out _ _ ⟨(blk_cell BK229.out 0).trans rfl, (blk_cell BK229.out 1).trans rfl⟩ (fun hHeld => ?_)
        clear hK K
        refine norm_ (a' := ?_) ?_ ?_
        rotate_left
        ·show Act.put _ (some 23) _ = _
         simp only [Act.put, List.setIfInBounds_toArray, List.set_cons_zero, List.set_cons_succ, i64_w, i32_w]
         rfl
        exact norm_ (by simp only [putAll, Act.put, List.setIfInBounds_toArray, List.set_cons_zero, List.set_cons_succ]) (hCont (v234, v237, v240) _ ⟨hHeld, (kr HO238), (kr HO241), (kb BK229), (kb BK230), (kb BK232), (kB)⟩)
       ·skip
        refine Kd.R_lit_step k39 _ 39 ?hg (N := 23) ?hd (xs := ([] : List (S39))) (inner := []) (ok := fun _ => True) (okp := fun _ => True) ?hr ?hp (fun _ hk => hk) trivial (Below.refl _ _) (Nat.le_refl _) (by simp) ?_; (case hd => rfl); (case hg => rfl); (case hr => first | (go_simp; done) | (go_simp; rfl)); (case hp => exact (Reps.none _ _))
        intro v240 w21 ho22 hb hg_ hnew_
        clear hg_ hnew_
        (first | rw [← Ny239.out] at ho22 | (simp only [Int.reduceToNat] at ho22; rw [← Ny239.out] at ho22))
        have HO241 := Aside0.mk (Kd.R_lower ho22 (below_size (kB)))
        replace HO235 := cr HO235 hb
        replace BK229 := cb BK229 hb
        replace BK230 := cb BK230 hb
        replace BK232 := cb BK232 hb
        replace HB := cB hb kB
        clear hb ho22
        refine hK.out _ _ ⟨(blk_cell BK229.out 0).trans rfl, (blk_cell BK229.out 1).trans rfl⟩ (fun hHeld => ?_)
        clear hK K
        refine norm_ (a' := ?_) ?_ ?_
        rotate_left
        ·show Act.put _ (some 23) _ = _
         simp only [Act.put, List.setIfInBounds_toArray, List.set_cons_zero, List.set_cons_succ, i64_w, i32_w]
         rfl
        refine one_ (i := 3) (N := some 22) #[true, true, true, true, true, true, true, false, false, false] rfl rfl (one_of HT_.out (by kernel_rfl)) (by decide) (fun K hK => ?_)
        refine Kd.R_append_rows_step k37 (w0 := w) w.heap.size (by rfl) (.tmp 19) (.tmp 21) 27 37 (.agg #[(.string ⟨#[]⟩), (.int .u64 0), (.bool false)]) 32 rfl Try.underlying27 info37 rfl (by decide) (by omega) v234 y233 l0_0 _ _ _ (fun _ => True) (fun _ => False) rfl rfl ?aO ?aR (fun _ _ h => h) (fun _ h => h.elim) ?aF ?aB ?aS ?aL ?_
        (case aR => repeat (first | exact (Kd.C_below HR0_0.out HB.out) | (with_reducible refine Kd.C_alloc ?_ _) | (with_reducible refine Kd.C_drewN ?_ _) | (with_reducible refine Kd.C_drew ?_)))
        (case aB => exact (kB))
        (case aF => exact (fun _ _ => trivial))
        (case aO => exact (kr HO235))
        (case aS => exact (below_size (kB)))
        (case aL => have := LMc15.out; omega)
        intro v237 w23 ho hb hg hat
        rw [← Ny236.out] at ho
        have HO238 := Aside0.mk (ho)
        replace HO241 := Aside0.mk (Kd.R_over' (kr HO241) (Kd.R_typed (kr HO235)) (by decide) hg)
        replace BK229 := Aside0.mk (blk_grown (kb BK229) hg (Kd.R_ne HO235.out BK229.out (by decide)))
        replace BK230 := Aside0.mk (blk_grown (kb BK230) hg (Kd.R_ne HO235.out BK230.out (by decide)))
        replace BK232 := Aside0.mk (blk_grown (kb BK232) hg (Kd.R_ne HO235.out BK232.out (by decide)))
        replace HB := Aside0.mk (hb)
        clear HO235
        clear ho hb hg hat
        refine hK.out _ _ ⟨(blk_cell BK229.out 0).trans rfl, (blk_cell BK229.out 1).trans rfl⟩ (fun hHeld => ?_)
        clear hK K
        refine norm_ (a' := ?_) ?_ ?_
        rotate_left
        ·show Act.put _ (some 22) _ = _
         simp only [Act.put, List.setIfInBounds_toArray, List.set_cons_zero, List.set_cons_succ, i64_w, i32_w]
         rfl
        exact norm_ (by simp only [putAll, Act.put, List.setIfInBounds_toArray, List.set_cons_zero, List.set_cons_succ]) (hCont (v234, v237, v240) _ ⟨hHeld, (kr HO238), (kr HO241), (kb BK229), (kb BK230), (kb BK232), (kB)⟩)
      ·skip
       refine Kd.R_lit_step k39 _ 39 ?hg (N := 23) ?hd (xs := ([] : List (S39))) (inner := []) (ok := fun _ => True) (okp := fun _ => True) ?hr ?hp (fun _ hk => hk) trivial (Below.refl _ _) (Nat.le_refl _) (by simp) ?_; (case hd => rfl); (case hg => rfl); (case hr => first | (go_simp; done) | (go_simp; rfl)); (case hp => exact (Reps.none _ _))
       intro v240 w19 ho20 hb hg_ hnew_
       clear hg_ hnew_
       (first | rw [← Ny239.out] at ho20 | (simp only [Int.reduceToNat] at ho20; rw [← Ny239.out] at ho20))
       have HO241 := Aside0.mk (Kd.R_lower ho20 (below_size (kB)))
       replace BK229 := cb BK229 hb
       replace BK230 := cb BK230 hb
       replace BK232 := cb BK232 hb
       replace HB := cB hb kB
       clear hb ho20
       refine hK.out _ _ ⟨(blk_cell BK229.out 0).trans rfl, (blk_cell BK229.out 1).trans rfl⟩ (fun hHeld => ?_)
       clear hK K
       refine norm_ (a' := ?_) ?_ ?_
       rotate_left
       ·show Act.put _ (some 23) _ = _
        simp only [Act.put, List.setIfInBounds_toArray, List.set_cons_zero, List.set_cons_succ, i64_w, i32_w]
        rfl
       refine one_ (i := 0) (N := some 19) #[true, true, true, false, true, true, true, false, false, false] rfl rfl (one_of HT_.out (by kernel_rfl)) (by decide) (fun K hK => ?_)
       refine Kd.R_lit_step k37 _ 37 ?hg (N := 19) ?hd (xs := ([] : List (S37))) (inner := []) (ok := fun _ => True) (okp := fun _ => True) ?hr ?hp (fun _ hk => hk) trivial (Below.refl _ _) (Nat.le_refl _) (by simp) ?_; (case hd => rfl); (case hg => rfl); (case hr => first | (go_simp; done) | (go_simp; rfl)); (case hp => exact (Reps.none _ _))
       intro v234 w21 ho22 hb hg_ hnew_
       clear hg_ hnew_
       (first | rw [← Ny233.out] at ho22 | (simp only [Int.reduceToNat] at ho22; rw [← Ny233.out] at ho22))
       have HO235 := Aside0.mk (Kd.R_lower ho22 (below_size (kB)))
       replace HO241 := cr HO241 hb
       replace BK229 := cb BK229 hb
       replace BK230 := cb BK230 hb
       replace BK232 := cb BK232 hb
       replace HB := cB hb kB
       clear hb ho22
       refine hK.out _ _ ⟨(blk_cell BK229.out 0).trans rfl, (blk_cell BK229.out 1).trans rfl⟩ (fun hHeld => ?_)
       clear hK K
       refine norm_ (a' := ?_) ?_ ?_
       rotate_left
       ·show Act.put _ (some 19) _ = _
        simp only [Act.put, List.setIfInBounds_toArray, List.set_cons_zero, List.set_cons_succ, i64_w, i32_w]
        rfl
       refine one_ (i := 3) (N := some 22) #[true, true, true, true, true, true, true, false, false, false] rfl rfl (one_of HT_.out (by kernel_rfl)) (by decide) (fun K hK => ?_)
       refine Kd.R_append_rows_step k37 (w0 := w) w.heap.size (by rfl) (.tmp 19) (.tmp 21) 27 37 (.agg #[(.string ⟨#[]⟩), (.int .u64 0), (.bool false)]) 32 rfl Try.underlying27 info37 rfl (by decide) (by omega) v234 y233 l0_0 _ _ _ (fun _ => True) (fun _ => False) rfl rfl ?aO ?aR (fun _ _ h => h) (fun _ h => h.elim) ?aF ?aB ?aS ?aL ?_
       (case aR => repeat (first | exact (Kd.C_below HR0_0.out HB.out) | (with_reducible refine Kd.C_alloc ?_ _) | (with_reducible refine Kd.C_drewN ?_ _) | (with_reducible refine Kd.C_drew ?_)))
       (case aB => exact (kB))
       (case aF => exact (fun _ _ => trivial))
       (case aO => exact (kr HO235))
       (case aS => exact (below_size (kB)))
       (case aL => have := LMc15.out; omega)
       intro v237 w23 ho hb hg hat
       rw [← Ny236.out] at ho
       have HO238 := Aside0.mk (ho)
       replace HO241 := Aside0.mk (Kd.R_over' (kr HO241) (Kd.R_typed (kr HO235)) (by decide) hg)
       replace BK229 := Aside0.mk (blk_grown (kb BK229) hg (Kd.R_ne HO235.out BK229.out (by decide)))
       replace BK230 := Aside0.mk (blk_grown (kb BK230) hg (Kd.R_ne HO235.out BK230.out (by decide)))
       replace BK232 := Aside0.mk (blk_grown (kb BK232) hg (Kd.R_ne HO235.out BK232.out (by decide)))
       replace HB := Aside0.mk (hb)
       clear HO235
       clear ho hb hg hat
       refine hK.out _ _ ⟨(blk_cell BK229.out 0).trans rfl, (blk_cell BK229.out 1).trans rfl⟩ (fun hHeld => ?_)
       clear hK K
       refine norm_ (a' := ?_) ?_ ?_
       rotate_left
       ·show Act.put _ (some 22) _ = _
        simp only [Act.put, List.setIfInBounds_toArray, List.set_cons_zero, List.set_cons_succ, i64_w, i32_w]
        rfl
       exact norm_ (by simp only [putAll, Act.put, List.setIfInBounds_toArray, List.set_cons_zero, List.set_cons_succ]) (hCont (v234, v237, v240) _ ⟨hHeld, (kr HO238), (kr HO241), (kb BK229), (kb BK230), (kb BK232), (kB)⟩)
     rintro ⟨v234, v237, v240⟩ w24 ⟨hS_, h0_, h1_, h2_, h3_, h4_, h5_⟩
     have n0_ : Aside0 (Kd.R k37 37 w24 w.heap.size (fun _ => True) v237 y236) := ⟨h0_⟩
     have n1_ : Aside0 (Kd.R k39 39 w24 w.heap.size (fun _ => True) v240 y239) := ⟨h1_⟩
     have n2_ : Aside0 (w24.heap[gb229]? = some (.cells #[.slice A0_0 l0_0.length c0_0, .slice A0_1 l0_1.length c0_1] 30 (0, 0))) := ⟨h2_⟩
     have n3_ : Aside0 (w24.heap[gb230]? = some (.cells #[.slice none 0 0, .slice none 0 0] 30 (0, 0))) := ⟨h3_⟩
     have n4_ : Aside0 (w24.heap[gb232]? = some (.cells #[.slice none 0 0, .slice none 0 0] 30 (0, 0))) := ⟨h4_⟩
     have n5_ : Aside0 (Below w.heap.size w w24) := ⟨h5_⟩
     clear BK229
     clear BK230
     clear BK232
     clear HB
     clear h0_ h1_ h2_ h3_ h4_ h5_
     have HO238 := n0_
     have HO241 := n1_
     have BK229 := n2_
     have BK230 := n3_
     have BK232 := n4_
     have HB := n5_
     clear n0_ n1_ n2_ n3_ n4_ n5_
     have hHeld : w24.cell? ⟨gb229, 0, none⟩ = some (.slice A0_0 l0_0.length c0_0) ∧ w24.cell? ⟨gb229, 1, none⟩ = some (.slice A0_1 l0_1.length c0_1) := hS_
     refine norm_ (a' := ?_) ?_ ?_
     rotate_left
     ·simp only [putAll, Act.put, List.setIfInBounds_toArray, List.set_cons_zero, List.set_cons_succ]
      rfl
     refine one_ (i := 7) (N := some 26) #[true, true, true, true, true, true, true, true, false, false] rfl rfl (one_of HT_.out (by kernel_rfl)) (by decide) (fun K hK => ?_)
     refine Kd.R_append_rows_step k39 (w0 := w) w.heap.size (by rfl) (.tmp 23) (.tmp 25) 28 39 (.agg #[(.string ⟨#[]⟩), (.string ⟨#[]⟩), (.int .u64 0), (.string ⟨#[]⟩)]) 56 rfl Try.underlying28 info39 rfl (by decide) (by omega) v240 y239 l0_1 _ _ _ (fun _ => True) (fun _ => False) rfl rfl ?aO ?aR (fun _ _ h => h) (fun _ h => h.elim) ?aF ?aB ?aS ?aL ?_
     (case aR => repeat (first | exact (Kd.C_below HR0_1.out HB.out) | (with_reducible refine Kd.C_alloc ?_ _) | (with_reducible refine Kd.C_drewN ?_ _) | (with_reducible refine Kd.C_drew ?_)))
     (case aB => exact (kB))
     (case aF => exact (fun _ _ => trivial))
     (case aO => exact (kr HO241))
     (case aS => exact (below_size (kB)))
     (case aL => have := LMc16.out; omega)
     intro v243 w25 ho hb hg hat
     rw [← Ny242.out] at ho
     have HO244 := Aside0.mk (ho)
     replace HO238 := Aside0.mk (Kd.R_over' (kr HO238) (Kd.R_typed (kr HO241)) (by decide) hg)
     replace BK229 := Aside0.mk (blk_grown (kb BK229) hg (Kd.R_ne HO241.out BK229.out (by decide)))
     replace BK230 := Aside0.mk (blk_grown (kb BK230) hg (Kd.R_ne HO241.out BK230.out (by decide)))
     replace BK232 := Aside0.mk (blk_grown (kb BK232) hg (Kd.R_ne HO241.out BK232.out (by decide)))
     replace HB := Aside0.mk (hb)
     clear HO241
     clear ho hb hg hat
     obtain ⟨Ao26, co26, eo26⟩ := Kd.R_slice HO244.out
     (first | subst eo26 | (injection eo26 with f1_ f2_ f3_; have f4_ := f1_.symm; have f5_ := f3_.symm; clear f1_ f2_ f3_; subst f4_; subst f5_))
     obtain ⟨Ao27, co27, eo27⟩ := Kd.R_slice HO238.out
     (first | subst eo27 | (injection eo27 with f1_ f2_ f3_; have f4_ := f1_.symm; have f5_ := f3_.symm; clear f1_ f2_ f3_; subst f4_; subst f5_))
     refine hK.out _ _ ⟨(blk_cell BK229.out 0).trans rfl, (blk_cell BK229.out 1).trans rfl⟩ (fun hHeld => ?_)
     clear hK K
     refine norm_ (a' := ?_) ?_ ?_
     rotate_left
     ·show Act.put _ (some 26) _ = _
      simp only [Act.put, List.setIfInBounds_toArray, List.set_cons_zero, List.set_cons_succ, i64_w, i32_w]
      rfl
     refine pure_ (i := 8) (N := some 27) (v := ?_) (a' := ?_) #[true, true, true, true, true, true, true, true, true, false] rfl rfl (any_of HT_.out (by kernel_rfl)) (fun _ _ _ h => h) (Or.inl ⟨by rfl, ?_⟩) ?_ ?_
     rotate_left
     ·intro w'
      go_simp
      with_reducible rfl
     rotate_left
     ·simp only [Act.put, List.setIfInBounds_toArray, List.set_cons_zero, List.set_cons_succ, i64_w, i32_w]
      rfl
     refine one_ (i := 9) (N := none) #[true, true, true, true, true, true, true, true, true, true] rfl rfl (one_of HT_.out (by kernel_rfl)) (by decide) (fun K hK => ?_)
     have hs28 : w25.cell? ⟨gb232, 0, none⟩ = some (.slice none 0 0) := (blk_cell BK232.out 0).trans rfl
     have hfs28 := blk_frozen BK232.out 0
     have hns28_0 := NB229_232.out
     have hns28_1 := NB230_232.out
     have hms28_0 := NB232_229.out
     have hms28_1 := NB232_230.out
     have hs29 : w25.cell? ⟨gb232, 1, none⟩ = some (.slice none 0 0) := (blk_cell BK232.out 1).trans rfl
     have hfs29 := blk_frozen BK232.out 1
     have hns29_0 := NB229_232.out
     have hns29_1 := NB230_232.out
     have hms29_0 := NB232_229.out
     have hms29_1 := NB232_230.out
     refine skip_ (w1 := ?_) (by rfl) rfl ?_ ?_
     rotate_left
     ·go_simp
      rfl
     refine hK.out _ _ ⟨((cell_far (p := ⟨gb232, _, none⟩) NB229_232.out _).trans (((cell_far (p := ⟨gb232, _, none⟩) NB229_232.out _).trans (hHeld.1)))), ((cell_far (p := ⟨gb232, _, none⟩) NB229_232.out _).trans (((cell_far (p := ⟨gb232, _, none⟩) NB229_232.out _).trans (hHeld.2))))⟩ (fun hHeld => ?_)
     clear hK K
     refine done_ (done_of HT_.out (by kernel_rfl)) ?_
     try go_wp2
     go_meet
     case rel => exact ⟨_, (y236), (y242), (.slice Ao27 y236.length co27), (.slice Ao26 y242.length co26), H', ⟨by first | omega | exact Nat.le_refl _⟩, ⟨by first | exact Kd.R_nil _ _ _ _ _ | exact Kd.N_nil _ _ _ _ _ | exact Kd.V_nil _ _ _ _ _ | exact Kd.Q_nil _ _ _ _ _ | exact Kd.S_nil _ _ _ _ _⟩, ⟨by first | exact Kd.R_nil _ _ _ _ _ | exact Kd.N_nil _ _ _ _ _ | exact Kd.V_nil _ _ _ _ _ | exact Kd.Q_nil _ _ _ _ _ | exact Kd.S_nil _ _ _ _ _⟩, ⟨by (with_reducible repeat (first | apply Kd.R_alloc | apply Kd.R_drewN | apply Kd.R_drew)); exact Kd.R_mono (Kd.R_far (p := ⟨gb232, 1, none⟩) (Kd.R_far (p := ⟨gb232, 0, none⟩) (Kd.R_types HO238.out BK232.out (by decide)) (fun _ hk => hk.2) (.slice Ao27 y236.length co27)) (fun _ hk => hk.2) (.slice Ao26 y242.length co26)) (fun _ hk => trivial)⟩, ⟨by (with_reducible repeat (first | apply Kd.R_alloc | apply Kd.R_drewN | apply Kd.R_drew)); exact Kd.R_mono (Kd.R_far (p := ⟨gb232, 1, none⟩) (Kd.R_far (p := ⟨gb232, 0, none⟩) (Kd.R_types HO244.out BK232.out (by decide)) (fun _ hk => hk.2) (.slice Ao27 y236.length co27)) (fun _ hk => hk.2) (.slice Ao26 y242.length co26)) (fun _ hk => trivial)⟩, ⟨kb BK229⟩, ⟨kb BK230⟩, ⟨by (with_reducible repeat (first | refine blk_drewN ?_ _ | refine blk_drew ?_ | refine blk_alloc ?_ _)); refine blk_put (cs := #[.slice Ao27 y236.length co27, .slice none 0 0]) ?_ 1 _ rfl; (with_reducible repeat (first | refine blk_drewN ?_ _ | refine blk_drew ?_ | refine blk_alloc ?_ _)); refine blk_put (cs := #[.slice none 0 0, .slice none 0 0]) ?_ 0 _ rfl; (with_reducible repeat (first | refine blk_drewN ?_ _ | refine blk_drew ?_ | refine blk_alloc ?_ _)); exact BK232.out⟩, ⟨kB⟩⟩
    ·rw [if_neg c16] at H
     exact absurd H (by simp)
   ·rw [if_neg c15] at H
    exact absurd H (by simp)
  ·replace c14 := Bool.eq_false_iff.mpr c14
   subst c14
   have H1 : (cutroomref36_Run.j0 k l1 ([] : List (S61)) ([] : List Int) false ([] : List (S37)) ([] : List (S39))) = some (r1, r2, r3, r4) := by rw [if_neg (show ¬ (false = true) by decide)] at H; exact H
   clear H
   have H := H1
   clear H1
   have H' := Aside0.mk H
   clear H
   go_wp2
   go_meet
   case rel => exact ⟨_, (([] : List (S37))), (([] : List (S39))), (.slice none 0 0), (.slice none 0 0), H', ⟨by first | omega | exact Nat.le_refl _⟩, ⟨by first | exact Kd.R_nil _ _ _ _ _ | exact Kd.N_nil _ _ _ _ _ | exact Kd.V_nil _ _ _ _ _ | exact Kd.Q_nil _ _ _ _ _ | exact Kd.S_nil _ _ _ _ _⟩, ⟨by first | exact Kd.R_nil _ _ _ _ _ | exact Kd.N_nil _ _ _ _ _ | exact Kd.V_nil _ _ _ _ _ | exact Kd.Q_nil _ _ _ _ _ | exact Kd.S_nil _ _ _ _ _⟩, ⟨by first | exact Kd.R_nil _ _ _ _ _ | exact Kd.N_nil _ _ _ _ _ | exact Kd.V_nil _ _ _ _ _ | exact Kd.Q_nil _ _ _ _ _ | exact Kd.S_nil _ _ _ _ _⟩, ⟨by first | exact Kd.R_nil _ _ _ _ _ | exact Kd.N_nil _ _ _ _ _ | exact Kd.V_nil _ _ _ _ _ | exact Kd.Q_nil _ _ _ _ _ | exact Kd.S_nil _ _ _ _ _⟩, ⟨kb BK229⟩, ⟨kb BK230⟩, ⟨by (with_reducible repeat (first | refine blk_drewN ?_ _ | refine blk_drew ?_ | refine blk_alloc ?_ _)); refine blk_put (cs := #[.slice none 0 0, .slice none 0 0]) ?_ 1 _ rfl; (with_reducible repeat (first | refine blk_drewN ?_ _ | refine blk_drew ?_ | refine blk_alloc ?_ _)); refine blk_put (cs := #[.slice none 0 0, .slice none 0 0]) ?_ 0 _ rfl; (with_reducible repeat (first | refine blk_drewN ?_ _ | refine blk_drew ?_ | refine blk_alloc ?_ _)); exact BK232.out⟩, ⟨kB⟩⟩
 case rest =>
  clear HC4
  try clear c1
  try clear c2
  try clear p2
  try clear c7
  try clear c11
  try clear c12
  try clear c14
  try clear c15
  try clear c16
  try clear c23
  try clear hcz13_0
  try clear hcz13_1
  try clear hcz8_0
  try clear hcz8_1
  try clear hfz13_0
  try clear hfz13_1
  try clear hfz8_0
  try clear hfz8_1
  obtain ⟨kq, x233000_3, x233001_3, u233000, u233001, HA, HJ3, HO_7, HO_8, HO_233000, HO_233001, BK229, BK230, BK232, HB⟩ := hcut
  cases kq with
  | zero => exact absurd HA.out (by simp [cutroomref36_Run.j0])
  | succ kj3 =>
   have H := HA.out
   clear HA
   simp only [cutroomref36_Run.j0] at H
   have H' := Aside0.mk H
   clear H
   go_wp2
   go_loopg [7, 8, 11] kj3 (fun kq v7 v8 v11 w' => ∃ (x7_2 : List (S61)) (x8_2 : List Int) (x11_2 : Int) (x233000_2 : List (S37)) (x233001_2 : List (S39)) (u233000 : Value) (u233001 : Value), v11 = .int .i64 x11_2 ∧ Aside0 (cutroomref36_Run.l0 kq l1 x7_2 x8_2 t231 x11_2 x233000_2 x233001_2 = some (r1, r2, r3, r4)) ∧ Aside0 (kq ≤ kj3) ∧ Aside0 (Kd.R k61 61 w' w.heap.size (fun _ => True) v7 x7_2) ∧ Aside0 (Kd.R (Kd.int .i64) 49 w' w.heap.size (fun _ => True) v8 x8_2) ∧ Aside0 (Kd.R k37 37 w' w.heap.size (fun _ => True) u233000 x233000_2) ∧ Aside0 (Kd.R k39 39 w' w.heap.size (fun _ => True) u233001 x233001_2) ∧ Aside0 (w'.heap[gb229]? = some (.cells #[(.slice A0_0 l0_0.length c0_0), (.slice A0_1 l0_1.length c0_1)] 30 (0, 0))) ∧ Aside0 (w'.heap[gb230]? = some (.cells #[(.slice none 0 0), (.slice none 0 0)] 30 (0, 0))) ∧ Aside0 (w'.heap[gb232]? = some (.cells #[u233000, u233001] 30 (0, 0))) ∧ Aside0 (Below w.heap.size w w'))
   case atStart => exact ⟨(([] : List (S61))), (([] : List Int)), (0), (x233000_3), (x233001_3), (u233000), (u233001), (by first | rfl | (simp; done) | (simp [*]; done)), H', ⟨Nat.le_refl _⟩, ⟨kr HO_7⟩, ⟨kr HO_8⟩, ⟨kr HO_233000⟩, ⟨kr HO_233001⟩, ⟨kb BK229⟩, ⟨kb BK230⟩, ⟨kb BK232⟩, ⟨kB⟩⟩
   case round =>
    clear H'
    try clear c1
    try clear c2
    try clear p2
    try clear c7
    try clear c11
    try clear c12
    try clear c14
    try clear c15
    try clear c16
    try clear c23
    try clear hcz13_0
    try clear hcz13_1
    try clear hcz8_0
    try clear hcz8_1
    try clear hfz13_0
    try clear hfz13_1
    try clear hfz8_0
    try clear hfz8_1
    try clear p2
    obtain ⟨x7_2, x8_2, x11_2, x233000_2, x233001_2, u233000, u233001, rfl, HA, HK2, HO_7, HO_8, HO_233000, HO_233001, BK229, BK230, BK232, HB⟩ := hrel
    cases gk with
    | zero => exact absurd HA.out (by simp [cutroomref36_Run.l0])
    | succ k2 =>
     have H := HA.out
     clear HA
     simp only [cutroomref36_Run.l0] at H
     by_cases c30 : x11_2 < (l1.length : Int)
     ·rw [if_pos c30] at H
      have c30b0 : decide (x11_2 < (l1.length : Int)) = true := decide_eq_true c30
      clear c30
      by_cases c31 : t231 = true
      ·subst c31
       have H1 : (if 0 ≤ x11_2 then ((cutroomref36_Step.f x233000_2 x233001_2 ((rd_T45 l1 x11_2).f0) ((rd_T45 l1 x11_2).f1) ((rd_T45 l1 x11_2).f2) ((rd_T45 l1 x11_2).f3) ((rd_T45 l1 x11_2).f4)).bind fun bt246 => (if x8_2.length < 17592186044416 then ((some (x8_2 ++ [bt246.2.2.2] : List Int)).bind fun y257 => (if bt246.2.2.2 = 0 then (if x7_2.length + bt246.2.2.1.length < 5864062014805 then (cutroomref36_Run.l0 k2 l1 (x7_2 ++ bt246.2.2.1) y257 true (wrap64 (x11_2 + 1)) bt246.1 bt246.2.1) else (none)) else (cutroomref36_Run.l0 k2 l1 x7_2 y257 true (wrap64 (x11_2 + 1)) x233000_2 x233001_2))) else (none))) else (none)) = some (r1, r2, r3, r4) := by rw [if_pos rfl] at H; exact H
       clear H
       have H := H1
       clear H1
       by_cases c32 : 0 ≤ x11_2
       ·rw [if_pos c32] at H
        have c32b0 : decide (0 ≤ x11_2) = true := decide_eq_true c32
        clear c32
        replace H := Option.bind_eq_some_iff.mp H
        obtain ⟨⟨t246, t249, t252, t255⟩, A330, H⟩ := H
        replace H : (if x8_2.length < 17592186044416 then ((some (x8_2 ++ [t255] : List Int)).bind fun y257 => (if t255 = 0 then (if x7_2.length + t252.length < 5864062014805 then (cutroomref36_Run.l0 k2 l1 (x7_2 ++ t252) y257 true (wrap64 (x11_2 + 1)) t246 t249) else (none)) else (cutroomref36_Run.l0 k2 l1 x7_2 y257 true (wrap64 (x11_2 + 1)) x233000_2 x233001_2))) else (none)) = some (r1, r2, r3, r4) := H
        have A33 := Aside0.mk A330
        clear A330
        by_cases c34 : x8_2.length < 17592186044416
        ·rw [if_pos c34] at H
         have LMc34 := Aside0.mk c34
         clear c34
         obtain ⟨y257, hy257⟩ : ∃ y_ : List Int, y_ = (x8_2 ++ [t255]) := ⟨_, rfl⟩
         replace H : (if t255 = 0 then (if x7_2.length + t252.length < 5864062014805 then (cutroomref36_Run.l0 k2 l1 (x7_2 ++ t252) y257 true (wrap64 (x11_2 + 1)) t246 t249) else (none)) else (cutroomref36_Run.l0 k2 l1 x7_2 y257 true (wrap64 (x11_2 + 1)) x233000_2 x233001_2)) = some (r1, r2, r3, r4) := by first | (rw [hy257]; with_reducible exact H) | (have H2_ := (Option.bind_some _ _).symm.trans H; rw [hy257]; with_reducible exact H2_) | (have H2_ := (Option.bind_some _ _).symm.trans H; with_reducible exact H2_) | with_reducible exact H | (rw [hy257]; exact H) | exact H
         have Ny257 := Aside0.mk hy257
         clear hy257
         by_cases c35 : t255 = 0
         ·rw [if_pos c35] at H
          have c35b0 : (t255 == 0) = true := beq_iff_eq.mpr c35
          have c35b1 : (t255 != 0) = false := bne_eq_false_iff_eq.mpr c35
          clear c35
          by_cases c36 : x7_2.length + t252.length < 5864062014805
          ·rw [if_pos c36] at H
           have LMc36 := Aside0.mk c36
           clear c36
           obtain ⟨y260, hy260⟩ : ∃ y_ : List (S61), y_ = (x7_2 ++ t252) := ⟨_, rfl⟩
           replace H : (cutroomref36_Run.l0 k2 l1 y260 y257 true (wrap64 (x11_2 + 1)) t246 t249) = some (r1, r2, r3, r4) := by first | (rw [hy260]; with_reducible exact H) | (have H2_ := (Option.bind_some _ _).symm.trans H; rw [hy260]; with_reducible exact H2_) | (have H2_ := (Option.bind_some _ _).symm.trans H; with_reducible exact H2_) | with_reducible exact H | (rw [hy260]; exact H) | exact H
           have Ny260 := Aside0.mk hy260
           clear hy260
           have H' := Aside0.mk H
           clear H
           obtain ⟨Ao37, co37, eo37⟩ := Kd.R_slice HO_233000.out
           subst eo37
           obtain ⟨Ao38, co38, eo38⟩ := Kd.R_slice HO_233001.out
           subst eo38
           try go_wp2
           replace HO_7 := Aside0.mk (Kd.R_drew HO_7.out)
           replace HO_8 := Aside0.mk (Kd.R_drew HO_8.out)
           replace HO_233000 := Aside0.mk (Kd.R_drew HO_233000.out)
           replace HO_233001 := Aside0.mk (Kd.R_drew HO_233001.out)
           replace BK229 := Aside0.mk (blk_drew BK229.out)
           replace BK230 := Aside0.mk (blk_drew BK230.out)
           replace BK232 := Aside0.mk (blk_drew BK232.out)
           replace HB := Aside0.mk (below_drew1 HB.out)
           have p245 : 0 ≤ (x11_2 : Int) := of_decide_eq_true (by first | (with_reducible assumption) | assumption)
           have q245 : x11_2 < (l1.length : Int) := of_decide_eq_true (by first | (with_reducible assumption) | assumption)
           obtain ⟨ad245, e245, hx245_0, hx245_1, hx245_2, hx245_3, hx245_4⟩ := at_T45 HR1.out x11_2 p245 q245
           have hw245_4 := hx245_4
           have hw245_3 := hx245_3
           have hw245_2 := hx245_2
           have hw245_1 := hx245_1
           have hw245_0 := hx245_0
           cases e245
           replace hx245_0 := (HB.out.cell (World.block_lt_of_cell? w _ hx245_0)).trans hx245_0
           replace hx245_1 := (HB.out.cell (World.block_lt_of_cell? w _ hx245_1)).trans hx245_1
           replace hx245_2 := (HB.out.cell (World.block_lt_of_cell? w _ hx245_2)).trans hx245_2
           replace hx245_3 := (HB.out.cell (World.block_lt_of_cell? w _ hx245_3)).trans hx245_3
           replace hx245_4 := (HB.out.cell (World.block_lt_of_cell? w _ hx245_4)).trans hx245_4
           replace p245 := eq_true p245
           replace q245 := eq_true q245
           refine start_ (n := 14) (S := fun w' => w'.cell? ⟨gb232, 0, none⟩ = some (.slice Ao37 x233000_2.length co37) ∧ w'.cell? ⟨gb232, 1, none⟩ = some (.slice Ao38 x233001_2.length co38) ∧ w'.cell? (ad245.add ((x11_2).toNat * 5)) = some (.int .i64 ((rd_T45 l1 x11_2).f0)) ∧ w'.cell? ⟨(ad245.add ((x11_2).toNat * 5)).block, (ad245.add ((x11_2).toNat * 5)).off + 1, none⟩ = some (.string ((rd_T45 l1 x11_2).f1)) ∧ w'.cell? ⟨(ad245.add ((x11_2).toNat * 5)).block, (ad245.add ((x11_2).toNat * 5)).off + 2, none⟩ = some (.string ((rd_T45 l1 x11_2).f2)) ∧ w'.cell? ⟨(ad245.add ((x11_2).toNat * 5)).block, (ad245.add ((x11_2).toNat * 5)).off + 3, none⟩ = some (.string ((rd_T45 l1 x11_2).f3)) ∧ w'.cell? ⟨(ad245.add ((x11_2).toNat * 5)).block, (ad245.add ((x11_2).toNat * 5)).off + 4, none⟩ = some (.int .u64 ((rd_T45 l1 x11_2).f4))) (ds := []) #[false, false, false, false, false, false, false, false, false, false, false, false, false, false] (by kernel_rfl) rfl rfl ⟨(blk_cell BK232.out 0).trans rfl, (blk_cell BK232.out 1).trans rfl, ((HB.out.cell (World.block_lt_of_cell? w _ hw245_0)).trans hw245_0), ((HB.out.cell (World.block_lt_of_cell? w _ hw245_1)).trans hw245_1), ((HB.out.cell (World.block_lt_of_cell? w _ hw245_2)).trans hw245_2), ((HB.out.cell (World.block_lt_of_cell? w _ hw245_3)).trans hw245_3), ((HB.out.cell (World.block_lt_of_cell? w _ hw245_4)).trans hw245_4)⟩ (fun hHeld => ?_); refine with_tabW cutroomref36_Run.tab12 cutroomref36_Run.bits12 (fun HT_ HW_ => ?_)
           generalize wr.drew = w39 at HO_7 HO_8 HO_233000 HO_233001 BK229 BK230 BK232 HB hx245_0 hx245_1 hx245_2 hx245_3 hx245_4 hHeld ⊢
           refine plan_ [(1, 41, false), (2, 42, false), (3, 43, false), (0, 40, true), (4, 44, true)] ?_
           repeat (first
            | (
             refine plan_pure (v := ?_) (a' := ?_) rfl rfl (any_of HT_.out (by kernel_rfl)) (Or.inl ⟨by rfl, ?_⟩) ?_ ?_ (fun _ _ _ h => h)
             rotate_left
             ·intro w'
              go_simp
              with_reducible rfl
             rotate_left
             ·simp only [Act.put, List.setIfInBounds_toArray, List.set_cons_zero, List.set_cons_succ, i64_w, i32_w]
              rfl)
            | (
             refine plan_take (v := ?_) (a' := ?_) rfl rfl (take_ofW HT_.out HW_.out (by kernel_rfl)) (Or.inl ⟨by rfl, ?_⟩) hHeld ?_ ?_ (fun _ _ _ h => h)
             rotate_left
             ·rintro w' ⟨s0, s1, s2, s3, s4, s5, s6⟩
              go_simp
              with_reducible rfl
             rotate_left
             ·simp only [Act.put, List.setIfInBounds_toArray, List.set_cons_zero, List.set_cons_succ, i64_w, i32_w]
              rfl))
           refine plan_end ?_
           refine join_ (σ := Value × Value × Value × Nat) 3 #[true, true, true, true, true, true, true, true, true, true, true, false, false, false] (fun s_ => [(45, .tuple #[.agg #[s_.1, s_.2.1], s_.2.2.1, .int .i64 t255]), (12, .pointer (some ⟨s_.2.2.2, 0, none⟩)), (39, .tuple #[.agg #[s_.1, s_.2.1], s_.2.2.1, .int .i64 t255]), (46, .agg #[s_.1, s_.2.1]), (47, s_.2.2.1), (48, .int .i64 t255)]) (fun s_ w' => (w'.cell? ⟨gb232, 0, none⟩ = some (.slice Ao37 x233000_2.length co37) ∧ w'.cell? ⟨gb232, 1, none⟩ = some (.slice Ao38 x233001_2.length co38) ∧ w'.cell? (ad245.add ((x11_2).toNat * 5)) = some (.int .i64 ((rd_T45 l1 x11_2).f0)) ∧ w'.cell? ⟨(ad245.add ((x11_2).toNat * 5)).block, (ad245.add ((x11_2).toNat * 5)).off + 1, none⟩ = some (.string ((rd_T45 l1 x11_2).f1)) ∧ w'.cell? ⟨(ad245.add ((x11_2).toNat * 5)).block, (ad245.add ((x11_2).toNat * 5)).off + 2, none⟩ = some (.string ((rd_T45 l1 x11_2).f2)) ∧ w'.cell? ⟨(ad245.add ((x11_2).toNat * 5)).block, (ad245.add ((x11_2).toNat * 5)).off + 3, none⟩ = some (.string ((rd_T45 l1 x11_2).f3)) ∧ w'.cell? ⟨(ad245.add ((x11_2).toNat * 5)).block, (ad245.add ((x11_2).toNat * 5)).off + 4, none⟩ = some (.int .u64 ((rd_T45 l1 x11_2).f4))) ∧ (Kd.R k37 37 w' w.heap.size (fun k_ => some k_ ≠ (.slice Ao37 x233000_2.length co37 : Value).ownBlock) s_.1 t246) ∧ (Kd.R k39 39 w' w.heap.size (fun k_ => some k_ ≠ (.slice Ao38 x233001_2.length co38 : Value).ownBlock) s_.2.1 t249) ∧ (Kd.R k61 61 w' w.heap.size (fun k_ => some k_ ≠ (u7 : Value).ownBlock) s_.2.2.1 t252) ∧ (Kd.R k37 37 w' w.heap.size (fun k_ => some k_ ≠ (s_.1 : Value).ownBlock) (.slice Ao37 x233000_2.length co37) x233000_2) ∧ (Kd.R k39 39 w' w.heap.size (fun k_ => some k_ ≠ (s_.2.1 : Value).ownBlock) (.slice Ao38 x233001_2.length co38) x233001_2) ∧ (Kd.R k61 61 w' w.heap.size (fun k_ => some k_ ≠ (s_.2.2.1 : Value).ownBlock) u7 x7_2) ∧ (Kd.R (Kd.int .i64) 49 w' w.heap.size (fun _ => True) u8 x8_2) ∧ (w'.heap[gb229]? = some (.cells #[.slice A0_0 l0_0.length c0_0, .slice A0_1 l0_1.length c0_1] 30 (0, 0))) ∧ (w'.heap[gb230]? = some (.cells #[.slice none 0 0, .slice none 0 0] 30 (0, 0))) ∧ (w'.heap[gb232]? = some (.cells #[.slice Ao37 x233000_2.length co37, .slice Ao38 x233001_2.length co38] 30 (0, 0))) ∧ (w'.heap[s_.2.2.2]? = some (.cells #[.slice none 0 0, .slice none 0 0] 30 (0, 0))) ∧ (w.heap.size ≤ s_.2.2.2) ∧ (w.heap.size ≤ s_.2.2.2) ∧ (gb229 ≠ s_.2.2.2) ∧ (s_.2.2.2 ≠ gb229) ∧ (gb230 ≠ s_.2.2.2) ∧ (s_.2.2.2 ≠ gb230) ∧ (gb232 ≠ s_.2.2.2) ∧ (s_.2.2.2 ≠ gb232) ∧ (Below w.heap.size w w')) ?_ ?_
           rotate_left
           ·intro hCont
            refine two_ (i := 5) (j := 10) (Ni := some 45) (Nj := some 12) #[true, true, true, true, true, true, false, false, false, false, false, false, false, false] #[true, true, true, true, true, false, false, false, false, false, true, false, false, false] rfl rfl rfl rfl (two_of HT_.out (by kernel_rfl)) (by decide) (by decide) (fun K hK => ?_) (fun K hK => ?_)
            ·skip
             refine goes_ Try.func19 (by kernel_rfl) rfl #[.agg #[.slice Ao37 x233000_2.length co37, .slice Ao38 x233001_2.length co38], .agg #[.int .i64 ((rd_T45 l1 x11_2).f0), .string ((rd_T45 l1 x11_2).f1), .string ((rd_T45 l1 x11_2).f2), .string ((rd_T45 l1 x11_2).f3), .int .u64 ((rd_T45 l1 x11_2).f4)]] (by rfl) rfl rfl (by (try simp only [List.map_toArray, List.map_cons, List.map_nil]); first | done | rfl | (simp only [List.length_drop, List.length_take]; rfl)) ?_
             with_reducible refine (cutroomref36_Step.calls _ _ x233000_2 _ _ x233001_2 ((rd_T45 l1 x11_2).f0) ((rd_T45 l1 x11_2).f1) ((rd_T45 l1 x11_2).f2) ((rd_T45 l1 x11_2).f3) ((rd_T45 l1 x11_2).f4) t246 t249 t252 t255 _ ?side1 ?side2 ?side3 ?side4 A33.out).mono ?_
             (case side1 => repeat (first | exact (Kd.R_reads' HO_233000.out).2.2 | (with_reducible refine Kd.C_alloc ?_ _) | (with_reducible refine Kd.C_drewN ?_ _) | (with_reducible refine Kd.C_drew ?_)))
             (case side2 => exact (Kd.R_reads' HO_233000.out).2.1)
             (case side3 => repeat (first | exact (Kd.R_reads' HO_233001.out).2.2 | (with_reducible refine Kd.C_alloc ?_ _) | (with_reducible refine Kd.C_drewN ?_ _) | (with_reducible refine Kd.C_drew ?_)))
             (case side4 => exact (Kd.R_reads' HO_233001.out).2.1)
             rintro e w40 ⟨v247, v250, v253, rfl, ho0, ho1, ho2, hb⟩
             refine ⟨_, rfl, ?_⟩
             have HO248 := Aside0.mk (Kd.R_lower (Kd.R_new' ho0 (Kd.R_lt (kr HO_233000))) (below_size (kB)))
             have HO251 := Aside0.mk (Kd.R_lower (Kd.R_new' ho1 (Kd.R_lt (kr HO_233001))) (below_size (kB)))
             have HO254 := Aside0.mk (Kd.R_lower (Kd.R_new' ho2 (Kd.R_lt (kr HO_7))) (below_size (kB)))
             replace HO_7 := Aside0.mk (Kd.R_elder' (kr HO_7) (Kd.R_base ho2) hb)
             replace HO_8 := cr HO_8 hb
             replace HO_233000 := Aside0.mk (Kd.R_elder' (kr HO_233000) (Kd.R_base ho0) hb)
             replace HO_233001 := Aside0.mk (Kd.R_elder' (kr HO_233001) (Kd.R_base ho1) hb)
             replace BK229 := cb BK229 hb
             replace BK230 := cb BK230 hb
             replace BK232 := cb BK232 hb
             replace HB := cB hb kB
             (try clear hb)
             (try clear hb2)
             (try clear hk)
             (try clear hi)
             (try clear ho0)
             (try clear ho1)
             (try clear ho2)
             refine hK.out _ _ ⟨(blk_cell BK232.out 0).trans rfl, (blk_cell BK232.out 1).trans rfl, ((HB.out.cell (World.block_lt_of_cell? w _ hw245_0)).trans hw245_0), ((HB.out.cell (World.block_lt_of_cell? w _ hw245_1)).trans hw245_1), ((HB.out.cell (World.block_lt_of_cell? w _ hw245_2)).trans hw245_2), ((HB.out.cell (World.block_lt_of_cell? w _ hw245_3)).trans hw245_3), ((HB.out.cell (World.block_lt_of_cell? w _ hw245_4)).trans hw245_4)⟩ (fun hHeld => ?_)
             clear hK K
             refine norm_ (a' := ?_) ?_ ?_
             rotate_left
             ·show Act.put _ (some 45) _ = _
              simp only [Act.put, List.setIfInBounds_toArray, List.set_cons_zero, List.set_cons_succ, i64_w, i32_w]
              rfl
             refine plan_ [(6, 39, false), (7, 46, false), (8, 47, false), (9, 48, false)] ?_
             repeat (
              refine plan_pure (v := ?_) (a' := ?_) rfl rfl (any_of HT_.out (by kernel_rfl)) (Or.inl ⟨by rfl, ?_⟩) ?_ ?_ (fun _ _ _ h => h)
              rotate_left
              ·intro w'
               go_simp
               with_reducible rfl
              rotate_left
              ·simp only [Act.put, List.setIfInBounds_toArray, List.set_cons_zero, List.set_cons_succ, i64_w, i32_w]
               rfl)
             refine plan_end ?_
             refine one_ (i := 10) (N := some 12) #[true, true, true, true, true, true, true, true, true, true, true, false, false, false] rfl rfl (one_of HT_.out (by kernel_rfl)) (by decide) (fun K hK => ?_)
             refine box_step ?hg (N := 12) ?hd (cs := #[.slice none 0 0, .slice none 0 0]) (t := 30) ?hr ?_; (case hd => rfl); (case hg => rfl); (case hr => first | (go_simp; done) | (go_simp; rfl))
             intro gb256 hg w41 hbox hb
             have BK256 := Aside0.mk (hbox)
             have GW256 := gw_ hg kB
             have GE256 := gw_ hg kB
             have NB229_256 := nb_lt hg BK229
             have NB256_229 := nb_gt hg BK229
             have NB230_256 := nb_lt hg BK230
             have NB256_230 := nb_gt hg BK230
             have NB232_256 := nb_lt hg BK232
             have NB256_232 := nb_gt hg BK232
             replace HO_7 := cr HO_7 hb
             replace HO_8 := cr HO_8 hb
             replace HO_233000 := cr HO_233000 hb
             replace HO_233001 := cr HO_233001 hb
             replace HO248 := cr HO248 hb
             replace HO251 := cr HO251 hb
             replace HO254 := cr HO254 hb
             replace BK229 := cb BK229 hb
             replace BK230 := cb BK230 hb
             replace BK232 := cb BK232 hb
             replace HB := cB hb kB
             clear hb hbox hg
             refine hK.out _ _ ⟨(blk_cell BK232.out 0).trans rfl, (blk_cell BK232.out 1).trans rfl, ((HB.out.cell (World.block_lt_of_cell? w _ hw245_0)).trans hw245_0), ((HB.out.cell (World.block_lt_of_cell? w _ hw245_1)).trans hw245_1), ((HB.out.cell (World.block_lt_of_cell? w _ hw245_2)).trans hw245_2), ((HB.out.cell (World.block_lt_of_cell? w _ hw245_3)).trans hw245_3), ((HB.out.cell (World.block_lt_of_cell? w _ hw245_4)).trans hw245_4)⟩ (fun hHeld => ?_)
             clear hK K
             refine norm_ (a' := ?_) ?_ ?_
             rotate_left
             ·show Act.put _ (some 12) _ = _
              simp only [Act.put, List.setIfInBounds_toArray, List.set_cons_zero, List.set_cons_succ, i64_w, i32_w]
              rfl
             exact norm_ (by simp only [putAll, Act.put, List.setIfInBounds_toArray, List.set_cons_zero, List.set_cons_succ]) (hCont (v247, v250, v253, gb256) _ ⟨hHeld, (by (with_reducible repeat (first | apply Kd.R_alloc | apply Kd.R_drewN | apply Kd.R_drew)); exact Kd.R_mono HO248.out (fun _ hk => hk.2)), (by (with_reducible repeat (first | apply Kd.R_alloc | apply Kd.R_drewN | apply Kd.R_drew)); exact Kd.R_mono HO251.out (fun _ hk => hk.2)), (by (with_reducible repeat (first | apply Kd.R_alloc | apply Kd.R_drewN | apply Kd.R_drew)); exact Kd.R_mono HO254.out (fun _ hk => hk.2)), (by (with_reducible repeat (first | apply Kd.R_alloc | apply Kd.R_drewN | apply Kd.R_drew)); exact Kd.R_mono HO_233000.out (fun _ hk => hk.2)), (by (with_reducible repeat (first | apply Kd.R_alloc | apply Kd.R_drewN | apply Kd.R_drew)); exact Kd.R_mono HO_233001.out (fun _ hk => hk.2)), (by (with_reducible repeat (first | apply Kd.R_alloc | apply Kd.R_drewN | apply Kd.R_drew)); exact Kd.R_mono HO_7.out (fun _ hk => hk.2)), (kr HO_8), (kb BK229), (kb BK230), (kb BK232), (kb BK256), GW256.out, GE256.out, NB229_256.out, NB256_229.out, NB230_256.out, NB256_230.out, NB232_256.out, NB256_232.out, (kB)⟩)
            ·skip
             refine box_step ?hg (N := 12) ?hd (cs := #[.slice none 0 0, .slice none 0 0]) (t := 30) ?hr ?_; (case hd => rfl); (case hg => rfl); (case hr => first | (go_simp; done) | (go_simp; rfl))
             intro gb256 hg w40 hbox hb
             have BK256 := Aside0.mk (hbox)
             have GW256 := gw_ hg kB
             have GE256 := gw_ hg kB
             have NB229_256 := nb_lt hg BK229
             have NB256_229 := nb_gt hg BK229
             have NB230_256 := nb_lt hg BK230
             have NB256_230 := nb_gt hg BK230
             have NB232_256 := nb_lt hg BK232
             have NB256_232 := nb_gt hg BK232
             replace HO_7 := cr HO_7 hb
             replace HO_8 := cr HO_8 hb
             replace HO_233000 := cr HO_233000 hb
             replace HO_233001 := cr HO_233001 hb
             replace BK229 := cb BK229 hb
             replace BK230 := cb BK230 hb
             replace BK232 := cb BK232 hb
             replace HB := cB hb kB
             clear hb hbox hg
             refine hK.out _ _ ⟨(blk_cell BK232.out 0).trans rfl, (blk_cell BK232.out 1).trans rfl, ((HB.out.cell (World.block_lt_of_cell? w _ hw245_0)).trans hw245_0), ((HB.out.cell (World.block_lt_of_cell? w _ hw245_1)).trans hw245_1), ((HB.out.cell (World.block_lt_of_cell? w _ hw245_2)).trans hw245_2), ((HB.out.cell (World.block_lt_of_cell? w _ hw245_3)).trans hw245_3), ((HB.out.cell (World.block_lt_of_cell? w _ hw245_4)).trans hw245_4)⟩ (fun hHeld => ?_)
             clear hK K
             refine norm_ (a' := ?_) ?_ ?_
             rotate_left
             ·show Act.put _ (some 12) _ = _
              simp only [Act.put, List.setIfInBounds_toArray, List.set_cons_zero, List.set_cons_succ, i64_w, i32_w]
              rfl
             refine one_ (i := 5) (N := some 45) #[true, true, true, true, true, true, false, false, false, false, true, false, false, false] rfl rfl (one_of HT_.out (by kernel_rfl)) (by decide) (fun K hK => ?_)
             refine goes_ Try.func19 (by kernel_rfl) rfl #[.agg #[.slice Ao37 x233000_2.length co37, .slice Ao38 x233001_2.length co38], .agg #[.int .i64 ((rd_T45 l1 x11_2).f0), .string ((rd_T45 l1 x11_2).f1), .string ((rd_T45 l1 x11_2).f2), .string ((rd_T45 l1 x11_2).f3), .int .u64 ((rd_T45 l1 x11_2).f4)]] (by rfl) rfl rfl (by (try simp only [List.map_toArray, List.map_cons, List.map_nil]); first | done | rfl | (simp only [List.length_drop, List.length_take]; rfl)) ?_
             with_reducible refine (cutroomref36_Step.calls _ _ x233000_2 _ _ x233001_2 ((rd_T45 l1 x11_2).f0) ((rd_T45 l1 x11_2).f1) ((rd_T45 l1 x11_2).f2) ((rd_T45 l1 x11_2).f3) ((rd_T45 l1 x11_2).f4) t246 t249 t252 t255 _ ?side1 ?side2 ?side3 ?side4 A33.out).mono ?_
             (case side1 => repeat (first | exact (Kd.R_reads' HO_233000.out).2.2 | (with_reducible refine Kd.C_alloc ?_ _) | (with_reducible refine Kd.C_drewN ?_ _) | (with_reducible refine Kd.C_drew ?_)))
             (case side2 => exact (Kd.R_reads' HO_233000.out).2.1)
             (case side3 => repeat (first | exact (Kd.R_reads' HO_233001.out).2.2 | (with_reducible refine Kd.C_alloc ?_ _) | (with_reducible refine Kd.C_drewN ?_ _) | (with_reducible refine Kd.C_drew ?_)))
             (case side4 => exact (Kd.R_reads' HO_233001.out).2.1)
             rintro e w41 ⟨v247, v250, v253, rfl, ho0, ho1, ho2, hb⟩
             refine ⟨_, rfl, ?_⟩
             have HO248 := Aside0.mk (Kd.R_lower (Kd.R_new' ho0 (Kd.R_lt (kr HO_233000))) (below_size (kB)))
             have HO251 := Aside0.mk (Kd.R_lower (Kd.R_new' ho1 (Kd.R_lt (kr HO_233001))) (below_size (kB)))
             have HO254 := Aside0.mk (Kd.R_lower (Kd.R_new' ho2 (Kd.R_lt (kr HO_7))) (below_size (kB)))
             replace HO_7 := Aside0.mk (Kd.R_elder' (kr HO_7) (Kd.R_base ho2) hb)
             replace HO_8 := cr HO_8 hb
             replace HO_233000 := Aside0.mk (Kd.R_elder' (kr HO_233000) (Kd.R_base ho0) hb)
             replace HO_233001 := Aside0.mk (Kd.R_elder' (kr HO_233001) (Kd.R_base ho1) hb)
             replace BK229 := cb BK229 hb
             replace BK230 := cb BK230 hb
             replace BK232 := cb BK232 hb
             replace BK256 := cb BK256 hb
             replace HB := cB hb kB
             (try clear hb)
             (try clear hb2)
             (try clear hk)
             (try clear hi)
             (try clear ho0)
             (try clear ho1)
             (try clear ho2)
             refine hK.out _ _ ⟨(blk_cell BK232.out 0).trans rfl, (blk_cell BK232.out 1).trans rfl, ((HB.out.cell (World.block_lt_of_cell? w _ hw245_0)).trans hw245_0), ((HB.out.cell (World.block_lt_of_cell? w _ hw245_1)).trans hw245_1), ((HB.out.cell (World.block_lt_of_cell? w _ hw245_2)).trans hw245_2), ((HB.out.cell (World.block_lt_of_cell? w _ hw245_3)).trans hw245_3), ((HB.out.cell (World.block_lt_of_cell? w _ hw245_4)).trans hw245_4)⟩ (fun hHeld => ?_)
             clear hK K
             refine norm_ (a' := ?_) ?_ ?_
             rotate_left
             ·show Act.put _ (some 45) _ = _
              simp only [Act.put, List.setIfInBounds_toArray, List.set_cons_zero, List.set_cons_succ, i64_w, i32_w]
              rfl
             refine plan_ [(6, 39, false), (7, 46, false), (8, 47, false), (9, 48, false)] ?_
             repeat (
              refine plan_pure (v := ?_) (a' := ?_) rfl rfl (any_of HT_.out (by kernel_rfl)) (Or.inl ⟨by rfl, ?_⟩) ?_ ?_ (fun _ _ _ h => h)
              rotate_left
              ·intro w'
               go_simp
               with_reducible rfl
              rotate_left
              ·simp only [Act.put, List.setIfInBounds_toArray, List.set_cons_zero, List.set_cons_succ, i64_w, i32_w]
               rfl)
             refine plan_end ?_
             exact norm_ (by simp only [putAll, Act.put, List.setIfInBounds_toArray, List.set_cons_zero, List.set_cons_succ]) (hCont (v247, v250, v253, gb256) _ ⟨hHeld, (by (with_reducible repeat (first | apply Kd.R_alloc | apply Kd.R_drewN | apply Kd.R_drew)); exact Kd.R_mono HO248.out (fun _ hk => hk.2)), (by (with_reducible repeat (first | apply Kd.R_alloc | apply Kd.R_drewN | apply Kd.R_drew)); exact Kd.R_mono HO251.out (fun _ hk => hk.2)), (by (with_reducible repeat (first | apply Kd.R_alloc | apply Kd.R_drewN | apply Kd.R_drew)); exact Kd.R_mono HO254.out (fun _ hk => hk.2)), (by (with_reducible repeat (first | apply Kd.R_alloc | apply Kd.R_drewN | apply Kd.R_drew)); exact Kd.R_mono HO_233000.out (fun _ hk => hk.2)), (by (with_reducible repeat (first | apply Kd.R_alloc | apply Kd.R_drewN | apply Kd.R_drew)); exact Kd.R_mono HO_233001.out (fun _ hk => hk.2)), (by (with_reducible repeat (first | apply Kd.R_alloc | apply Kd.R_drewN | apply Kd.R_drew)); exact Kd.R_mono HO_7.out (fun _ hk => hk.2)), (kr HO_8), (kb BK229), (kb BK230), (kb BK232), (kb BK256), GW256.out, GE256.out, NB229_256.out, NB256_229.out, NB230_256.out, NB256_230.out, NB232_256.out, NB256_232.out, (kB)⟩)
           rintro ⟨v247, v250, v253, gb256⟩ w42 ⟨hS_, h0_, h1_, h2_, h3_, h4_, h5_, h6_, h7_, h8_, h9_, h10_, h11_, h12_, h13_, h14_, h15_, h16_, h17_, h18_, h19_⟩
           have n0_ : Aside0 (Kd.R k37 37 w42 w.heap.size (fun k_ => some k_ ≠ (.slice Ao37 x233000_2.length co37 : Value).ownBlock) v247 t246) := ⟨h0_⟩
           have n1_ : Aside0 (Kd.R k39 39 w42 w.heap.size (fun k_ => some k_ ≠ (.slice Ao38 x233001_2.length co38 : Value).ownBlock) v250 t249) := ⟨h1_⟩
           have n2_ : Aside0 (Kd.R k61 61 w42 w.heap.size (fun k_ => some k_ ≠ (u7 : Value).ownBlock) v253 t252) := ⟨h2_⟩
           have n3_ : Aside0 (Kd.R k37 37 w42 w.heap.size (fun k_ => some k_ ≠ (v247 : Value).ownBlock) (.slice Ao37 x233000_2.length co37) x233000_2) := ⟨h3_⟩
           have n4_ : Aside0 (Kd.R k39 39 w42 w.heap.size (fun k_ => some k_ ≠ (v250 : Value).ownBlock) (.slice Ao38 x233001_2.length co38) x233001_2) := ⟨h4_⟩
           have n5_ : Aside0 (Kd.R k61 61 w42 w.heap.size (fun k_ => some k_ ≠ (v253 : Value).ownBlock) u7 x7_2) := ⟨h5_⟩
           have n6_ : Aside0 (Kd.R (Kd.int .i64) 49 w42 w.heap.size (fun _ => True) u8 x8_2) := ⟨h6_⟩
           have n7_ : Aside0 (w42.heap[gb229]? = some (.cells #[.slice A0_0 l0_0.length c0_0, .slice A0_1 l0_1.length c0_1] 30 (0, 0))) := ⟨h7_⟩
           have n8_ : Aside0 (w42.heap[gb230]? = some (.cells #[.slice none 0 0, .slice none 0 0] 30 (0, 0))) := ⟨h8_⟩
           have n9_ : Aside0 (w42.heap[gb232]? = some (.cells #[.slice Ao37 x233000_2.length co37, .slice Ao38 x233001_2.length co38] 30 (0, 0))) := ⟨h9_⟩
           have n10_ : Aside0 (w42.heap[gb256]? = some (.cells #[.slice none 0 0, .slice none 0 0] 30 (0, 0))) := ⟨h10_⟩
           have n11_ : Aside0 (w.heap.size ≤ gb256) := ⟨h11_⟩
           have n12_ : Aside0 (w.heap.size ≤ gb256) := ⟨h12_⟩
           have n13_ : Aside0 (gb229 ≠ gb256) := ⟨h13_⟩
           have n14_ : Aside0 (gb256 ≠ gb229) := ⟨h14_⟩
           have n15_ : Aside0 (gb230 ≠ gb256) := ⟨h15_⟩
           have n16_ : Aside0 (gb256 ≠ gb230) := ⟨h16_⟩
           have n17_ : Aside0 (gb232 ≠ gb256) := ⟨h17_⟩
           have n18_ : Aside0 (gb256 ≠ gb232) := ⟨h18_⟩
           have n19_ : Aside0 (Below w.heap.size w w42) := ⟨h19_⟩
           clear HO_7
           clear HO_8
           clear HO_233000
           clear HO_233001
           clear BK229
           clear BK230
           clear BK232
           clear HB
           clear h0_ h1_ h2_ h3_ h4_ h5_ h6_ h7_ h8_ h9_ h10_ h11_ h12_ h13_ h14_ h15_ h16_ h17_ h18_ h19_
           have HO248 := n0_
           have HO251 := n1_
           have HO254 := n2_
           have HO_233000 := n3_
           have HO_233001 := n4_
           have HO_7 := n5_
           have HO_8 := n6_
           have BK229 := n7_
           have BK230 := n8_
           have BK232 := n9_
           have BK256 := n10_
           have GW256 := n11_
           have GE256 := n12_
           have NB229_256 := n13_
           have NB256_229 := n14_
           have NB230_256 := n15_
           have NB256_230 := n16_
           have NB232_256 := n17_
           have NB256_232 := n18_
           have HB := n19_
           clear n0_ n1_ n2_ n3_ n4_ n5_ n6_ n7_ n8_ n9_ n10_ n11_ n12_ n13_ n14_ n15_ n16_ n17_ n18_ n19_
           have hHeld : w42.cell? ⟨gb232, 0, none⟩ = some (.slice Ao37 x233000_2.length co37) ∧ w42.cell? ⟨gb232, 1, none⟩ = some (.slice Ao38 x233001_2.length co38) ∧ w42.cell? (ad245.add ((x11_2).toNat * 5)) = some (.int .i64 ((rd_T45 l1 x11_2).f0)) ∧ w42.cell? ⟨(ad245.add ((x11_2).toNat * 5)).block, (ad245.add ((x11_2).toNat * 5)).off + 1, none⟩ = some (.string ((rd_T45 l1 x11_2).f1)) ∧ w42.cell? ⟨(ad245.add ((x11_2).toNat * 5)).block, (ad245.add ((x11_2).toNat * 5)).off + 2, none⟩ = some (.string ((rd_T45 l1 x11_2).f2)) ∧ w42.cell? ⟨(ad245.add ((x11_2).toNat * 5)).block, (ad245.add ((x11_2).toNat * 5)).off + 3, none⟩ = some (.string ((rd_T45 l1 x11_2).f3)) ∧ w42.cell? ⟨(ad245.add ((x11_2).toNat * 5)).block, (ad245.add ((x11_2).toNat * 5)).off + 4, none⟩ = some (.int .u64 ((rd_T45 l1 x11_2).f4)) := hS_
           obtain ⟨Ao43, co43, eo43⟩ := Kd.R_slice HO248.out
           (first | subst eo43 | (injection eo43 with f1_ f2_ f3_; have f4_ := f1_.symm; have f5_ := f3_.symm; clear f1_ f2_ f3_; subst f4_; subst f5_))
           obtain ⟨Ao45, co45, eo45⟩ := Kd.R_slice HO251.out
           (first | subst eo45 | (injection eo45 with f1_ f2_ f3_; have f4_ := f1_.symm; have f5_ := f3_.symm; clear f1_ f2_ f3_; subst f4_; subst f5_))
           refine norm_ (a' := ?_) ?_ ?_
           rotate_left
           ·simp only [putAll, Act.put, List.setIfInBounds_toArray, List.set_cons_zero, List.set_cons_succ]
            rfl
           refine one_ (i := 11) (N := none) #[true, true, true, true, true, true, true, true, true, true, true, true, false, false] rfl rfl (one_of HT_.out (by kernel_rfl)) (by decide) (fun K hK => ?_)
           have hs44 : w42.cell? ⟨gb256, 0, none⟩ = some (.slice none 0 0) := (blk_cell BK256.out 0).trans rfl
           have hfs44 := blk_frozen BK256.out 0
           have hns44_0 := NB229_256.out
           have hns44_1 := NB230_256.out
           have hns44_2 := NB232_256.out
           have hms44_0 := NB256_229.out
           have hms44_1 := NB256_230.out
           have hms44_2 := NB256_232.out
           have hs46 : w42.cell? ⟨gb256, 1, none⟩ = some (.slice none 0 0) := (blk_cell BK256.out 1).trans rfl
           have hfs46 := blk_frozen BK256.out 1
           have hns46_0 := NB229_256.out
           have hns46_1 := NB230_256.out
           have hns46_2 := NB232_256.out
           have hms46_0 := NB256_229.out
           have hms46_1 := NB256_230.out
           have hms46_2 := NB256_232.out
           refine skip_ (w1 := ?_) (by rfl) rfl ?_ ?_
           rotate_left
           ·go_simp
            rfl
           refine hK.out _ _ ⟨((cell_far (p := ⟨gb256, _, none⟩) NB232_256.out _).trans (((cell_far (p := ⟨gb256, _, none⟩) NB232_256.out _).trans (hHeld.1)))), ((cell_far (p := ⟨gb256, _, none⟩) NB232_256.out _).trans (((cell_far (p := ⟨gb256, _, none⟩) NB232_256.out _).trans (hHeld.2.1)))), ((cell_far (p := ⟨gb256, _, none⟩) (by first | exact Nat.ne_of_lt (Nat.lt_of_lt_of_le (by have := World.block_lt_of_cell? _ _ hw245_0; first | rwa [add_block] at this | exact this) GW256.out) | (rw [add_block]; exact Nat.ne_of_lt (Nat.lt_of_lt_of_le (by have := World.block_lt_of_cell? _ _ hw245_0; first | rwa [add_block] at this | exact this) GW256.out)) | (show (Addr.add _ _).block ≠ _; rw [add_block]; exact Nat.ne_of_lt (Nat.lt_of_lt_of_le (by have := World.block_lt_of_cell? _ _ hw245_0; first | rwa [add_block] at this | exact this) GW256.out)) | (dsimp only; exact Nat.ne_of_lt (Nat.lt_of_lt_of_le (by have := World.block_lt_of_cell? _ _ hw245_0; first | rwa [add_block] at this | exact this) GW256.out))) _).trans (((cell_far (p := ⟨gb256, _, none⟩) (by first | exact Nat.ne_of_lt (Nat.lt_of_lt_of_le (by have := World.block_lt_of_cell? _ _ hw245_0; first | rwa [add_block] at this | exact this) GW256.out) | (rw [add_block]; exact Nat.ne_of_lt (Nat.lt_of_lt_of_le (by have := World.block_lt_of_cell? _ _ hw245_0; first | rwa [add_block] at this | exact this) GW256.out)) | (show (Addr.add _ _).block ≠ _; rw [add_block]; exact Nat.ne_of_lt (Nat.lt_of_lt_of_le (by have := World.block_lt_of_cell? _ _ hw245_0; first | rwa [add_block] at this | exact this) GW256.out)) | (dsimp only; exact Nat.ne_of_lt (Nat.lt_of_lt_of_le (by have := World.block_lt_of_cell? _ _ hw245_0; first | rwa [add_block] at this | exact this) GW256.out))) _).trans (hHeld.2.2.1)))), ((cell_far (p := ⟨gb256, _, none⟩) (by first | exact Nat.ne_of_lt (Nat.lt_of_lt_of_le (by have := World.block_lt_of_cell? _ _ hw245_1; first | rwa [add_block] at this | exact this) GW256.out) | (rw [add_block]; exact Nat.ne_of_lt (Nat.lt_of_lt_of_le (by have := World.block_lt_of_cell? _ _ hw245_1; first | rwa [add_block] at this | exact this) GW256.out)) | (show (Addr.add _ _).block ≠ _; rw [add_block]; exact Nat.ne_of_lt (Nat.lt_of_lt_of_le (by have := World.block_lt_of_cell? _ _ hw245_1; first | rwa [add_block] at this | exact this) GW256.out)) | (dsimp only; exact Nat.ne_of_lt (Nat.lt_of_lt_of_le (by have := World.block_lt_of_cell? _ _ hw245_1; first | rwa [add_block] at this | exact this) GW256.out))) _).trans (((cell_far (p := ⟨gb256, _, none⟩) (by first | exact Nat.ne_of_lt (Nat.lt_of_lt_of_le (by have := World.block_lt_of_cell? _ _ hw245_1; first | rwa [add_block] at this | exact this) GW256.out) | (rw [add_block]; exact Nat.ne_of_lt (Nat.lt_of_lt_of_le (by have := World.block_lt_of_cell? _ _ hw245_1; first | rwa [add_block] at this | exact this) GW256.out)) | (show (Addr.add _ _).block ≠ _; rw [add_block]; exact Nat.ne_of_lt (Nat.lt_of_lt_of_le (by have := World.block_lt_of_cell? _ _ hw245_1; first | rwa [add_block] at this | exact this) GW256.out)) | (dsimp only; exact Nat.ne_of_lt (Nat.lt_of_lt_of_le (by have := World.block_lt_of_cell? _ _ hw245_1; first | rwa [add_block] at this | exact this) GW256.out))) _).trans (hHeld.2.2.2.1)))), ((cell_far (p := ⟨gb256, _, none⟩) (by first | exact Nat.ne_of_lt (Nat.lt_of_lt_of_le (by have := World.block_lt_of_cell? _ _ hw245_2; first | rwa [add_block] at this | exact this) GW256.out) | (rw [add_block]; exact Nat.ne_of_lt (Nat.lt_of_lt_of_le (by have := World.block_lt_of_cell? _ _ hw245_2; first | rwa [add_block] at this | exact this) GW256.out)) | (show (Addr.add _ _).block ≠ _; rw [add_block]; exact Nat.ne_of_lt (Nat.lt_of_lt_of_le (by have := World.block_lt_of_cell? _ _ hw245_2; first | rwa [add_block] at this | exact this) GW256.out)) | (dsimp only; exact Nat.ne_of_lt (Nat.lt_of_lt_of_le (by have := World.block_lt_of_cell? _ _ hw245_2; first | rwa [add_block] at this | exact this) GW256.out))) _).trans (((cell_far (p := ⟨gb256, _, none⟩) (by first | exact Nat.ne_of_lt (Nat.lt_of_lt_of_le (by have := World.block_lt_of_cell? _ _ hw245_2; first | rwa [add_block] at this | exact this) GW256.out) | (rw [add_block]; exact Nat.ne_of_lt (Nat.lt_of_lt_of_le (by have := World.block_lt_of_cell? _ _ hw245_2; first | rwa [add_block] at this | exact this) GW256.out)) | (show (Addr.add _ _).block ≠ _; rw [add_block]; exact Nat.ne_of_lt (Nat.lt_of_lt_of_le (by have := World.block_lt_of_cell? _ _ hw245_2; first | rwa [add_block] at this | exact this) GW256.out)) | (dsimp only; exact Nat.ne_of_lt (Nat.lt_of_lt_of_le (by have := World.block_lt_of_cell? _ _ hw245_2; first | rwa [add_block] at this | exact this) GW256.out))) _).trans (hHeld.2.2.2.2.1)))), ((cell_far (p := ⟨gb256, _, none⟩) (by first | exact Nat.ne_of_lt (Nat.lt_of_lt_of_le (by have := World.block_lt_of_cell? _ _ hw245_3; first | rwa [add_block] at this | exact this) GW256.out) | (rw [add_block]; exact Nat.ne_of_lt (Nat.lt_of_lt_of_le (by have := World.block_lt_of_cell? _ _ hw245_3; first | rwa [add_block] at this | exact this) GW256.out)) | (show (Addr.add _ _).block ≠ _; rw [add_block]; exact Nat.ne_of_lt (Nat.lt_of_lt_of_le (by have := World.block_lt_of_cell? _ _ hw245_3; first | rwa [add_block] at this | exact this) GW256.out)) | (dsimp only; exact Nat.ne_of_lt (Nat.lt_of_lt_of_le (by have := World.block_lt_of_cell? _ _ hw245_3; first | rwa [add_block] at this | exact this) GW256.out))) _).trans (((cell_far (p := ⟨gb256, _, none⟩) (by first | exact Nat.ne_of_lt (Nat.lt_of_lt_of_le (by have := World.block_lt_of_cell? _ _ hw245_3; first | rwa [add_block] at this | exact this) GW256.out) | (rw [add_block]; exact Nat.ne_of_lt (Nat.lt_of_lt_of_le (by have := World.block_lt_of_cell? _ _ hw245_3; first | rwa [add_block] at this | exact this) GW256.out)) | (show (Addr.add _ _).block ≠ _; rw [add_block]; exact Nat.ne_of_lt (Nat.lt_of_lt_of_le (by have := World.block_lt_of_cell? _ _ hw245_3; first | rwa [add_block] at this | exact this) GW256.out)) | (dsimp only; exact Nat.ne_of_lt (Nat.lt_of_lt_of_le (by have := World.block_lt_of_cell? _ _ hw245_3; first | rwa [add_block] at this | exact this) GW256.out))) _).trans (hHeld.2.2.2.2.2.1)))), ((cell_far (p := ⟨gb256, _, none⟩) (by first | exact Nat.ne_of_lt (Nat.lt_of_lt_of_le (by have := World.block_lt_of_cell? _ _ hw245_4; first | rwa [add_block] at this | exact this) GW256.out) | (rw [add_block]; exact Nat.ne_of_lt (Nat.lt_of_lt_of_le (by have := World.block_lt_of_cell? _ _ hw245_4; first | rwa [add_block] at this | exact this) GW256.out)) | (show (Addr.add _ _).block ≠ _; rw [add_block]; exact Nat.ne_of_lt (Nat.lt_of_lt_of_le (by have := World.block_lt_of_cell? _ _ hw245_4; first | rwa [add_block] at this | exact this) GW256.out)) | (dsimp only; exact Nat.ne_of_lt (Nat.lt_of_lt_of_le (by have := World.block_lt_of_cell? _ _ hw245_4; first | rwa [add_block] at this | exact this) GW256.out))) _).trans (((cell_far (p := ⟨gb256, _, none⟩) (by first | exact Nat.ne_of_lt (Nat.lt_of_lt_of_le (by have := World.block_lt_of_cell? _ _ hw245_4; first | rwa [add_block] at this | exact this) GW256.out) | (rw [add_block]; exact Nat.ne_of_lt (Nat.lt_of_lt_of_le (by have := World.block_lt_of_cell? _ _ hw245_4; first | rwa [add_block] at this | exact this) GW256.out)) | (show (Addr.add _ _).block ≠ _; rw [add_block]; exact Nat.ne_of_lt (Nat.lt_of_lt_of_le (by have := World.block_lt_of_cell? _ _ hw245_4; first | rwa [add_block] at this | exact this) GW256.out)) | (dsimp only; exact Nat.ne_of_lt (Nat.lt_of_lt_of_le (by have := World.block_lt_of_cell? _ _ hw245_4; first | rwa [add_block] at this | exact this) GW256.out))) _).trans (hHeld.2.2.2.2.2.2))))⟩ (fun hHeld => ?_)
           clear hK K
           refine plan_ [(12, 13, false), (13, 14, false)] ?_
           repeat (
            refine plan_pure (v := ?_) (a' := ?_) rfl rfl (any_of HT_.out (by kernel_rfl)) (Or.inl ⟨by rfl, ?_⟩) ?_ ?_ (fun _ _ _ h => h)
            rotate_left
            ·intro w'
             go_simp
             with_reducible rfl
            rotate_left
            ·simp only [Act.put, List.setIfInBounds_toArray, List.set_cons_zero, List.set_cons_succ, i64_w, i32_w]
             rfl)
           refine plan_end ?_
           refine done_ (done_of HT_.out (by kernel_rfl)) ?_
           try go_wp2_with (first | ((with_reducible refine gate_builtin (b := .append) (xs := #[.tmp 49, .tmp 51]) rfl ?_); at_builtin; refine Kd.R_append (Kd.int .i64) (w0 := w) w.heap.size rfl (.tmp 49) (.tmp 51) 54 49 (.int .i64 0) 8 rfl Try.underlying54 info49 rfl (by decide) (by omega) u8 x8_2 t255 [.int .i64 t255] (fun _ => True) (fun _ => False) rfl (by first | (go_simp; done) | (go_simp; rfl)) ?aP (fun _ hk => hk.elim) ?aF ?aO ?aB ?aS ?aL ?_; (case aP => exact rfl); (case aB => exact (kB)); (case aF => exact (fun _ _ => trivial)); (case aO => exact (by (with_reducible repeat (first | apply Kd.R_alloc | apply Kd.R_drewN | apply Kd.R_drew)); exact Kd.R_mono (Kd.R_far (p := ⟨gb256, 1, none⟩) (Kd.R_far (p := ⟨gb256, 0, none⟩) (Kd.R_types HO_8.out BK256.out (by decide)) (fun _ hk => hk.2) (.slice Ao43 t246.length co43)) (fun _ hk => hk.2) (.slice Ao45 t249.length co45)) (fun _ hk => trivial))); (case aS => exact (below_size (kB))); (case aL => have := LMc34.out; omega); intro v258 w47 ho hb hg hat; rw [← Ny257.out] at ho; have HO259 := Aside0.mk (ho); replace HO_7 := Aside0.mk (Kd.R_over' (kr HO_7) (Kd.R_typed (kr HO_8)) (by decide) hg); replace HO_233000 := Aside0.mk (Kd.R_over' (kr HO_233000) (Kd.R_typed (kr HO_8)) (by decide) hg); replace HO_233001 := Aside0.mk (Kd.R_over' (kr HO_233001) (Kd.R_typed (kr HO_8)) (by decide) hg); replace HO248 := Aside0.mk (Kd.R_over' (kr HO248) (Kd.R_typed (kr HO_8)) (by decide) hg); replace HO251 := Aside0.mk (Kd.R_over' (kr HO251) (Kd.R_typed (kr HO_8)) (by decide) hg); replace HO254 := Aside0.mk (Kd.R_over' (kr HO254) (Kd.R_typed (kr HO_8)) (by decide) hg); replace BK229 := Aside0.mk (blk_grown (kb BK229) hg (Kd.R_ne HO_8.out BK229.out (by decide))); replace BK230 := Aside0.mk (blk_grown (kb BK230) hg (Kd.R_ne HO_8.out BK230.out (by decide))); replace BK232 := Aside0.mk (blk_grown (kb BK232) hg (Kd.R_ne HO_8.out BK232.out (by decide))); replace BK256 := Aside0.mk (blk_grown (g := gb256) (o := .cells #[.slice Ao43 t246.length co43, .slice Ao45 t249.length co45] 30 (0, 0)) (by (with_reducible repeat (first | refine blk_drewN ?_ _ | refine blk_drew ?_ | refine blk_alloc ?_ _)); refine blk_put (cs := #[.slice Ao43 t246.length co43, .slice none 0 0]) ?_ 1 _ rfl; (with_reducible repeat (first | refine blk_drewN ?_ _ | refine blk_drew ?_ | refine blk_alloc ?_ _)); refine blk_put (cs := #[.slice none 0 0, .slice none 0 0]) ?_ 0 _ rfl; (with_reducible repeat (first | refine blk_drewN ?_ _ | refine blk_drew ?_ | refine blk_alloc ?_ _)); exact BK256.out) hg (Kd.R_ne HO_8.out BK256.out (by decide))); replace HB := Aside0.mk (hb); clear HO_8; clear ho hb hg hat))
           replace HO_7 := Aside0.mk (Kd.R_drew HO_7.out)
           replace HO_233000 := Aside0.mk (Kd.R_drew HO_233000.out)
           replace HO_233001 := Aside0.mk (Kd.R_drew HO_233001.out)
           replace HO248 := Aside0.mk (Kd.R_drew HO248.out)
           replace HO251 := Aside0.mk (Kd.R_drew HO251.out)
           replace HO254 := Aside0.mk (Kd.R_drew HO254.out)
           replace HO259 := Aside0.mk (Kd.R_drew HO259.out)
           replace BK229 := Aside0.mk (blk_drew BK229.out)
           replace BK230 := Aside0.mk (blk_drew BK230.out)
           replace BK232 := Aside0.mk (blk_drew BK232.out)
           replace BK256 := Aside0.mk (blk_drew BK256.out)
           replace HB := Aside0.mk (below_drew1 HB.out)
           obtain ⟨Ao50, co50, eo50⟩ := Kd.R_slice HO254.out
           (first | subst eo50 | (injection eo50 with f1_ f2_ f3_; have f4_ := f1_.symm; have f5_ := f3_.symm; clear f1_ f2_ f3_; subst f4_; subst f5_))
           refine start_ (n := 6) (S := fun w' => w'.cell? ⟨gb256, 0, none⟩ = some (.slice Ao43 t246.length co43) ∧ w'.cell? ⟨gb256, 1, none⟩ = some (.slice Ao45 t249.length co45)) (ds := []) #[false, false, false, false, false, false] (by kernel_rfl) rfl rfl ⟨(blk_cell BK256.out 0).trans rfl, (blk_cell BK256.out 1).trans rfl⟩ (fun hHeld => ?_)
           generalize w47.drew = w48 at HO_7 HO_233000 HO_233001 HO248 HO251 HO254 HO259 BK229 BK230 BK232 BK256 HB hHeld ⊢
           refine plan_ [(1, 56, false), (2, 57, false), (0, 55, true)] ?_
           repeat (first
            | (
             refine plan_pure (v := ?_) (a' := ?_) rfl rfl (by kernel_rfl) (Or.inl ⟨by rfl, ?_⟩) ?_ ?_ (fun _ _ _ h => h)
             rotate_left
             ·intro w'
              go_simp
              with_reducible rfl
             rotate_left
             ·simp only [Act.put, List.setIfInBounds_toArray, List.set_cons_zero, List.set_cons_succ, i64_w, i32_w]
              rfl)
            | (
             refine plan_take (v := ?_) (a' := ?_) rfl rfl (by kernel_rfl) (Or.inl ⟨by rfl, ?_⟩) hHeld ?_ ?_ (fun _ _ _ h => h)
             rotate_left
             ·rintro w' ⟨s0, s1⟩
              go_simp
              with_reducible rfl
             rotate_left
             ·simp only [Act.put, List.setIfInBounds_toArray, List.set_cons_zero, List.set_cons_succ, i64_w, i32_w]
              rfl))
           refine plan_end ?_
           refine one_ (i := 3) (N := some 58) #[true, true, true, true, false, false] rfl rfl (by kernel_rfl) (by decide) (fun K hK => ?_)
           refine Kd.R_append_rows_step k61 (w0 := w) w.heap.size (by rfl) (.tmp 56) (.tmp 57) 48 61 (.agg #[(.string ⟨#[]⟩), (.int .i64 0)]) 24 rfl Try.underlying48 info61 rfl (by decide) (by omega) u7 x7_2 t252 _ _ _ (fun k_ => some k_ ≠ (.slice Ao50 t252.length co50 : Value).ownBlock) (fun _ => False) rfl rfl ?aO ?aR (fun _ _ h => h) (fun _ h => h.elim) ?aF ?aB ?aS ?aL ?_
           (case aR => repeat (first | exact (Kd.R_reads' HO254.out).2.2 | (with_reducible refine Kd.C_alloc ?_ _) | (with_reducible refine Kd.C_drewN ?_ _) | (with_reducible refine Kd.C_drew ?_)))
           (case aB => exact (kB))
           (case aF => exact (fun k_ hk => Kd.fresh' (Kd.R_lt (kr HO254)) k_ hk))
           (case aO => exact (kr HO_7))
           (case aS => exact (below_size (kB)))
           (case aL => have := LMc36.out; omega)
           intro v261 w49 ho hb hg hat
           rw [← Ny260.out] at ho
           have HO262 := Aside0.mk (ho)
           replace HO_233000 := Aside0.mk (Kd.R_over' (kr HO_233000) (Kd.R_typed (kr HO_7)) (by decide) hg)
           replace HO_233001 := Aside0.mk (Kd.R_over' (kr HO_233001) (Kd.R_typed (kr HO_7)) (by decide) hg)
           replace HO248 := Aside0.mk (Kd.R_over' (kr HO248) (Kd.R_typed (kr HO_7)) (by decide) hg)
           replace HO251 := Aside0.mk (Kd.R_over' (kr HO251) (Kd.R_typed (kr HO_7)) (by decide) hg)
           replace HO254 := Aside0.mk (Kd.R_after (ok := (fun _ => True)) (by (with_reducible repeat (first | apply Kd.R_alloc | apply Kd.R_drewN | apply Kd.R_drew)); exact Kd.R_mono HO254.out (fun _ hk => ⟨trivial, hk⟩)) hg hat)
           replace HO259 := Aside0.mk (Kd.R_over' (kr HO259) (Kd.R_typed (kr HO_7)) (by decide) hg)
           replace BK229 := Aside0.mk (blk_grown (kb BK229) hg (Kd.R_ne HO_7.out BK229.out (by decide)))
           replace BK230 := Aside0.mk (blk_grown (kb BK230) hg (Kd.R_ne HO_7.out BK230.out (by decide)))
           replace BK232 := Aside0.mk (blk_grown (kb BK232) hg (Kd.R_ne HO_7.out BK232.out (by decide)))
           replace BK256 := Aside0.mk (blk_grown (kb BK256) hg (Kd.R_ne HO_7.out BK256.out (by decide)))
           replace HB := Aside0.mk (hb)
           clear HO_7
           clear ho hb hg hat
           refine hK.out _ _ ⟨(blk_cell BK256.out 0).trans rfl, (blk_cell BK256.out 1).trans rfl⟩ (fun hHeld => ?_)
           clear hK K
           refine norm_ (a' := ?_) ?_ ?_
           rotate_left
           ·show Act.put _ (some 58) _ = _
            simp only [Act.put, List.setIfInBounds_toArray, List.set_cons_zero, List.set_cons_succ, i64_w, i32_w]
            rfl
           refine one_ (i := 4) (N := none) #[true, true, true, true, true, false] rfl rfl (by kernel_rfl) (by decide) (fun K hK => ?_)
           have hs51 : w49.cell? ⟨gb232, 0, none⟩ = some (.slice Ao37 x233000_2.length co37) := (blk_cell BK232.out 0).trans rfl
           have hfs51 := blk_frozen BK232.out 0
           have hns51_0 := NB229_232.out
           have hns51_1 := NB230_232.out
           have hns51_3 := NB256_232.out
           have hms51_0 := NB232_229.out
           have hms51_1 := NB232_230.out
           have hms51_3 := NB232_256.out
           have hs52 : w49.cell? ⟨gb232, 1, none⟩ = some (.slice Ao38 x233001_2.length co38) := (blk_cell BK232.out 1).trans rfl
           have hfs52 := blk_frozen BK232.out 1
           have hns52_0 := NB229_232.out
           have hns52_1 := NB230_232.out
           have hns52_3 := NB256_232.out
           have hms52_0 := NB232_229.out
           have hms52_1 := NB232_230.out
           have hms52_3 := NB232_256.out
           refine skip_ (w1 := ?_) (by rfl) rfl ?_ ?_
           rotate_left
           ·go_simp
            rfl
           refine hK.out _ _ ⟨((cell_far (p := ⟨gb232, _, none⟩) NB256_232.out _).trans (((cell_far (p := ⟨gb232, _, none⟩) NB256_232.out _).trans (hHeld.1)))), ((cell_far (p := ⟨gb232, _, none⟩) NB256_232.out _).trans (((cell_far (p := ⟨gb232, _, none⟩) NB256_232.out _).trans (hHeld.2))))⟩ (fun hHeld => ?_)
           clear hK K
           refine pure_ (i := 5) (N := some 7) (v := ?_) (a' := ?_) #[true, true, true, true, true, true] rfl rfl (by kernel_rfl) (fun _ _ _ h => h) (Or.inl ⟨by rfl, ?_⟩) ?_ ?_
           rotate_left
           ·intro w'
            go_simp
            with_reducible rfl
           rotate_left
           ·simp only [Act.put, List.setIfInBounds_toArray, List.set_cons_zero, List.set_cons_succ, i64_w, i32_w]
            rfl
           refine done_ (by kernel_rfl) ?_
           try go_wp2
           go_roundg k2
           case measure => have := HJ3.out; have := HK2.out; omega
           case rel => exact ⟨(y260), (y257), (wrap64 (x11_2 + 1)), (t246), (t249), (.slice Ao43 t246.length co43), (.slice Ao45 t249.length co45), (by first | rfl | (simp; done) | (simp [*]; done)), H', ⟨by have := HJ3.out; have := HK2.out; omega⟩, ⟨by (with_reducible repeat (first | apply Kd.R_alloc | apply Kd.R_drewN | apply Kd.R_drew)); exact Kd.R_mono (Kd.R_far (p := ⟨gb232, 1, none⟩) (Kd.R_far (p := ⟨gb232, 0, none⟩) (Kd.R_types HO262.out BK232.out (by decide)) (fun _ hk => hk.2) (.slice Ao43 t246.length co43)) (fun _ hk => hk.2) (.slice Ao45 t249.length co45)) (fun _ hk => trivial)⟩, ⟨by (with_reducible repeat (first | apply Kd.R_alloc | apply Kd.R_drewN | apply Kd.R_drew)); exact Kd.R_mono (Kd.R_far (p := ⟨gb232, 1, none⟩) (Kd.R_far (p := ⟨gb232, 0, none⟩) (Kd.R_types HO259.out BK232.out (by decide)) (fun _ hk => hk.2) (.slice Ao43 t246.length co43)) (fun _ hk => hk.2) (.slice Ao45 t249.length co45)) (fun _ hk => trivial)⟩, ⟨by (with_reducible repeat (first | apply Kd.R_alloc | apply Kd.R_drewN | apply Kd.R_drew)); exact Kd.R_mono (Kd.R_far (p := ⟨gb232, 1, none⟩) (Kd.R_far (p := ⟨gb232, 0, none⟩) (Kd.R_types HO248.out BK232.out (by decide)) (fun _ hk => hk.2) (.slice Ao43 t246.length co43)) (fun _ hk => hk.2) (.slice Ao45 t249.length co45)) (fun _ hk => trivial)⟩, ⟨by (with_reducible repeat (first | apply Kd.R_alloc | apply Kd.R_drewN | apply Kd.R_drew)); exact Kd.R_mono (Kd.R_far (p := ⟨gb232, 1, none⟩) (Kd.R_far (p := ⟨gb232, 0, none⟩) (Kd.R_types HO251.out BK232.out (by decide)) (fun _ hk => hk.2) (.slice Ao43 t246.length co43)) (fun _ hk => hk.2) (.slice Ao45 t249.length co45)) (fun _ hk => trivial)⟩, ⟨kb BK229⟩, ⟨kb BK230⟩, ⟨by (with_reducible repeat (first | refine blk_drewN ?_ _ | refine blk_drew ?_ | refine blk_alloc ?_ _)); refine blk_put (cs := #[.slice Ao43 t246.length co43, .slice Ao38 x233001_2.length co38]) ?_ 1 _ rfl; (with_reducible repeat (first | refine blk_drewN ?_ _ | refine blk_drew ?_ | refine blk_alloc ?_ _)); refine blk_put (cs := #[.slice Ao37 x233000_2.length co37, .slice Ao38 x233001_2.length co38]) ?_ 0 _ rfl; (with_reducible repeat (first | refine blk_drewN ?_ _ | refine blk_drew ?_ | refine blk_alloc ?_ _)); exact BK232.out⟩, ⟨kB⟩⟩
          ·rw [if_neg c36] at H
           exact absurd H (by simp)
         ·rw [if_neg c35] at H
          have c35b0 : (t255 == 0) = false := beq_eq_false_iff_ne.mpr c35
          have c35b1 : (t255 != 0) = true := bne_iff_ne.mpr c35
          have H' := Aside0.mk H
          clear H
          obtain ⟨Ao53, co53, eo53⟩ := Kd.R_slice HO_233000.out
          subst eo53
          obtain ⟨Ao54, co54, eo54⟩ := Kd.R_slice HO_233001.out
          subst eo54
          try go_wp2
          replace HO_7 := Aside0.mk (Kd.R_drew HO_7.out)
          replace HO_8 := Aside0.mk (Kd.R_drew HO_8.out)
          replace HO_233000 := Aside0.mk (Kd.R_drew HO_233000.out)
          replace HO_233001 := Aside0.mk (Kd.R_drew HO_233001.out)
          replace BK229 := Aside0.mk (blk_drew BK229.out)
          replace BK230 := Aside0.mk (blk_drew BK230.out)
          replace BK232 := Aside0.mk (blk_drew BK232.out)
          replace HB := Aside0.mk (below_drew1 HB.out)
          have p245 : 0 ≤ (x11_2 : Int) := of_decide_eq_true (by first | (with_reducible assumption) | assumption)
          have q245 : x11_2 < (l1.length : Int) := of_decide_eq_true (by first | (with_reducible assumption) | assumption)
          obtain ⟨ad245, e245, hx245_0, hx245_1, hx245_2, hx245_3, hx245_4⟩ := at_T45 HR1.out x11_2 p245 q245
          have hw245_4 := hx245_4
          have hw245_3 := hx245_3
          have hw245_2 := hx245_2
          have hw245_1 := hx245_1
          have hw245_0 := hx245_0
          cases e245
          replace hx245_0 := (HB.out.cell (World.block_lt_of_cell? w _ hx245_0)).trans hx245_0
          replace hx245_1 := (HB.out.cell (World.block_lt_of_cell? w _ hx245_1)).trans hx245_1
          replace hx245_2 := (HB.out.cell (World.block_lt_of_cell? w _ hx245_2)).trans hx245_2
          replace hx245_3 := (HB.out.cell (World.block_lt_of_cell? w _ hx245_3)).trans hx245_3
          replace hx245_4 := (HB.out.cell (World.block_lt_of_cell? w _ hx245_4)).trans hx245_4
          replace p245 := eq_true p245
          replace q245 := eq_true q245
          refine start_ (n := 14) (S := fun w' => w'.cell? ⟨gb232, 0, none⟩ = some (.slice Ao53 x233000_2.length co53) ∧ w'.cell? ⟨gb232, 1, none⟩ = some (.slice Ao54 x233001_2.length co54) ∧ w'.cell? (ad245.add ((x11_2).toNat * 5)) = some (.int .i64 ((rd_T45 l1 x11_2).f0)) ∧ w'.cell? ⟨(ad245.add ((x11_2).toNat * 5)).block, (ad245.add ((x11_2).toNat * 5)).off + 1, none⟩ = some (.string ((rd_T45 l1 x11_2).f1)) ∧ w'.cell? ⟨(ad245.add ((x11_2).toNat * 5)).block, (ad245.add ((x11_2).toNat * 5)).off + 2, none⟩ = some (.string ((rd_T45 l1 x11_2).f2)) ∧ w'.cell? ⟨(ad245.add ((x11_2).toNat * 5)).block, (ad245.add ((x11_2).toNat * 5)).off + 3, none⟩ = some (.string ((rd_T45 l1 x11_2).f3)) ∧ w'.cell? ⟨(ad245.add ((x11_2).toNat * 5)).block, (ad245.add ((x11_2).toNat * 5)).off + 4, none⟩ = some (.int .u64 ((rd_T45 l1 x11_2).f4))) (ds := []) #[false, false, false, false, false, false, false, false, false, false, false, false, false, false] (by kernel_rfl) rfl rfl ⟨(blk_cell BK232.out 0).trans rfl, (blk_cell BK232.out 1).trans rfl, ((HB.out.cell (World.block_lt_of_cell? w _ hw245_0)).trans hw245_0), ((HB.out.cell (World.block_lt_of_cell? w _ hw245_1)).trans hw245_1), ((HB.out.cell (World.block_lt_of_cell? w _ hw245_2)).trans hw245_2), ((HB.out.cell (World.block_lt_of_cell? w _ hw245_3)).trans hw245_3), ((HB.out.cell (World.block_lt_of_cell? w _ hw245_4)).trans hw245_4)⟩ (fun hHeld => ?_); refine with_tabW cutroomref36_Run.tab12 cutroomref36_Run.bits12 (fun HT_ HW_ => ?_)
          generalize wr.drew = w55 at HO_7 HO_8 HO_233000 HO_233001 BK229 BK230 BK232 HB hx245_0 hx245_1 hx245_2 hx245_3 hx245_4 hHeld ⊢
          refine plan_ [(1, 41, false), (2, 42, false), (3, 43, false), (0, 40, true), (4, 44, true)] ?_
          repeat (first
           | (
            refine plan_pure (v := ?_) (a' := ?_) rfl rfl (any_of HT_.out (by kernel_rfl)) (Or.inl ⟨by rfl, ?_⟩) ?_ ?_ (fun _ _ _ h => h)
            rotate_left
            ·intro w'
             go_simp
             with_reducible rfl
            rotate_left
            ·simp only [Act.put, List.setIfInBounds_toArray, List.set_cons_zero, List.set_cons_succ, i64_w, i32_w]
             rfl)
           | (
            refine plan_take (v := ?_) (a' := ?_) rfl rfl (take_ofW HT_.out HW_.out (by kernel_rfl)) (Or.inl ⟨by rfl, ?_⟩) hHeld ?_ ?_ (fun _ _ _ h => h)
            rotate_left
            ·rintro w' ⟨s0, s1, s2, s3, s4, s5, s6⟩
             go_simp
             with_reducible rfl
            rotate_left
            ·simp only [Act.put, List.setIfInBounds_toArray, List.set_cons_zero, List.set_cons_succ, i64_w, i32_w]
             rfl))
          refine plan_end ?_
          refine join_ (σ := Value × Value × Value × Nat) 3 #[true, true, true, true, true, true, true, true, true, true, true, false, false, false] (fun s_ => [(45, .tuple #[.agg #[s_.1, s_.2.1], s_.2.2.1, .int .i64 t255]), (12, .pointer (some ⟨s_.2.2.2, 0, none⟩)), (39, .tuple #[.agg #[s_.1, s_.2.1], s_.2.2.1, .int .i64 t255]), (46, .agg #[s_.1, s_.2.1]), (47, s_.2.2.1), (48, .int .i64 t255)]) (fun s_ w' => (w'.cell? ⟨gb232, 0, none⟩ = some (.slice Ao53 x233000_2.length co53) ∧ w'.cell? ⟨gb232, 1, none⟩ = some (.slice Ao54 x233001_2.length co54) ∧ w'.cell? (ad245.add ((x11_2).toNat * 5)) = some (.int .i64 ((rd_T45 l1 x11_2).f0)) ∧ w'.cell? ⟨(ad245.add ((x11_2).toNat * 5)).block, (ad245.add ((x11_2).toNat * 5)).off + 1, none⟩ = some (.string ((rd_T45 l1 x11_2).f1)) ∧ w'.cell? ⟨(ad245.add ((x11_2).toNat * 5)).block, (ad245.add ((x11_2).toNat * 5)).off + 2, none⟩ = some (.string ((rd_T45 l1 x11_2).f2)) ∧ w'.cell? ⟨(ad245.add ((x11_2).toNat * 5)).block, (ad245.add ((x11_2).toNat * 5)).off + 3, none⟩ = some (.string ((rd_T45 l1 x11_2).f3)) ∧ w'.cell? ⟨(ad245.add ((x11_2).toNat * 5)).block, (ad245.add ((x11_2).toNat * 5)).off + 4, none⟩ = some (.int .u64 ((rd_T45 l1 x11_2).f4))) ∧ (Kd.R k37 37 w' w.heap.size (fun k_ => some k_ ≠ (.slice Ao53 x233000_2.length co53 : Value).ownBlock) s_.1 t246) ∧ (Kd.R k39 39 w' w.heap.size (fun k_ => some k_ ≠ (.slice Ao54 x233001_2.length co54 : Value).ownBlock) s_.2.1 t249) ∧ (Kd.R k61 61 w' w.heap.size (fun k_ => some k_ ≠ (u7 : Value).ownBlock) s_.2.2.1 t252) ∧ (Kd.R k37 37 w' w.heap.size (fun k_ => some k_ ≠ (s_.1 : Value).ownBlock) (.slice Ao53 x233000_2.length co53) x233000_2) ∧ (Kd.R k39 39 w' w.heap.size (fun k_ => some k_ ≠ (s_.2.1 : Value).ownBlock) (.slice Ao54 x233001_2.length co54) x233001_2) ∧ (Kd.R k61 61 w' w.heap.size (fun k_ => some k_ ≠ (s_.2.2.1 : Value).ownBlock) u7 x7_2) ∧ (Kd.R (Kd.int .i64) 49 w' w.heap.size (fun _ => True) u8 x8_2) ∧ (w'.heap[gb229]? = some (.cells #[.slice A0_0 l0_0.length c0_0, .slice A0_1 l0_1.length c0_1] 30 (0, 0))) ∧ (w'.heap[gb230]? = some (.cells #[.slice none 0 0, .slice none 0 0] 30 (0, 0))) ∧ (w'.heap[gb232]? = some (.cells #[.slice Ao53 x233000_2.length co53, .slice Ao54 x233001_2.length co54] 30 (0, 0))) ∧ (w'.heap[s_.2.2.2]? = some (.cells #[.slice none 0 0, .slice none 0 0] 30 (0, 0))) ∧ (w.heap.size ≤ s_.2.2.2) ∧ (w.heap.size ≤ s_.2.2.2) ∧ (gb229 ≠ s_.2.2.2) ∧ (s_.2.2.2 ≠ gb229) ∧ (gb230 ≠ s_.2.2.2) ∧ (s_.2.2.2 ≠ gb230) ∧ (gb232 ≠ s_.2.2.2) ∧ (s_.2.2.2 ≠ gb232) ∧ (Below w.heap.size w w')) ?_ ?_
          rotate_left
          ·intro hCont
           refine two_ (i := 5) (j := 10) (Ni := some 45) (Nj := some 12) #[true, true, true, true, true, true, false, false, false, false, false, false, false, false] #[true, true, true, true, true, false, false, false, false, false, true, false, false, false] rfl rfl rfl rfl (two_of HT_.out (by kernel_rfl)) (by decide) (by decide) (fun K hK => ?_) (fun K hK => ?_)
           ·skip
            refine goes_ Try.func19 (by kernel_rfl) rfl #[.agg #[.slice Ao53 x233000_2.length co53, .slice Ao54 x233001_2.length co54], .agg #[.int .i64 ((rd_T45 l1 x11_2).f0), .string ((rd_T45 l1 x11_2).f1), .string ((rd_T45 l1 x11_2).f2), .string ((rd_T45 l1 x11_2).f3), .int .u64 ((rd_T45 l1 x11_2).f4)]] (by rfl) rfl rfl (by (try simp only [List.map_toArray, List.map_cons, List.map_nil]); first | done | rfl | (simp only [List.length_drop, List.length_take]; rfl)) ?_
            with_reducible refine (cutroomref36_Step.calls _ _ x233000_2 _ _ x233001_2 ((rd_T45 l1 x11_2).f0) ((rd_T45 l1 x11_2).f1) ((rd_T45 l1 x11_2).f2) ((rd_T45 l1 x11_2).f3) ((rd_T45 l1 x11_2).f4) t246 t249 t252 t255 _ ?side1 ?side2 ?side3 ?side4 A33.out).mono ?_
            (case side1 => repeat (first | exact (Kd.R_reads' HO_233000.out).2.2 | (with_reducible refine Kd.C_alloc ?_ _) | (with_reducible refine Kd.C_drewN ?_ _) | (with_reducible refine Kd.C_drew ?_)))
            (case side2 => exact (Kd.R_reads' HO_233000.out).2.1)
            (case side3 => repeat (first | exact (Kd.R_reads' HO_233001.out).2.2 | (with_reducible refine Kd.C_alloc ?_ _) | (with_reducible refine Kd.C_drewN ?_ _) | (with_reducible refine Kd.C_drew ?_)))
            (case side4 => exact (Kd.R_reads' HO_233001.out).2.1)
            rintro e w56 ⟨v247, v250, v253, rfl, ho0, ho1, ho2, hb⟩
            refine ⟨_, rfl, ?_⟩
            have HO248 := Aside0.mk (Kd.R_lower (Kd.R_new' ho0 (Kd.R_lt (kr HO_233000))) (below_size (kB)))
            have HO251 := Aside0.mk (Kd.R_lower (Kd.R_new' ho1 (Kd.R_lt (kr HO_233001))) (below_size (kB)))
            have HO254 := Aside0.mk (Kd.R_lower (Kd.R_new' ho2 (Kd.R_lt (kr HO_7))) (below_size (kB)))
            replace HO_7 := Aside0.mk (Kd.R_elder' (kr HO_7) (Kd.R_base ho2) hb)
            replace HO_8 := cr HO_8 hb
            replace HO_233000 := Aside0.mk (Kd.R_elder' (kr HO_233000) (Kd.R_base ho0) hb)
            replace HO_233001 := Aside0.mk (Kd.R_elder' (kr HO_233001) (Kd.R_base ho1) hb)
            replace BK229 := cb BK229 hb
            replace BK230 := cb BK230 hb
            replace BK232 := cb BK232 hb
            replace HB := cB hb kB
            (try clear hb)
            (try clear hb2)
            (try clear hk)
            (try clear hi)
            (try clear ho0)
            (try clear ho1)
            (try clear ho2)
            refine hK.out _ _ ⟨(blk_cell BK232.out 0).trans rfl, (blk_cell BK232.out 1).trans rfl, ((HB.out.cell (World.block_lt_of_cell? w _ hw245_0)).trans hw245_0), ((HB.out.cell (World.block_lt_of_cell? w _ hw245_1)).trans hw245_1), ((HB.out.cell (World.block_lt_of_cell? w _ hw245_2)).trans hw245_2), ((HB.out.cell (World.block_lt_of_cell? w _ hw245_3)).trans hw245_3), ((HB.out.cell (World.block_lt_of_cell? w _ hw245_4)).trans hw245_4)⟩ (fun hHeld => ?_)
            clear hK K
            refine norm_ (a' := ?_) ?_ ?_
            rotate_left
            ·show Act.put _ (some 45) _ = _
             simp only [Act.put, List.setIfInBounds_toArray, List.set_cons_zero, List.set_cons_succ, i64_w, i32_w]
             rfl
            refine plan_ [(6, 39, false), (7, 46, false), (8, 47, false), (9, 48, false)] ?_
            repeat (
             refine plan_pure (v := ?_) (a' := ?_) rfl rfl (any_of HT_.out (by kernel_rfl)) (Or.inl ⟨by rfl, ?_⟩) ?_ ?_ (fun _ _ _ h => h)
             rotate_left
             ·intro w'
              go_simp
              with_reducible rfl
             rotate_left
             ·simp only [Act.put, List.setIfInBounds_toArray, List.set_cons_zero, List.set_cons_succ, i64_w, i32_w]
              rfl)
            refine plan_end ?_
            refine one_ (i := 10) (N := some 12) #[true, true, true, true, true, true, true, true, true, true, true, false, false, false] rfl rfl (one_of HT_.out (by kernel_rfl)) (by decide) (fun K hK => ?_)
            refine box_step ?hg (N := 12) ?hd (cs := #[.slice none 0 0, .slice none 0 0]) (t := 30) ?hr ?_; (case hd => rfl); (case hg => rfl); (case hr => first | (go_simp; done) | (go_simp; rfl))
            intro gb256 hg w57 hbox hb
            have BK256 := Aside0.mk (hbox)
            have GW256 := gw_ hg kB
            have GE256 := gw_ hg kB
            have NB229_256 := nb_lt hg BK229
            have NB256_229 := nb_gt hg BK229
            have NB230_256 := nb_lt hg BK230
            have NB256_230 := nb_gt hg BK230
            have NB232_256 := nb_lt hg BK232
            have NB256_232 := nb_gt hg BK232
            replace HO_7 := cr HO_7 hb
            replace HO_8 := cr HO_8 hb
            replace HO_233000 := cr HO_233000 hb
            replace HO_233001 := cr HO_233001 hb
            replace HO248 := cr HO248 hb
            replace HO251 := cr HO251 hb
            replace HO254 := cr HO254 hb
            replace BK229 := cb BK229 hb
            replace BK230 := cb BK230 hb
            replace BK232 := cb BK232 hb
            replace HB := cB hb kB
            clear hb hbox hg
            refine hK.out _ _ ⟨(blk_cell BK232.out 0).trans rfl, (blk_cell BK232.out 1).trans rfl, ((HB.out.cell (World.block_lt_of_cell? w _ hw245_0)).trans hw245_0), ((HB.out.cell (World.block_lt_of_cell? w _ hw245_1)).trans hw245_1), ((HB.out.cell (World.block_lt_of_cell? w _ hw245_2)).trans hw245_2), ((HB.out.cell (World.block_lt_of_cell? w _ hw245_3)).trans hw245_3), ((HB.out.cell (World.block_lt_of_cell? w _ hw245_4)).trans hw245_4)⟩ (fun hHeld => ?_)
            clear hK K
            refine norm_ (a' := ?_) ?_ ?_
            rotate_left
            ·show Act.put _ (some 12) _ = _
             simp only [Act.put, List.setIfInBounds_toArray, List.set_cons_zero, List.set_cons_succ, i64_w, i32_w]
             rfl
            exact norm_ (by simp only [putAll, Act.put, List.setIfInBounds_toArray, List.set_cons_zero, List.set_cons_succ]) (hCont (v247, v250, v253, gb256) _ ⟨hHeld, (by (with_reducible repeat (first | apply Kd.R_alloc | apply Kd.R_drewN | apply Kd.R_drew)); exact Kd.R_mono HO248.out (fun _ hk => hk.2)), (by (with_reducible repeat (first | apply Kd.R_alloc | apply Kd.R_drewN | apply Kd.R_drew)); exact Kd.R_mono HO251.out (fun _ hk => hk.2)), (by (with_reducible repeat (first | apply Kd.R_alloc | apply Kd.R_drewN | apply Kd.R_drew)); exact Kd.R_mono HO254.out (fun _ hk => hk.2)), (by (with_reducible repeat (first | apply Kd.R_alloc | apply Kd.R_drewN | apply Kd.R_drew)); exact Kd.R_mono HO_233000.out (fun _ hk => hk.2)), (by (with_reducible repeat (first | apply Kd.R_alloc | apply Kd.R_drewN | apply Kd.R_drew)); exact Kd.R_mono HO_233001.out (fun _ hk => hk.2)), (by (with_reducible repeat (first | apply Kd.R_alloc | apply Kd.R_drewN | apply Kd.R_drew)); exact Kd.R_mono HO_7.out (fun _ hk => hk.2)), (kr HO_8), (kb BK229), (kb BK230), (kb BK232), (kb BK256), GW256.out, GE256.out, NB229_256.out, NB256_229.out, NB230_256.out, NB256_230.out, NB232_256.out, NB256_232.out, (kB)⟩)
           ·skip
            refine box_step ?hg (N := 12) ?hd (cs := #[.slice none 0 0, .slice none 0 0]) (t := 30) ?hr ?_; (case hd => rfl); (case hg => rfl); (case hr => first | (go_simp; done) | (go_simp; rfl))
            intro gb256 hg w56 hbox hb
            have BK256 := Aside0.mk (hbox)
            have GW256 := gw_ hg kB
            have GE256 := gw_ hg kB
            have NB229_256 := nb_lt hg BK229
            have NB256_229 := nb_gt hg BK229
            have NB230_256 := nb_lt hg BK230
            have NB256_230 := nb_gt hg BK230
            have NB232_256 := nb_lt hg BK232
            have NB256_232 := nb_gt hg BK232
            replace HO_7 := cr HO_7 hb
            replace HO_8 := cr HO_8 hb
            replace HO_233000 := cr HO_233000 hb
            replace HO_233001 := cr HO_233001 hb
            replace BK229 := cb BK229 hb
            replace BK230 := cb BK230 hb
            replace BK232 := cb BK232 hb
            replace HB := cB hb kB
            clear hb hbox hg
            refine hK.out _ _ ⟨(blk_cell BK232.out 0).trans rfl, (blk_cell BK232.out 1).trans rfl, ((HB.out.cell (World.block_lt_of_cell? w _ hw245_0)).trans hw245_0), ((HB.out.cell (World.block_lt_of_cell? w _ hw245_1)).trans hw245_1), ((HB.out.cell (World.block_lt_of_cell? w _ hw245_2)).trans hw245_2), ((HB.out.cell (World.block_lt_of_cell? w _ hw245_3)).trans hw245_3), ((HB.out.cell (World.block_lt_of_cell? w _ hw245_4)).trans hw245_4)⟩ (fun hHeld => ?_)
            clear hK K
            refine norm_ (a' := ?_) ?_ ?_
            rotate_left
            ·show Act.put _ (some 12) _ = _
             simp only [Act.put, List.setIfInBounds_toArray, List.set_cons_zero, List.set_cons_succ, i64_w, i32_w]
             rfl
            refine one_ (i := 5) (N := some 45) #[true, true, true, true, true, true, false, false, false, false, true, false, false, false] rfl rfl (one_of HT_.out (by kernel_rfl)) (by decide) (fun K hK => ?_)
            refine goes_ Try.func19 (by kernel_rfl) rfl #[.agg #[.slice Ao53 x233000_2.length co53, .slice Ao54 x233001_2.length co54], .agg #[.int .i64 ((rd_T45 l1 x11_2).f0), .string ((rd_T45 l1 x11_2).f1), .string ((rd_T45 l1 x11_2).f2), .string ((rd_T45 l1 x11_2).f3), .int .u64 ((rd_T45 l1 x11_2).f4)]] (by rfl) rfl rfl (by (try simp only [List.map_toArray, List.map_cons, List.map_nil]); first | done | rfl | (simp only [List.length_drop, List.length_take]; rfl)) ?_
            with_reducible refine (cutroomref36_Step.calls _ _ x233000_2 _ _ x233001_2 ((rd_T45 l1 x11_2).f0) ((rd_T45 l1 x11_2).f1) ((rd_T45 l1 x11_2).f2) ((rd_T45 l1 x11_2).f3) ((rd_T45 l1 x11_2).f4) t246 t249 t252 t255 _ ?side1 ?side2 ?side3 ?side4 A33.out).mono ?_
            (case side1 => repeat (first | exact (Kd.R_reads' HO_233000.out).2.2 | (with_reducible refine Kd.C_alloc ?_ _) | (with_reducible refine Kd.C_drewN ?_ _) | (with_reducible refine Kd.C_drew ?_)))
            (case side2 => exact (Kd.R_reads' HO_233000.out).2.1)
            (case side3 => repeat (first | exact (Kd.R_reads' HO_233001.out).2.2 | (with_reducible refine Kd.C_alloc ?_ _) | (with_reducible refine Kd.C_drewN ?_ _) | (with_reducible refine Kd.C_drew ?_)))
            (case side4 => exact (Kd.R_reads' HO_233001.out).2.1)
            rintro e w57 ⟨v247, v250, v253, rfl, ho0, ho1, ho2, hb⟩
            refine ⟨_, rfl, ?_⟩
            have HO248 := Aside0.mk (Kd.R_lower (Kd.R_new' ho0 (Kd.R_lt (kr HO_233000))) (below_size (kB)))
            have HO251 := Aside0.mk (Kd.R_lower (Kd.R_new' ho1 (Kd.R_lt (kr HO_233001))) (below_size (kB)))
            have HO254 := Aside0.mk (Kd.R_lower (Kd.R_new' ho2 (Kd.R_lt (kr HO_7))) (below_size (kB)))
            replace HO_7 := Aside0.mk (Kd.R_elder' (kr HO_7) (Kd.R_base ho2) hb)
            replace HO_8 := cr HO_8 hb
            replace HO_233000 := Aside0.mk (Kd.R_elder' (kr HO_233000) (Kd.R_base ho0) hb)
            replace HO_233001 := Aside0.mk (Kd.R_elder' (kr HO_233001) (Kd.R_base ho1) hb)
            replace BK229 := cb BK229 hb
            replace BK230 := cb BK230 hb
            replace BK232 := cb BK232 hb
            replace BK256 := cb BK256 hb
            replace HB := cB hb kB
            (try clear hb)
            (try clear hb2)
            (try clear hk)
            (try clear hi)
            (try clear ho0)
            (try clear ho1)
            (try clear ho2)
            refine hK.out _ _ ⟨(blk_cell BK232.out 0).trans rfl, (blk_cell BK232.out 1).trans rfl, ((HB.out.cell (World.block_lt_of_cell? w _ hw245_0)).trans hw245_0), ((HB.out.cell (World.block_lt_of_cell? w _ hw245_1)).trans hw245_1), ((HB.out.cell (World.block_lt_of_cell? w _ hw245_2)).trans hw245_2), ((HB.out.cell (World.block_lt_of_cell? w _ hw245_3)).trans hw245_3), ((HB.out.cell (World.block_lt_of_cell? w _ hw245_4)).trans hw245_4)⟩ (fun hHeld => ?_)
            clear hK K
            refine norm_ (a' := ?_) ?_ ?_
            rotate_left
            ·show Act.put _ (some 45) _ = _
             simp only [Act.put, List.setIfInBounds_toArray, List.set_cons_zero, List.set_cons_succ, i64_w, i32_w]
             rfl
            refine plan_ [(6, 39, false), (7, 46, false), (8, 47, false), (9, 48, false)] ?_
            repeat (
             refine plan_pure (v := ?_) (a' := ?_) rfl rfl (any_of HT_.out (by kernel_rfl)) (Or.inl ⟨by rfl, ?_⟩) ?_ ?_ (fun _ _ _ h => h)
             rotate_left
             ·intro w'
              go_simp
              with_reducible rfl
             rotate_left
             ·simp only [Act.put, List.setIfInBounds_toArray, List.set_cons_zero, List.set_cons_succ, i64_w, i32_w]
              rfl)
            refine plan_end ?_
            exact norm_ (by simp only [putAll, Act.put, List.setIfInBounds_toArray, List.set_cons_zero, List.set_cons_succ]) (hCont (v247, v250, v253, gb256) _ ⟨hHeld, (by (with_reducible repeat (first | apply Kd.R_alloc | apply Kd.R_drewN | apply Kd.R_drew)); exact Kd.R_mono HO248.out (fun _ hk => hk.2)), (by (with_reducible repeat (first | apply Kd.R_alloc | apply Kd.R_drewN | apply Kd.R_drew)); exact Kd.R_mono HO251.out (fun _ hk => hk.2)), (by (with_reducible repeat (first | apply Kd.R_alloc | apply Kd.R_drewN | apply Kd.R_drew)); exact Kd.R_mono HO254.out (fun _ hk => hk.2)), (by (with_reducible repeat (first | apply Kd.R_alloc | apply Kd.R_drewN | apply Kd.R_drew)); exact Kd.R_mono HO_233000.out (fun _ hk => hk.2)), (by (with_reducible repeat (first | apply Kd.R_alloc | apply Kd.R_drewN | apply Kd.R_drew)); exact Kd.R_mono HO_233001.out (fun _ hk => hk.2)), (by (with_reducible repeat (first | apply Kd.R_alloc | apply Kd.R_drewN | apply Kd.R_drew)); exact Kd.R_mono HO_7.out (fun _ hk => hk.2)), (kr HO_8), (kb BK229), (kb BK230), (kb BK232), (kb BK256), GW256.out, GE256.out, NB229_256.out, NB256_229.out, NB230_256.out, NB256_230.out, NB232_256.out, NB256_232.out, (kB)⟩)
          rintro ⟨v247, v250, v253, gb256⟩ w58 ⟨hS_, h0_, h1_, h2_, h3_, h4_, h5_, h6_, h7_, h8_, h9_, h10_, h11_, h12_, h13_, h14_, h15_, h16_, h17_, h18_, h19_⟩
          have n0_ : Aside0 (Kd.R k37 37 w58 w.heap.size (fun k_ => some k_ ≠ (.slice Ao53 x233000_2.length co53 : Value).ownBlock) v247 t246) := ⟨h0_⟩
          have n1_ : Aside0 (Kd.R k39 39 w58 w.heap.size (fun k_ => some k_ ≠ (.slice Ao54 x233001_2.length co54 : Value).ownBlock) v250 t249) := ⟨h1_⟩
          have n2_ : Aside0 (Kd.R k61 61 w58 w.heap.size (fun k_ => some k_ ≠ (u7 : Value).ownBlock) v253 t252) := ⟨h2_⟩
          have n3_ : Aside0 (Kd.R k37 37 w58 w.heap.size (fun k_ => some k_ ≠ (v247 : Value).ownBlock) (.slice Ao53 x233000_2.length co53) x233000_2) := ⟨h3_⟩
          have n4_ : Aside0 (Kd.R k39 39 w58 w.heap.size (fun k_ => some k_ ≠ (v250 : Value).ownBlock) (.slice Ao54 x233001_2.length co54) x233001_2) := ⟨h4_⟩
          have n5_ : Aside0 (Kd.R k61 61 w58 w.heap.size (fun k_ => some k_ ≠ (v253 : Value).ownBlock) u7 x7_2) := ⟨h5_⟩
          have n6_ : Aside0 (Kd.R (Kd.int .i64) 49 w58 w.heap.size (fun _ => True) u8 x8_2) := ⟨h6_⟩
          have n7_ : Aside0 (w58.heap[gb229]? = some (.cells #[.slice A0_0 l0_0.length c0_0, .slice A0_1 l0_1.length c0_1] 30 (0, 0))) := ⟨h7_⟩
          have n8_ : Aside0 (w58.heap[gb230]? = some (.cells #[.slice none 0 0, .slice none 0 0] 30 (0, 0))) := ⟨h8_⟩
          have n9_ : Aside0 (w58.heap[gb232]? = some (.cells #[.slice Ao53 x233000_2.length co53, .slice Ao54 x233001_2.length co54] 30 (0, 0))) := ⟨h9_⟩
          have n10_ : Aside0 (w58.heap[gb256]? = some (.cells #[.slice none 0 0, .slice none 0 0] 30 (0, 0))) := ⟨h10_⟩
          have n11_ : Aside0 (w.heap.size ≤ gb256) := ⟨h11_⟩
          have n12_ : Aside0 (w.heap.size ≤ gb256) := ⟨h12_⟩
          have n13_ : Aside0 (gb229 ≠ gb256) := ⟨h13_⟩
          have n14_ : Aside0 (gb256 ≠ gb229) := ⟨h14_⟩
          have n15_ : Aside0 (gb230 ≠ gb256) := ⟨h15_⟩
          have n16_ : Aside0 (gb256 ≠ gb230) := ⟨h16_⟩
          have n17_ : Aside0 (gb232 ≠ gb256) := ⟨h17_⟩
          have n18_ : Aside0 (gb256 ≠ gb232) := ⟨h18_⟩
          have n19_ : Aside0 (Below w.heap.size w w58) := ⟨h19_⟩
          clear HO_7
          clear HO_8
          clear HO_233000
          clear HO_233001
          clear BK229
          clear BK230
          clear BK232
          clear HB
          clear h0_ h1_ h2_ h3_ h4_ h5_ h6_ h7_ h8_ h9_ h10_ h11_ h12_ h13_ h14_ h15_ h16_ h17_ h18_ h19_
          have HO248 := n0_
          have HO251 := n1_
          have HO254 := n2_
          have HO_233000 := n3_
          have HO_233001 := n4_
          have HO_7 := n5_
          have HO_8 := n6_
          have BK229 := n7_
          have BK230 := n8_
          have BK232 := n9_
          have BK256 := n10_
          have GW256 := n11_
          have GE256 := n12_
          have NB229_256 := n13_
          have NB256_229 := n14_
          have NB230_256 := n15_
          have NB256_230 := n16_
          have NB232_256 := n17_
          have NB256_232 := n18_
          have HB := n19_
          clear n0_ n1_ n2_ n3_ n4_ n5_ n6_ n7_ n8_ n9_ n10_ n11_ n12_ n13_ n14_ n15_ n16_ n17_ n18_ n19_
          have hHeld : w58.cell? ⟨gb232, 0, none⟩ = some (.slice Ao53 x233000_2.length co53) ∧ w58.cell? ⟨gb232, 1, none⟩ = some (.slice Ao54 x233001_2.length co54) ∧ w58.cell? (ad245.add ((x11_2).toNat * 5)) = some (.int .i64 ((rd_T45 l1 x11_2).f0)) ∧ w58.cell? ⟨(ad245.add ((x11_2).toNat * 5)).block, (ad245.add ((x11_2).toNat * 5)).off + 1, none⟩ = some (.string ((rd_T45 l1 x11_2).f1)) ∧ w58.cell? ⟨(ad245.add ((x11_2).toNat * 5)).block, (ad245.add ((x11_2).toNat * 5)).off + 2, none⟩ = some (.string ((rd_T45 l1 x11_2).f2)) ∧ w58.cell? ⟨(ad245.add ((x11_2).toNat * 5)).block, (ad245.add ((x11_2).toNat * 5)).off + 3, none⟩ = some (.string ((rd_T45 l1 x11_2).f3)) ∧ w58.cell? ⟨(ad245.add ((x11_2).toNat * 5)).block, (ad245.add ((x11_2).toNat * 5)).off + 4, none⟩ = some (.int .u64 ((rd_T45 l1 x11_2).f4)) := hS_
          obtain ⟨Ao59, co59, eo59⟩ := Kd.R_slice HO248.out
          (first | subst eo59 | (injection eo59 with f1_ f2_ f3_; have f4_ := f1_.symm; have f5_ := f3_.symm; clear f1_ f2_ f3_; subst f4_; subst f5_))
          obtain ⟨Ao61, co61, eo61⟩ := Kd.R_slice HO251.out
          (first | subst eo61 | (injection eo61 with f1_ f2_ f3_; have f4_ := f1_.symm; have f5_ := f3_.symm; clear f1_ f2_ f3_; subst f4_; subst f5_))
          refine norm_ (a' := ?_) ?_ ?_
          rotate_left
          ·simp only [putAll, Act.put, List.setIfInBounds_toArray, List.set_cons_zero, List.set_cons_succ]
           rfl
          refine one_ (i := 11) (N := none) #[true, true, true, true, true, true, true, true, true, true, true, true, false, false] rfl rfl (one_of HT_.out (by kernel_rfl)) (by decide) (fun K hK => ?_)
          have hs60 : w58.cell? ⟨gb256, 0, none⟩ = some (.slice none 0 0) := (blk_cell BK256.out 0).trans rfl
          have hfs60 := blk_frozen BK256.out 0
          have hns60_0 := NB229_256.out
          have hns60_1 := NB230_256.out
          have hns60_2 := NB232_256.out
          have hms60_0 := NB256_229.out
          have hms60_1 := NB256_230.out
          have hms60_2 := NB256_232.out
          have hs62 : w58.cell? ⟨gb256, 1, none⟩ = some (.slice none 0 0) := (blk_cell BK256.out 1).trans rfl
          have hfs62 := blk_frozen BK256.out 1
          have hns62_0 := NB229_256.out
          have hns62_1 := NB230_256.out
          have hns62_2 := NB232_256.out
          have hms62_0 := NB256_229.out
          have hms62_1 := NB256_230.out
          have hms62_2 := NB256_232.out
          refine skip_ (w1 := ?_) (by rfl) rfl ?_ ?_
          rotate_left
          ·go_simp
           rfl
          refine hK.out _ _ ⟨((cell_far (p := ⟨gb256, _, none⟩) NB232_256.out _).trans (((cell_far (p := ⟨gb256, _, none⟩) NB232_256.out _).trans (hHeld.1)))), ((cell_far (p := ⟨gb256, _, none⟩) NB232_256.out _).trans (((cell_far (p := ⟨gb256, _, none⟩) NB232_256.out _).trans (hHeld.2.1)))), ((cell_far (p := ⟨gb256, _, none⟩) (by first | exact Nat.ne_of_lt (Nat.lt_of_lt_of_le (by have := World.block_lt_of_cell? _ _ hw245_0; first | rwa [add_block] at this | exact this) GW256.out) | (rw [add_block]; exact Nat.ne_of_lt (Nat.lt_of_lt_of_le (by have := World.block_lt_of_cell? _ _ hw245_0; first | rwa [add_block] at this | exact this) GW256.out)) | (show (Addr.add _ _).block ≠ _; rw [add_block]; exact Nat.ne_of_lt (Nat.lt_of_lt_of_le (by have := World.block_lt_of_cell? _ _ hw245_0; first | rwa [add_block] at this | exact this) GW256.out)) | (dsimp only; exact Nat.ne_of_lt (Nat.lt_of_lt_of_le (by have := World.block_lt_of_cell? _ _ hw245_0; first | rwa [add_block] at this | exact this) GW256.out))) _).trans (((cell_far (p := ⟨gb256, _, none⟩) (by first | exact Nat.ne_of_lt (Nat.lt_of_lt_of_le (by have := World.block_lt_of_cell? _ _ hw245_0; first | rwa [add_block] at this | exact this) GW256.out) | (rw [add_block]; exact Nat.ne_of_lt (Nat.lt_of_lt_of_le (by have := World.block_lt_of_cell? _ _ hw245_0; first | rwa [add_block] at this | exact this) GW256.out)) | (show (Addr.add _ _).block ≠ _; rw [add_block]; exact Nat.ne_of_lt (Nat.lt_of_lt_of_le (by have := World.block_lt_of_cell? _ _ hw245_0; first | rwa [add_block] at this | exact this) GW256.out)) | (dsimp only; exact Nat.ne_of_lt (Nat.lt_of_lt_of_le (by have := World.block_lt_of_cell? _ _ hw245_0; first | rwa [add_block] at this | exact this) GW256.out))) _).trans (hHeld.2.2.1)))), ((cell_far (p := ⟨gb256, _, none⟩) (by first | exact Nat.ne_of_lt (Nat.lt_of_lt_of_le (by have := World.block_lt_of_cell? _ _ hw245_1; first | rwa [add_block] at this | exact this) GW256.out) | (rw [add_block]; exact Nat.ne_of_lt (Nat.lt_of_lt_of_le (by have := World.block_lt_of_cell? _ _ hw245_1; first | rwa [add_block] at this | exact this) GW256.out)) | (show (Addr.add _ _).block ≠ _; rw [add_block]; exact Nat.ne_of_lt (Nat.lt_of_lt_of_le (by have := World.block_lt_of_cell? _ _ hw245_1; first | rwa [add_block] at this | exact this) GW256.out)) | (dsimp only; exact Nat.ne_of_lt (Nat.lt_of_lt_of_le (by have := World.block_lt_of_cell? _ _ hw245_1; first | rwa [add_block] at this | exact this) GW256.out))) _).trans (((cell_far (p := ⟨gb256, _, none⟩) (by first | exact Nat.ne_of_lt (Nat.lt_of_lt_of_le (by have := World.block_lt_of_cell? _ _ hw245_1; first | rwa [add_block] at this | exact this) GW256.out) | (rw [add_block]; exact Nat.ne_of_lt (Nat.lt_of_lt_of_le (by have := World.block_lt_of_cell? _ _ hw245_1; first | rwa [add_block] at this | exact this) GW256.out)) | (show (Addr.add _ _).block ≠ _; rw [add_block]; exact Nat.ne_of_lt (Nat.lt_of_lt_of_le (by have := World.block_lt_of_cell? _ _ hw245_1; first | rwa [add_block] at this | exact this) GW256.out)) | (dsimp only; exact Nat.ne_of_lt (Nat.lt_of_lt_of_le (by have := World.block_lt_of_cell? _ _ hw245_1; first | rwa [add_block] at this | exact this) GW256.out))) _).trans (hHeld.2.2.2.1)))), ((cell_far (p := ⟨gb256, _, none⟩) (by first | exact Nat.ne_of_lt (Nat.lt_of_lt_of_le (by have := World.block_lt_of_cell? _ _ hw245_2; first | rwa [add_block] at this | exact this) GW256.out) | (rw [add_block]; exact Nat.ne_of_lt (Nat.lt_of_lt_of_le (by have := World.block_lt_of_cell? _ _ hw245_2; first | rwa [add_block] at this | exact this) GW256.out)) | (show (Addr.add _ _).block ≠ _; rw [add_block]; exact Nat.ne_of_lt (Nat.lt_of_lt_of_le (by have := World.block_lt_of_cell? _ _ hw245_2; first | rwa [add_block] at this | exact this) GW256.out)) | (dsimp only; exact Nat.ne_of_lt (Nat.lt_of_lt_of_le (by have := World.block_lt_of_cell? _ _ hw245_2; first | rwa [add_block] at this | exact this) GW256.out))) _).trans (((cell_far (p := ⟨gb256, _, none⟩) (by first | exact Nat.ne_of_lt (Nat.lt_of_lt_of_le (by have := World.block_lt_of_cell? _ _ hw245_2; first | rwa [add_block] at this | exact this) GW256.out) | (rw [add_block]; exact Nat.ne_of_lt (Nat.lt_of_lt_of_le (by have := World.block_lt_of_cell? _ _ hw245_2; first | rwa [add_block] at this | exact this) GW256.out)) | (show (Addr.add _ _).block ≠ _; rw [add_block]; exact Nat.ne_of_lt (Nat.lt_of_lt_of_le (by have := World.block_lt_of_cell? _ _ hw245_2; first | rwa [add_block] at this | exact this) GW256.out)) | (dsimp only; exact Nat.ne_of_lt (Nat.lt_of_lt_of_le (by have := World.block_lt_of_cell? _ _ hw245_2; first | rwa [add_block] at this | exact this) GW256.out))) _).trans (hHeld.2.2.2.2.1)))), ((cell_far (p := ⟨gb256, _, none⟩) (by first | exact Nat.ne_of_lt (Nat.lt_of_lt_of_le (by have := World.block_lt_of_cell? _ _ hw245_3; first | rwa [add_block] at this | exact this) GW256.out) | (rw [add_block]; exact Nat.ne_of_lt (Nat.lt_of_lt_of_le (by have := World.block_lt_of_cell? _ _ hw245_3; first | rwa [add_block] at this | exact this) GW256.out)) | (show (Addr.add _ _).block ≠ _; rw [add_block]; exact Nat.ne_of_lt (Nat.lt_of_lt_of_le (by have := World.block_lt_of_cell? _ _ hw245_3; first | rwa [add_block] at this | exact this) GW256.out)) | (dsimp only; exact Nat.ne_of_lt (Nat.lt_of_lt_of_le (by have := World.block_lt_of_cell? _ _ hw245_3; first | rwa [add_block] at this | exact this) GW256.out))) _).trans (((cell_far (p := ⟨gb256, _, none⟩) (by first | exact Nat.ne_of_lt (Nat.lt_of_lt_of_le (by have := World.block_lt_of_cell? _ _ hw245_3; first | rwa [add_block] at this | exact this) GW256.out) | (rw [add_block]; exact Nat.ne_of_lt (Nat.lt_of_lt_of_le (by have := World.block_lt_of_cell? _ _ hw245_3; first | rwa [add_block] at this | exact this) GW256.out)) | (show (Addr.add _ _).block ≠ _; rw [add_block]; exact Nat.ne_of_lt (Nat.lt_of_lt_of_le (by have := World.block_lt_of_cell? _ _ hw245_3; first | rwa [add_block] at this | exact this) GW256.out)) | (dsimp only; exact Nat.ne_of_lt (Nat.lt_of_lt_of_le (by have := World.block_lt_of_cell? _ _ hw245_3; first | rwa [add_block] at this | exact this) GW256.out))) _).trans (hHeld.2.2.2.2.2.1)))), ((cell_far (p := ⟨gb256, _, none⟩) (by first | exact Nat.ne_of_lt (Nat.lt_of_lt_of_le (by have := World.block_lt_of_cell? _ _ hw245_4; first | rwa [add_block] at this | exact this) GW256.out) | (rw [add_block]; exact Nat.ne_of_lt (Nat.lt_of_lt_of_le (by have := World.block_lt_of_cell? _ _ hw245_4; first | rwa [add_block] at this | exact this) GW256.out)) | (show (Addr.add _ _).block ≠ _; rw [add_block]; exact Nat.ne_of_lt (Nat.lt_of_lt_of_le (by have := World.block_lt_of_cell? _ _ hw245_4; first | rwa [add_block] at this | exact this) GW256.out)) | (dsimp only; exact Nat.ne_of_lt (Nat.lt_of_lt_of_le (by have := World.block_lt_of_cell? _ _ hw245_4; first | rwa [add_block] at this | exact this) GW256.out))) _).trans (((cell_far (p := ⟨gb256, _, none⟩) (by first | exact Nat.ne_of_lt (Nat.lt_of_lt_of_le (by have := World.block_lt_of_cell? _ _ hw245_4; first | rwa [add_block] at this | exact this) GW256.out) | (rw [add_block]; exact Nat.ne_of_lt (Nat.lt_of_lt_of_le (by have := World.block_lt_of_cell? _ _ hw245_4; first | rwa [add_block] at this | exact this) GW256.out)) | (show (Addr.add _ _).block ≠ _; rw [add_block]; exact Nat.ne_of_lt (Nat.lt_of_lt_of_le (by have := World.block_lt_of_cell? _ _ hw245_4; first | rwa [add_block] at this | exact this) GW256.out)) | (dsimp only; exact Nat.ne_of_lt (Nat.lt_of_lt_of_le (by have := World.block_lt_of_cell? _ _ hw245_4; first | rwa [add_block] at this | exact this) GW256.out))) _).trans (hHeld.2.2.2.2.2.2))))⟩ (fun hHeld => ?_)
          clear hK K
          refine plan_ [(12, 13, false), (13, 14, false)] ?_
          repeat (
           refine plan_pure (v := ?_) (a' := ?_) rfl rfl (any_of HT_.out (by kernel_rfl)) (Or.inl ⟨by rfl, ?_⟩) ?_ ?_ (fun _ _ _ h => h)
           rotate_left
           ·intro w'
            go_simp
            with_reducible rfl
           rotate_left
           ·simp only [Act.put, List.setIfInBounds_toArray, List.set_cons_zero, List.set_cons_succ, i64_w, i32_w]
            rfl)
          refine plan_end ?_
          refine done_ (done_of HT_.out (by kernel_rfl)) ?_
          try go_wp2_with (first | ((with_reducible refine gate_builtin (b := .append) (xs := #[.tmp 49, .tmp 51]) rfl ?_); at_builtin; refine Kd.R_append (Kd.int .i64) (w0 := w) w.heap.size rfl (.tmp 49) (.tmp 51) 54 49 (.int .i64 0) 8 rfl Try.underlying54 info49 rfl (by decide) (by omega) u8 x8_2 t255 [.int .i64 t255] (fun _ => True) (fun _ => False) rfl (by first | (go_simp; done) | (go_simp; rfl)) ?aP (fun _ hk => hk.elim) ?aF ?aO ?aB ?aS ?aL ?_; (case aP => exact rfl); (case aB => exact (kB)); (case aF => exact (fun _ _ => trivial)); (case aO => exact (by (with_reducible repeat (first | apply Kd.R_alloc | apply Kd.R_drewN | apply Kd.R_drew)); exact Kd.R_mono (Kd.R_far (p := ⟨gb256, 1, none⟩) (Kd.R_far (p := ⟨gb256, 0, none⟩) (Kd.R_types HO_8.out BK256.out (by decide)) (fun _ hk => hk.2) (.slice Ao59 t246.length co59)) (fun _ hk => hk.2) (.slice Ao61 t249.length co61)) (fun _ hk => trivial))); (case aS => exact (below_size (kB))); (case aL => have := LMc34.out; omega); intro v258 w63 ho hb hg hat; rw [← Ny257.out] at ho; have HO259 := Aside0.mk (ho); replace HO_7 := Aside0.mk (Kd.R_over' (kr HO_7) (Kd.R_typed (kr HO_8)) (by decide) hg); replace HO_233000 := Aside0.mk (Kd.R_over' (kr HO_233000) (Kd.R_typed (kr HO_8)) (by decide) hg); replace HO_233001 := Aside0.mk (Kd.R_over' (kr HO_233001) (Kd.R_typed (kr HO_8)) (by decide) hg); replace HO248 := Aside0.mk (Kd.R_over' (kr HO248) (Kd.R_typed (kr HO_8)) (by decide) hg); replace HO251 := Aside0.mk (Kd.R_over' (kr HO251) (Kd.R_typed (kr HO_8)) (by decide) hg); replace HO254 := Aside0.mk (Kd.R_over' (kr HO254) (Kd.R_typed (kr HO_8)) (by decide) hg); replace BK229 := Aside0.mk (blk_grown (kb BK229) hg (Kd.R_ne HO_8.out BK229.out (by decide))); replace BK230 := Aside0.mk (blk_grown (kb BK230) hg (Kd.R_ne HO_8.out BK230.out (by decide))); replace BK232 := Aside0.mk (blk_grown (kb BK232) hg (Kd.R_ne HO_8.out BK232.out (by decide))); replace BK256 := Aside0.mk (blk_grown (g := gb256) (o := .cells #[.slice Ao59 t246.length co59, .slice Ao61 t249.length co61] 30 (0, 0)) (by (with_reducible repeat (first | refine blk_drewN ?_ _ | refine blk_drew ?_ | refine blk_alloc ?_ _)); refine blk_put (cs := #[.slice Ao59 t246.length co59, .slice none 0 0]) ?_ 1 _ rfl; (with_reducible repeat (first | refine blk_drewN ?_ _ | refine blk_drew ?_ | refine blk_alloc ?_ _)); refine blk_put (cs := #[.slice none 0 0, .slice none 0 0]) ?_ 0 _ rfl; (with_reducible repeat (first | refine blk_drewN ?_ _ | refine blk_drew ?_ | refine blk_alloc ?_ _)); exact BK256.out) hg (Kd.R_ne HO_8.out BK256.out (by decide))); replace HB := Aside0.mk (hb); clear HO_8; clear ho hb hg hat))
          go_roundg k2
          case measure => have := HJ3.out; have := HK2.out; omega
          case rel => exact ⟨(x7_2), (y257), (wrap64 (x11_2 + 1)), (x233000_2), (x233001_2), (.slice Ao53 x233000_2.length co53), (.slice Ao54 x233001_2.length co54), (by first | rfl | (simp; done) | (simp [*]; done)), H', ⟨by have := HJ3.out; have := HK2.out; omega⟩, ⟨by (with_reducible repeat (first | apply Kd.R_alloc | apply Kd.R_drewN | apply Kd.R_drew)); exact Kd.R_mono HO_7.out (fun _ hk => trivial)⟩, ⟨kr HO259⟩, ⟨by (with_reducible repeat (first | apply Kd.R_alloc | apply Kd.R_drewN | apply Kd.R_drew)); exact Kd.R_mono HO_233000.out (fun _ hk => trivial)⟩, ⟨by (with_reducible repeat (first | apply Kd.R_alloc | apply Kd.R_drewN | apply Kd.R_drew)); exact Kd.R_mono HO_233001.out (fun _ hk => trivial)⟩, ⟨kb BK229⟩, ⟨kb BK230⟩, ⟨kb BK232⟩, ⟨kB⟩⟩
        ·rw [if_neg c34] at H
         exact absurd H (by simp)
       ·rw [if_neg c32] at H
        exact absurd H (by simp)
      ·replace c31 := Bool.eq_false_iff.mpr c31
       subst c31
       have H1 : (if x8_2.length < 17592186044416 then (cutroomref36_Run.l0 k2 l1 x7_2 (x8_2 ++ [1]) false (wrap64 (x11_2 + 1)) x233000_2 x233001_2) else (none)) = some (r1, r2, r3, r4) := by rw [if_neg (show ¬ (false = true) by decide)] at H; exact H
       clear H
       have H := H1
       clear H1
       by_cases c64 : x8_2.length < 17592186044416
       ·rw [if_pos c64] at H
        have LMc64 := Aside0.mk c64
        clear c64
        obtain ⟨y263, hy263⟩ : ∃ y_ : List Int, y_ = (x8_2 ++ [1]) := ⟨_, rfl⟩
        replace H : (cutroomref36_Run.l0 k2 l1 x7_2 y263 false (wrap64 (x11_2 + 1)) x233000_2 x233001_2) = some (r1, r2, r3, r4) := by first | (rw [hy263]; with_reducible exact H) | (have H2_ := (Option.bind_some _ _).symm.trans H; rw [hy263]; with_reducible exact H2_) | (have H2_ := (Option.bind_some _ _).symm.trans H; with_reducible exact H2_) | with_reducible exact H | (rw [hy263]; exact H) | exact H
        have Ny263 := Aside0.mk hy263
        clear hy263
        have H' := Aside0.mk H
        clear H
        go_wp2_with (first | ((with_reducible refine gate_builtin (b := .append) (xs := #[.tmp 36, .tmp 37]) rfl ?_); at_builtin; refine Kd.R_append (Kd.int .i64) (w0 := w) w.heap.size rfl (.tmp 36) (.tmp 37) 54 49 (.int .i64 0) 8 rfl Try.underlying54 info49 rfl (by decide) (by omega) u8 x8_2 1 [.int .i64 1] (fun _ => True) (fun _ => False) rfl rfl ?aP (fun _ hk => hk.elim) ?aF ?aO ?aB ?aS ?aL ?_; (case aP => exact rfl); (case aB => exact (kB)); (case aF => exact (fun _ _ => trivial)); (case aO => exact (kr HO_8)); (case aS => exact (below_size (kB))); (case aL => have := LMc64.out; omega); intro v264 w65 ho hb hg hat; rw [← Ny263.out] at ho; have HO265 := Aside0.mk (ho); replace HO_7 := Aside0.mk (Kd.R_over' (kr HO_7) (Kd.R_typed (kr HO_8)) (by decide) hg); replace HO_233000 := Aside0.mk (Kd.R_over' (kr HO_233000) (Kd.R_typed (kr HO_8)) (by decide) hg); replace HO_233001 := Aside0.mk (Kd.R_over' (kr HO_233001) (Kd.R_typed (kr HO_8)) (by decide) hg); replace BK229 := Aside0.mk (blk_grown (kb BK229) hg (Kd.R_ne HO_8.out BK229.out (by decide))); replace BK230 := Aside0.mk (blk_grown (kb BK230) hg (Kd.R_ne HO_8.out BK230.out (by decide))); replace BK232 := Aside0.mk (blk_grown (kb BK232) hg (Kd.R_ne HO_8.out BK232.out (by decide))); replace HB := Aside0.mk (hb); clear HO_8; clear ho hb hg hat))
        go_roundg k2
        case measure => have := HJ3.out; have := HK2.out; omega
        case rel => exact ⟨(x7_2), (y263), (wrap64 (x11_2 + 1)), (x233000_2), (x233001_2), (u233000), (u233001), (by first | rfl | (simp; done) | (simp [*]; done)), H', ⟨by have := HJ3.out; have := HK2.out; omega⟩, ⟨kr HO_7⟩, ⟨kr HO265⟩, ⟨kr HO_233000⟩, ⟨kr HO_233001⟩, ⟨kb BK229⟩, ⟨kb BK230⟩, ⟨kb BK232⟩, ⟨kB⟩⟩
       ·rw [if_neg c64] at H
        exact absurd H (by simp)
     ·rw [if_neg c30] at H
      have c30b0 : decide (x11_2 < (l1.length : Int)) = false := decide_eq_false c30
      clear c30
      simp only [Option.some.injEq, Prod.mk.injEq] at H
      obtain ⟨rfl, rfl, rfl, rfl⟩ := H
      have hnb66 := NB232_229.out
      have hnc66 := NB229_232.out
      have hnb67 := NB232_230.out
      have hnc67 := NB230_232.out
      have hcz68_0 : wr.cell? ⟨gb232, 0, none⟩ = some (u233000) := (blk_cell BK232.out 0).trans rfl
      have hcz68_1 : wr.cell? ⟨gb232, 1, none⟩ = some (u233001) := (blk_cell BK232.out 1).trans rfl
      have hfz68_0 := blk_frozen BK232.out 0
      have hfz68_1 := blk_frozen BK232.out 1
      obtain ⟨Ao69, co69, eo69⟩ := Kd.R_slice HO_233000.out
      subst eo69
      have hnb70 := NB230_229.out
      have hnc70 := NB229_230.out
      have hcz71_0 : wr.cell? ⟨gb230, 0, none⟩ = some (.slice none 0 0) := (blk_cell BK230.out 0).trans rfl
      have hcz71_1 : wr.cell? ⟨gb230, 1, none⟩ = some (.slice none 0 0) := (blk_cell BK230.out 1).trans rfl
      have hfz71_0 := blk_frozen BK230.out 0
      have hfz71_1 := blk_frozen BK230.out 1
      obtain ⟨Ao72, co72, eo72⟩ := Kd.R_slice HO_233001.out
      subst eo72
      go_wp2
      refine bodyPost_ret (results_ctt rfl _ _ gb230 30 #[.slice Ao69 x233000_2.length co69, .slice Ao72 x233001_2.length co72] (0, 0) _ rfl (by (with_reducible repeat (first | refine blk_drewN ?_ _ | refine blk_drew ?_ | refine blk_alloc ?_ _)); refine blk_put (cs := #[.slice Ao69 x233000_2.length co69, .slice none 0 0]) ?_ 1 _ rfl; (with_reducible repeat (first | refine blk_drewN ?_ _ | refine blk_drew ?_ | refine blk_alloc ?_ _)); refine blk_put (cs := #[.slice none 0 0, .slice none 0 0]) ?_ 0 _ rfl; (with_reducible repeat (first | refine blk_drewN ?_ _ | refine blk_drew ?_ | refine blk_alloc ?_ _)); exact BK230.out) Try.underlying30 rfl (by kernel_rfl)) rfl ?_
      exact ⟨_, _, _, _, by first | rfl | (simp [errW_none, errW_some] <;> rfl) | (simp [*, errW_none, errW_some] <;> rfl), by (with_reducible repeat (first | apply Kd.R_alloc | apply Kd.R_drewN | apply Kd.R_drew)); exact Kd.R_mono (Kd.R_far (p := ⟨gb230, 1, none⟩) (Kd.R_far (p := ⟨gb230, 0, none⟩) (Kd.R_types HO_233000.out BK230.out (by decide)) (fun _ hk => hk.2) (.slice Ao69 x233000_2.length co69)) (fun _ hk => hk.2) (.slice Ao72 x233001_2.length co72)) (fun _ hk => trivial), by (with_reducible repeat (first | apply Kd.R_alloc | apply Kd.R_drewN | apply Kd.R_drew)); exact Kd.R_mono (Kd.R_far (p := ⟨gb230, 1, none⟩) (Kd.R_far (p := ⟨gb230, 0, none⟩) (Kd.R_types HO_233001.out BK230.out (by decide)) (fun _ hk => hk.2) (.slice Ao69 x233000_2.length co69)) (fun _ hk => hk.2) (.slice Ao72 x233001_2.length co72)) (fun _ hk => trivial), by (with_reducible repeat (first | apply Kd.R_alloc | apply Kd.R_drewN | apply Kd.R_drew)); exact Kd.R_mono (Kd.R_far (p := ⟨gb230, 1, none⟩) (Kd.R_far (p := ⟨gb230, 0, none⟩) (Kd.R_types HO_7.out BK230.out (by decide)) (fun _ hk => hk.2) (.slice Ao69 x233000_2.length co69)) (fun _ hk => hk.2) (.slice Ao72 x233001_2.length co72)) (fun _ hk => trivial), by (with_reducible repeat (first | apply Kd.R_alloc | apply Kd.R_drewN | apply Kd.R_drew)); exact Kd.R_mono (Kd.R_far (p := ⟨gb230, 1, none⟩) (Kd.R_far (p := ⟨gb230, 0, none⟩) (Kd.R_types HO_8.out BK230.out (by decide)) (fun _ hk => hk.2) (.slice Ao69 x233000_2.length co69)) (fun _ hk => hk.2) (.slice Ao72 x233001_2.length co72)) (fun _ hk => trivial), kB⟩
end Go.Proofs.Ytpnhkmicepmciaa.Y

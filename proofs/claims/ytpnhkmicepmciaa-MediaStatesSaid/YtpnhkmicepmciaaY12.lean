/- A part of this claim's walks: functions' contracts, or plain lemmas; conditions: each one's own. -/
import Derived.Test.YtpnhkmicepmciaaY0
import Derived.Test.YtpnhkmicepmciaaY10
import Derived.Test.YtpnhkmicepmciaaY11
import Derived.Test.YtpnhkmicepmciaaPar
namespace Go.Proofs.Ytpnhkmicepmciaa.Y
open Go.RowKit Go.Proofs.YtpnhkmicepmciaaW.PrintWords Go.Proofs.YtpnhkmicepmciaaW.PrintLast Go.Proofs.YtpnhkmicepmciaaW.PrintMore Go.Proofs.Ytpnhkmicepmciaa.Par
attribute [local go_sem] max2_int min2_int max_two min_two max_three min_three max_four min_four   -- for this text's walks alone
set_option linter.unusedVariables false
set_option linter.unusedSimpArgs false
mutual
def cutroomref36_Valid.l0 : Nat → Int → List (S37) → List (S39) → Option (Bool)
 | 0, _, _, _ => none
 | k + 1, x3, x212000, x212001 => if x3 < (x212000.length : Int) then (if 0 ≤ x3 then ((cutroomref23_ValidName.f k ((rd_T37 x212000 x3).f0)).bind fun t213 => (if t213 = true then ((cutroomref36_file.f k x212000 x212001 ((rd_T37 x212000 x3).f0)).bind fun t215 => (if t215 = x3 then (cutroomref36_Valid.l0 k (wrap64 (x3 + 1)) x212000 x212001) else (some false))) else (some false))) else (none)) else (cutroomref36_Valid.l1 k 0 x212000 x212001)
def cutroomref36_Valid.l1 : Nat → Int → List (S37) → List (S39) → Option (Bool)
 | 0, _, _, _ => none
 | k + 1, x4, x212000, x212001 => if x4 < (x212001.length : Int) then (if 0 ≤ x4 then ((cutroomref23_ValidName.f k ((rd_T39 x212001 x4).f0)).bind fun t218 => (if t218 = true then ((cutroomref23_ValidName.f k ((rd_T39 x212001 x4).f1)).bind fun t219 => (if t219 = true then ((cutroomref36_link.f k x212000 x212001 ((rd_T39 x212001 x4).f0)).bind fun t220 => (if t220 = x4 then (if ((rd_T39 x212001 x4).f3).toList = ([] : List UInt8) then (cutroomref36_Valid.l1 k (wrap64 (x4 + 1)) x212000 x212001) else ((cutroomref23_ValidName.f k ((rd_T39 x212001 x4).f3)).bind fun t221 => (if t221 = true then (if ((rd_T39 x212001 x4).f3).toList = ((rd_T39 x212001 x4).f0).toList then (some false) else (cutroomref36_Valid.l1 k (wrap64 (x4 + 1)) x212000 x212001)) else (some false)))) else (some false))) else (some false))) else (some false))) else (none)) else (if (x212000.length : Int) ≤ 32 then (some (decide ((x212001.length : Int) ≤ 16))) else (some false))
end
def cutroomref36_Valid.f (k : Nat) (l0_0 : List (S37)) (l0_1 : List (S39)) : Option (Bool) := cutroomref36_Valid.l0 k 0 l0_0 l0_1
theorem cutroomref36_Valid.mono_l : ∀ k, (∀ y0 y1 y2, LeO (cutroomref36_Valid.l0 k y0 y1 y2) (cutroomref36_Valid.l0 (k + 1) y0 y1 y2)) ∧ (∀ y0 y1 y2, LeO (cutroomref36_Valid.l1 k y0 y1 y2) (cutroomref36_Valid.l1 (k + 1) y0 y1 y2))
 | 0 => ⟨fun _ _ _ r h => by simp [cutroomref36_Valid.l0] at h, fun _ _ _ r h => by simp [cutroomref36_Valid.l1] at h⟩
 | k + 1 => by
  obtain ⟨ih0, ih1⟩ := cutroomref36_Valid.mono_l k
  refine ⟨?_, ?_⟩
  ·intro y0 y1 y2
   unfold cutroomref36_Valid.l0
   repeat' first
   | (with_reducible exact ih0 _ _ _)
   | (with_reducible exact ih1 _ _ _)
   | (with_reducible exact cutroomref23_ValidName.mono _ _)
   | (with_reducible exact cutroomref36_file.mono _ _ _ _)
   | (with_reducible exact cutroomref36_link.mono _ _ _ _)
   | (with_reducible exact LeO.refl _)
   | (with_reducible exact LeO.none _)
   | (with_reducible refine LeO.ite ?_ ?_)
   | (with_reducible refine LeO.bind ?_ (fun _ => ?_))
   | exact ih0 _ _ _
   | exact ih1 _ _ _
   | exact cutroomref23_ValidName.mono _ _
   | exact cutroomref36_file.mono _ _ _ _
   | exact cutroomref36_link.mono _ _ _ _
   | exact LeO.none _
   | refine LeO.ite ?_ ?_
   | refine LeO.bind ?_ (fun _ => ?_)
  ·intro y0 y1 y2
   unfold cutroomref36_Valid.l1
   repeat' first
   | (with_reducible exact ih0 _ _ _)
   | (with_reducible exact ih1 _ _ _)
   | (with_reducible exact cutroomref23_ValidName.mono _ _)
   | (with_reducible exact cutroomref36_file.mono _ _ _ _)
   | (with_reducible exact cutroomref36_link.mono _ _ _ _)
   | (with_reducible exact LeO.refl _)
   | (with_reducible exact LeO.none _)
   | (with_reducible refine LeO.ite ?_ ?_)
   | (with_reducible refine LeO.bind ?_ (fun _ => ?_))
   | exact ih0 _ _ _
   | exact ih1 _ _ _
   | exact cutroomref23_ValidName.mono _ _
   | exact cutroomref36_file.mono _ _ _ _
   | exact cutroomref36_link.mono _ _ _ _
   | exact LeO.none _
   | refine LeO.ite ?_ ?_
   | refine LeO.bind ?_ (fun _ => ?_)
theorem cutroomref36_Valid.mono : ∀ a0 a1 k, LeO (cutroomref36_Valid.f k a0 a1) (cutroomref36_Valid.f (k + 1) a0 a1) := by
 intro a0 a1 k
 obtain ⟨ih0, ih1⟩ := cutroomref36_Valid.mono_l k
 unfold cutroomref36_Valid.f
 repeat' first
   | (with_reducible exact ih0 _ _ _)
   | (with_reducible exact ih1 _ _ _)
   | (with_reducible exact cutroomref23_ValidName.mono _ _)
   | (with_reducible exact cutroomref36_file.mono _ _ _ _)
   | (with_reducible exact cutroomref36_link.mono _ _ _ _)
   | (with_reducible exact LeO.refl _)
   | (with_reducible exact LeO.none _)
   | (with_reducible refine LeO.ite ?_ ?_)
   | (with_reducible refine LeO.bind ?_ (fun _ => ?_))
   | exact ih0 _ _ _
   | exact ih1 _ _ _
   | exact cutroomref23_ValidName.mono _ _
   | exact cutroomref36_file.mono _ _ _ _
   | exact cutroomref36_link.mono _ _ _ _
   | exact LeO.none _
   | refine LeO.ite ?_ ?_
   | refine LeO.bind ?_ (fun _ => ?_)
def cutroomref36_Valid.T4 : Bool × List (List Nat × List Nat) := (true, [([], []), ([0], [0]), ([], []), ([1, 2], [1, 2]), ([3], [3]), ([4], [4]), ([5], [5]), ([6], [6]), ([7, 6], [7]), ([8], [8]), ([8], [8]), ([10, 8], [8, 10]), ([8], [8]), ([11, 12, 8], [8, 11, 12]), ([13, 8], [8, 13]), ([14, 8], [8, 14]), ([9, 15, 8, 8], [8, 9, 15]), ([8], [8]), ([16, 17, 8], [8, 16, 17]), ([8, 18], [8, 18])])
def cutroomref36_Valid.B4 : List Nat := [0, 1, 0, 7, 15, 31, 63, 127, 255, 511, 511, 1535, 511, 7679, 15871, 32255, 65535, 511, 262143, 524287]
theorem cutroomref36_Valid.tab4 : rtab .any (opsOf Try.f14 4) = cutroomref36_Valid.T4 := by kernel_rfl
theorem cutroomref36_Valid.bits4 : waitsOk cutroomref36_Valid.T4.2 cutroomref36_Valid.B4 = true := by kernel_rfl
set_option maxHeartbeats 8000000 in
set_option maxRecDepth 100000 in
theorem cutroomref36_Valid.calls (k : Nat) (A0_0 : Option Addr) (c0_0 : Nat) (l0_0 : List (S37)) (A0_1 : Option Addr) (c0_1 : Nat) (l0_1 : List (S39)) (r : Bool) (w : World) (hr0_0 : Kd.C k37 w A0_0 l0_0.length l0_0) (hc0_0 : l0_0.length ≤ c0_0) (hr0_1 : Kd.C k39 w A0_1 l0_1.length l0_1) (hc0_1 : l0_1.length ≤ c0_1) (h : cutroomref36_Valid.f k l0_0 l0_1 = some r) :
  Calls Try.prog 14 #[.agg #[.slice A0_0 l0_0.length c0_0, .slice A0_1 l0_1.length c0_1]] w fun e w' => e = .returned (.bool r) ∧ Below w.heap.size w w' := by
 have hu30 := Try.underlying30
 have hu39 := Try.underlying39
 have HR0_0 := Aside0.mk hr0_0
 have HC0_0 := Aside0.mk hc0_0
 clear hr0_0 hc0_0
 have HR0_1 := Aside0.mk hr0_1
 have HC0_1 := Aside0.mk hc0_1
 clear hr0_1 hc0_1
 have HB := Aside0.mk (Below.refl w.heap.size w)
 have H : (cutroomref36_Valid.l0 k 0 l0_0 l0_1) = some r := h
 clear h
 have H' := Aside0.mk H
 clear H
 go_enter Try.func14, Try.ntmps14
 go_wp2_with (first | ((with_reducible refine gate_dst (N := 1) rfl ?_); (try (refine gate_guard (by rfl) ?_; dsimp only)); refine box_event ?hg (N := 1) ?hd (cs := #[.slice A0_0 l0_0.length c0_0, .slice A0_1 l0_1.length c0_1]) (t := 30) ?hr ?_; (case hd => rfl); (case hg => rfl); (case hr => first | (go_simp; done) | (go_simp; rfl)); intro gb211 hg w2 hbox hb; have BK211 := Aside0.mk (hbox); have GW211 := gw_ hg kB; have GE211 := gw_ hg kB; replace HB := cB hb kB; clear hb hbox hg))
 go_loopg [3] k (fun kq v3 w' => ∃ (x3_1 : Int), v3 = .int .i64 x3_1 ∧ Aside0 (cutroomref36_Valid.l0 kq x3_1 l0_0 l0_1 = some r) ∧ Aside0 (kq ≤ k) ∧ Aside0 (w'.heap[gb211]? = some (.cells #[(.slice A0_0 l0_0.length c0_0), (.slice A0_1 l0_1.length c0_1)] 30 (0, 0))) ∧ Aside0 (Below w.heap.size w w'))
 case atStart => exact ⟨(0), (by first | rfl | (simp; done) | (simp [*]; done)), H', ⟨Nat.le_refl _⟩, ⟨kb BK211⟩, ⟨kB⟩⟩
 case round =>
  clear H'
  try clear c1
  try clear p2
  obtain ⟨x3_1, rfl, HA, HK1, BK211, HB⟩ := hrel
  cases gk with
  | zero => exact absurd HA.out (by simp [cutroomref36_Valid.l0])
  | succ k1 =>
   have H := HA.out
   clear HA
   simp only [cutroomref36_Valid.l0] at H
   by_cases c3 : x3_1 < (l0_0.length : Int)
   ·rw [if_pos c3] at H
    have c3b0 : decide (x3_1 < (l0_0.length : Int)) = true := decide_eq_true c3
    clear c3
    by_cases c4 : 0 ≤ x3_1
    ·rw [if_pos c4] at H
     have c4b0 : decide (0 ≤ x3_1) = true := decide_eq_true c4
     clear c4
     replace H := Option.bind_eq_some_iff.mp H
     obtain ⟨t213, A50, H⟩ := H
     replace H : (if t213 = true then ((cutroomref36_file.f k1 l0_0 l0_1 ((rd_T37 l0_0 x3_1).f0)).bind fun t215 => (if t215 = x3_1 then (cutroomref36_Valid.l0 k1 (wrap64 (x3_1 + 1)) l0_0 l0_1) else (some false))) else (some false)) = some r := H
     have A5 := Aside0.mk A50
     clear A50
     by_cases c6 : t213 = true
     ·subst c6
      have H1 : ((cutroomref36_file.f k1 l0_0 l0_1 ((rd_T37 l0_0 x3_1).f0)).bind fun t215 => (if t215 = x3_1 then (cutroomref36_Valid.l0 k1 (wrap64 (x3_1 + 1)) l0_0 l0_1) else (some false))) = some r := by rw [if_pos rfl] at H; exact H
      clear H
      have H := H1
      clear H1
      replace H := Option.bind_eq_some_iff.mp H
      obtain ⟨t215, A70, H⟩ := H
      replace H : (if t215 = x3_1 then (cutroomref36_Valid.l0 k1 (wrap64 (x3_1 + 1)) l0_0 l0_1) else (some false)) = some r := H
      have A7 := Aside0.mk A70
      clear A70
      by_cases c8 : t215 = x3_1
      ·rw [if_pos c8] at H
       have c8b0 : (t215 == x3_1) = true := beq_iff_eq.mpr c8
       have c8b1 : (t215 != x3_1) = false := bne_eq_false_iff_eq.mpr c8
       clear c8
       have H' := Aside0.mk H
       clear H
       have hcz9_0 : wr.cell? ⟨gb211, 0, none⟩ = some (.slice A0_0 l0_0.length c0_0) := (blk_cell BK211.out 0).trans rfl
       have hcz9_1 : wr.cell? ⟨gb211, 1, none⟩ = some (.slice A0_1 l0_1.length c0_1) := (blk_cell BK211.out 1).trans rfl
       have hfz9_0 := blk_frozen BK211.out 0
       have hfz9_1 := blk_frozen BK211.out 1
       try go_wp2
       replace BK211 := Aside0.mk (blk_drew BK211.out)
       replace HB := Aside0.mk (below_drew1 HB.out)
       have p212 : 0 ≤ (x3_1 : Int) := of_decide_eq_true (by first | (with_reducible assumption) | assumption)
       have q212 : x3_1 < (l0_0.length : Int) := of_decide_eq_true (by first | (with_reducible assumption) | assumption)
       obtain ⟨ad212, e212, hx212_0, hx212_1, hx212_2⟩ := at_T37 HR0_0.out x3_1 p212 q212
       have hw212_2 := hx212_2
       have hw212_1 := hx212_1
       have hw212_0 := hx212_0
       cases e212
       replace hx212_0 := (HB.out.cell (World.block_lt_of_cell? w _ hx212_0)).trans hx212_0
       replace hx212_1 := (HB.out.cell (World.block_lt_of_cell? w _ hx212_1)).trans hx212_1
       replace hx212_2 := (HB.out.cell (World.block_lt_of_cell? w _ hx212_2)).trans hx212_2
       replace p212 := eq_true p212
       replace q212 := eq_true q212
       have p214 : 0 ≤ (x3_1 : Int) := of_decide_eq_true (by first | (with_reducible assumption) | assumption)
       have q214 : x3_1 < (l0_0.length : Int) := of_decide_eq_true (by first | (with_reducible assumption) | assumption)
       obtain ⟨ad214, e214, hx214_0, hx214_1, hx214_2⟩ := at_T37 HR0_0.out x3_1 p214 q214
       have hw214_2 := hx214_2
       have hw214_1 := hx214_1
       have hw214_0 := hx214_0
       obtain rfl : ad212 = ad214 := (by injection e214)
       replace hx214_0 := (HB.out.cell (World.block_lt_of_cell? w _ hx214_0)).trans hx214_0
       replace hx214_1 := (HB.out.cell (World.block_lt_of_cell? w _ hx214_1)).trans hx214_1
       replace hx214_2 := (HB.out.cell (World.block_lt_of_cell? w _ hx214_2)).trans hx214_2
       replace p214 := eq_true p214
       replace q214 := eq_true q214
       refine start_ (n := 20) (S := fun w' => w'.cell? ⟨gb211, 0, none⟩ = some (.slice (some ad212) l0_0.length c0_0) ∧ w'.cell? ⟨gb211, 1, none⟩ = some (.slice A0_1 l0_1.length c0_1) ∧ w'.cell? (ad212.add ((x3_1).toNat * 3)) = some (.string ((rd_T37 l0_0 x3_1).f0)) ∧ w'.cell? ⟨(ad212.add ((x3_1).toNat * 3)).block, (ad212.add ((x3_1).toNat * 3)).off + 1, none⟩ = some (.int .u64 ((rd_T37 l0_0 x3_1).f1)) ∧ w'.cell? ⟨(ad212.add ((x3_1).toNat * 3)).block, (ad212.add ((x3_1).toNat * 3)).off + 2, none⟩ = some (.bool ((rd_T37 l0_0 x3_1).f2)) ∧ w'.cell? (ad212.add ((x3_1).toNat * 3)) = some (.string ((rd_T37 l0_0 x3_1).f0)) ∧ w'.cell? ⟨(ad212.add ((x3_1).toNat * 3)).block, (ad212.add ((x3_1).toNat * 3)).off + 1, none⟩ = some (.int .u64 ((rd_T37 l0_0 x3_1).f1)) ∧ w'.cell? ⟨(ad212.add ((x3_1).toNat * 3)).block, (ad212.add ((x3_1).toNat * 3)).off + 2, none⟩ = some (.bool ((rd_T37 l0_0 x3_1).f2))) (ds := []) #[false, false, false, false, false, false, false, false, false, false, false, false, false, false, false, false, false, false, false, false] (by kernel_rfl) rfl rfl ⟨(blk_cell BK211.out 0).trans rfl, (blk_cell BK211.out 1).trans rfl, ((HB.out.cell (World.block_lt_of_cell? w _ hw212_0)).trans hw212_0), ((HB.out.cell (World.block_lt_of_cell? w _ hw212_1)).trans hw212_1), ((HB.out.cell (World.block_lt_of_cell? w _ hw212_2)).trans hw212_2), ((HB.out.cell (World.block_lt_of_cell? w _ hw214_0)).trans hw214_0), ((HB.out.cell (World.block_lt_of_cell? w _ hw214_1)).trans hw214_1), ((HB.out.cell (World.block_lt_of_cell? w _ hw214_2)).trans hw214_2)⟩ (fun hHeld => ?_); refine with_tabW cutroomref36_Valid.tab4 cutroomref36_Valid.bits4 (fun HT_ HW_ => ?_)
       generalize wr.drew = w10 at BK211 HB hx212_0 hx212_1 hx212_2 hx214_0 hx214_1 hx214_2 hHeld ⊢
       refine plan_ [(0, 13, false), (2, 15, false), (1, 14, true), (3, 16, false), (4, 17, false), (5, 18, true)] ?_
       repeat (first
        | (
         refine plan_pure (v := ?_) (a' := ?_) rfl rfl (any_of HT_.out (by kernel_rfl)) (Or.inl ⟨by rfl, ?_⟩) ?_ ?_ (fun _ _ _ h => h)
         rotate_left
         ·intro w'
          go_simp
          with_reducible rfl
         rotate_left
         ·simp only [Act.put, List.setIfInBounds_toArray, List.set_cons_zero, List.set_cons_succ, i64_w, i32_w]
          rfl)
        | (
         refine plan_take (v := ?_) (a' := ?_) rfl rfl (take_ofW HT_.out HW_.out (by kernel_rfl)) (Or.inl ⟨by rfl, ?_⟩) hHeld ?_ ?_ (fun _ _ _ h => h)
         rotate_left
         ·rintro w' ⟨s0, s1, s2, s3, s4, s5, s6, s7⟩
          go_simp
          with_reducible rfl
         rotate_left
         ·simp only [Act.put, List.setIfInBounds_toArray, List.set_cons_zero, List.set_cons_succ, i64_w, i32_w]
          rfl))
       refine plan_end ?_
       refine one_ (i := 6) (N := some 19) #[true, true, true, true, true, true, true, false, false, false, false, false, false, false, false, false, false, false, false, false] rfl rfl (one_of HT_.out (by kernel_rfl)) (by decide) (fun K hK => ?_)
       refine goes_ Try.func26 (by kernel_rfl) rfl #[.string ((rd_T37 l0_0 x3_1).f0)] (by rfl) rfl rfl (by (try simp only [List.map_toArray, List.map_cons, List.map_nil]); first | done | rfl | (simp only [List.length_drop, List.length_take]; rfl)) ?_
       with_reducible refine (cutroomref23_ValidName.calls k1 ((rd_T37 l0_0 x3_1).f0) true _ A5.out).mono ?_
       rintro e w' ⟨rfl, ⟨nd, rfl⟩⟩
       refine ⟨_, rfl, ?_⟩
       refine hK.out _ _ ⟨(blk_cell BK211.out 0).trans rfl, (blk_cell BK211.out 1).trans rfl, ((HB.out.cell (World.block_lt_of_cell? w _ hw212_0)).trans hw212_0), ((HB.out.cell (World.block_lt_of_cell? w _ hw212_1)).trans hw212_1), ((HB.out.cell (World.block_lt_of_cell? w _ hw212_2)).trans hw212_2), ((HB.out.cell (World.block_lt_of_cell? w _ hw214_0)).trans hw214_0), ((HB.out.cell (World.block_lt_of_cell? w _ hw214_1)).trans hw214_1), ((HB.out.cell (World.block_lt_of_cell? w _ hw214_2)).trans hw214_2)⟩ (fun hHeld => ?_)
       clear hK K
       refine norm_ (a' := ?_) ?_ ?_
       rotate_left
       ·show Act.put _ (some 19) _ = _
        simp only [Act.put, List.setIfInBounds_toArray, List.set_cons_zero, List.set_cons_succ, i64_w, i32_w]
        rfl
       refine plan_ [(7, 20, false), (8, 21, false), (10, 23, false), (12, 25, false), (17, 30, false), (9, 22, true), (11, 24, true), (13, 26, false), (14, 27, false), (15, 28, true)] ?_
       repeat (first
        | (
         refine plan_pure (v := ?_) (a' := ?_) rfl rfl (any_of HT_.out (by kernel_rfl)) (Or.inl ⟨by rfl, ?_⟩) ?_ ?_ (fun _ _ _ h => h)
         rotate_left
         ·intro w'
          go_simp
          with_reducible rfl
         rotate_left
         ·simp only [Act.put, List.setIfInBounds_toArray, List.set_cons_zero, List.set_cons_succ, i64_w, i32_w]
          rfl)
        | (
         refine plan_take (v := ?_) (a' := ?_) rfl rfl (take_ofW HT_.out HW_.out (by kernel_rfl)) (Or.inl ⟨by rfl, ?_⟩) hHeld ?_ ?_ (fun _ _ _ h => h)
         rotate_left
         ·rintro w' ⟨s0, s1, s2, s3, s4, s5, s6, s7⟩
          go_simp
          with_reducible rfl
         rotate_left
         ·simp only [Act.put, List.setIfInBounds_toArray, List.set_cons_zero, List.set_cons_succ, i64_w, i32_w]
          rfl))
       refine plan_end ?_
       refine one_ (i := 16) (N := some 29) #[true, true, true, true, true, true, true, true, true, true, true, true, true, true, true, true, true, true, false, false] rfl rfl (one_of HT_.out (by kernel_rfl)) (by decide) (fun K hK => ?_)
       refine goes_ Try.func27 (by kernel_rfl) rfl #[.agg #[.slice (some ad212) l0_0.length c0_0, .slice A0_1 l0_1.length c0_1], .string ((rd_T37 l0_0 x3_1).f0)] (by rfl) rfl rfl (by (try simp only [List.map_toArray, List.map_cons, List.map_nil]); first | done | rfl | (simp only [List.length_drop, List.length_take]; rfl)) ?_
       with_reducible refine (cutroomref36_file.calls k1 _ _ l0_0 _ _ l0_1 ((rd_T37 l0_0 x3_1).f0) t215 _ ?side1 ?side2 ?side3 ?side4 A7.out).mono ?_
       (case side1 => repeat (first | exact (Kd.C_below HR0_0.out (kB)) | (with_reducible refine Kd.C_alloc ?_ _) | (with_reducible refine Kd.C_drewN ?_ _) | (with_reducible refine Kd.C_drew ?_)))
       (case side2 => exact HC0_0.out)
       (case side3 => repeat (first | exact (Kd.C_below HR0_1.out (kB)) | (with_reducible refine Kd.C_alloc ?_ _) | (with_reducible refine Kd.C_drewN ?_ _) | (with_reducible refine Kd.C_drew ?_)))
       (case side4 => exact HC0_1.out)
       rintro e w11 ⟨rfl, hb⟩
       refine ⟨_, rfl, ?_⟩
       replace BK211 := cb BK211 hb
       replace HB := cB hb kB
       (try clear hb)
       (try clear hb2)
       (try clear hk)
       (try clear hi)
       refine hK.out _ _ ⟨(blk_cell BK211.out 0).trans rfl, (blk_cell BK211.out 1).trans rfl, ((HB.out.cell (World.block_lt_of_cell? w _ hw212_0)).trans hw212_0), ((HB.out.cell (World.block_lt_of_cell? w _ hw212_1)).trans hw212_1), ((HB.out.cell (World.block_lt_of_cell? w _ hw212_2)).trans hw212_2), ((HB.out.cell (World.block_lt_of_cell? w _ hw214_0)).trans hw214_0), ((HB.out.cell (World.block_lt_of_cell? w _ hw214_1)).trans hw214_1), ((HB.out.cell (World.block_lt_of_cell? w _ hw214_2)).trans hw214_2)⟩ (fun hHeld => ?_)
       clear hK K
       refine norm_ (a' := ?_) ?_ ?_
       rotate_left
       ·show Act.put _ (some 29) _ = _
        simp only [Act.put, List.setIfInBounds_toArray, List.set_cons_zero, List.set_cons_succ, i64_w, i32_w]
        rfl
       refine plan_ [(18, 31, false), (19, 32, false)] ?_
       repeat (
        refine plan_pure (v := ?_) (a' := ?_) rfl rfl (any_of HT_.out (by kernel_rfl)) (Or.inl ⟨by rfl, ?_⟩) ?_ ?_ (fun _ _ _ h => h)
        rotate_left
        ·intro w'
         go_simp
         with_reducible rfl
        rotate_left
        ·simp only [Act.put, List.setIfInBounds_toArray, List.set_cons_zero, List.set_cons_succ, i64_w, i32_w]
         rfl)
       refine plan_end ?_
       refine done_ (done_of HT_.out (by kernel_rfl)) ?_
       try go_wp2
       go_roundg k1
       case measure => have := HK1.out; omega
       case rel => exact ⟨(wrap64 (x3_1 + 1)), (by first | rfl | (simp; done) | (simp [*]; done)), H', ⟨by have := HK1.out; omega⟩, ⟨kb BK211⟩, ⟨kB⟩⟩
      ·rw [if_neg c8] at H
       have c8b0 : (t215 == x3_1) = false := beq_eq_false_iff_ne.mpr c8
       have c8b1 : (t215 != x3_1) = true := bne_iff_ne.mpr c8
       obtain rfl := Option.some.inj H
       have hcz12_0 : wr.cell? ⟨gb211, 0, none⟩ = some (.slice A0_0 l0_0.length c0_0) := (blk_cell BK211.out 0).trans rfl
       have hcz12_1 : wr.cell? ⟨gb211, 1, none⟩ = some (.slice A0_1 l0_1.length c0_1) := (blk_cell BK211.out 1).trans rfl
       have hfz12_0 := blk_frozen BK211.out 0
       have hfz12_1 := blk_frozen BK211.out 1
       try go_wp2
       replace BK211 := Aside0.mk (blk_drew BK211.out)
       replace HB := Aside0.mk (below_drew1 HB.out)
       have p212 : 0 ≤ (x3_1 : Int) := of_decide_eq_true (by first | (with_reducible assumption) | assumption)
       have q212 : x3_1 < (l0_0.length : Int) := of_decide_eq_true (by first | (with_reducible assumption) | assumption)
       obtain ⟨ad212, e212, hx212_0, hx212_1, hx212_2⟩ := at_T37 HR0_0.out x3_1 p212 q212
       have hw212_2 := hx212_2
       have hw212_1 := hx212_1
       have hw212_0 := hx212_0
       cases e212
       replace hx212_0 := (HB.out.cell (World.block_lt_of_cell? w _ hx212_0)).trans hx212_0
       replace hx212_1 := (HB.out.cell (World.block_lt_of_cell? w _ hx212_1)).trans hx212_1
       replace hx212_2 := (HB.out.cell (World.block_lt_of_cell? w _ hx212_2)).trans hx212_2
       replace p212 := eq_true p212
       replace q212 := eq_true q212
       have p214 : 0 ≤ (x3_1 : Int) := of_decide_eq_true (by first | (with_reducible assumption) | assumption)
       have q214 : x3_1 < (l0_0.length : Int) := of_decide_eq_true (by first | (with_reducible assumption) | assumption)
       obtain ⟨ad214, e214, hx214_0, hx214_1, hx214_2⟩ := at_T37 HR0_0.out x3_1 p214 q214
       have hw214_2 := hx214_2
       have hw214_1 := hx214_1
       have hw214_0 := hx214_0
       obtain rfl : ad212 = ad214 := (by injection e214)
       replace hx214_0 := (HB.out.cell (World.block_lt_of_cell? w _ hx214_0)).trans hx214_0
       replace hx214_1 := (HB.out.cell (World.block_lt_of_cell? w _ hx214_1)).trans hx214_1
       replace hx214_2 := (HB.out.cell (World.block_lt_of_cell? w _ hx214_2)).trans hx214_2
       replace p214 := eq_true p214
       replace q214 := eq_true q214
       refine start_ (n := 20) (S := fun w' => w'.cell? ⟨gb211, 0, none⟩ = some (.slice (some ad212) l0_0.length c0_0) ∧ w'.cell? ⟨gb211, 1, none⟩ = some (.slice A0_1 l0_1.length c0_1) ∧ w'.cell? (ad212.add ((x3_1).toNat * 3)) = some (.string ((rd_T37 l0_0 x3_1).f0)) ∧ w'.cell? ⟨(ad212.add ((x3_1).toNat * 3)).block, (ad212.add ((x3_1).toNat * 3)).off + 1, none⟩ = some (.int .u64 ((rd_T37 l0_0 x3_1).f1)) ∧ w'.cell? ⟨(ad212.add ((x3_1).toNat * 3)).block, (ad212.add ((x3_1).toNat * 3)).off + 2, none⟩ = some (.bool ((rd_T37 l0_0 x3_1).f2)) ∧ w'.cell? (ad212.add ((x3_1).toNat * 3)) = some (.string ((rd_T37 l0_0 x3_1).f0)) ∧ w'.cell? ⟨(ad212.add ((x3_1).toNat * 3)).block, (ad212.add ((x3_1).toNat * 3)).off + 1, none⟩ = some (.int .u64 ((rd_T37 l0_0 x3_1).f1)) ∧ w'.cell? ⟨(ad212.add ((x3_1).toNat * 3)).block, (ad212.add ((x3_1).toNat * 3)).off + 2, none⟩ = some (.bool ((rd_T37 l0_0 x3_1).f2))) (ds := []) #[false, false, false, false, false, false, false, false, false, false, false, false, false, false, false, false, false, false, false, false] (by kernel_rfl) rfl rfl ⟨(blk_cell BK211.out 0).trans rfl, (blk_cell BK211.out 1).trans rfl, ((HB.out.cell (World.block_lt_of_cell? w _ hw212_0)).trans hw212_0), ((HB.out.cell (World.block_lt_of_cell? w _ hw212_1)).trans hw212_1), ((HB.out.cell (World.block_lt_of_cell? w _ hw212_2)).trans hw212_2), ((HB.out.cell (World.block_lt_of_cell? w _ hw214_0)).trans hw214_0), ((HB.out.cell (World.block_lt_of_cell? w _ hw214_1)).trans hw214_1), ((HB.out.cell (World.block_lt_of_cell? w _ hw214_2)).trans hw214_2)⟩ (fun hHeld => ?_); refine with_tabW cutroomref36_Valid.tab4 cutroomref36_Valid.bits4 (fun HT_ HW_ => ?_)
       generalize wr.drew = w13 at BK211 HB hx212_0 hx212_1 hx212_2 hx214_0 hx214_1 hx214_2 hHeld ⊢
       refine plan_ [(0, 13, false), (2, 15, false), (1, 14, true), (3, 16, false), (4, 17, false), (5, 18, true)] ?_
       repeat (first
        | (
         refine plan_pure (v := ?_) (a' := ?_) rfl rfl (any_of HT_.out (by kernel_rfl)) (Or.inl ⟨by rfl, ?_⟩) ?_ ?_ (fun _ _ _ h => h)
         rotate_left
         ·intro w'
          go_simp
          with_reducible rfl
         rotate_left
         ·simp only [Act.put, List.setIfInBounds_toArray, List.set_cons_zero, List.set_cons_succ, i64_w, i32_w]
          rfl)
        | (
         refine plan_take (v := ?_) (a' := ?_) rfl rfl (take_ofW HT_.out HW_.out (by kernel_rfl)) (Or.inl ⟨by rfl, ?_⟩) hHeld ?_ ?_ (fun _ _ _ h => h)
         rotate_left
         ·rintro w' ⟨s0, s1, s2, s3, s4, s5, s6, s7⟩
          go_simp
          with_reducible rfl
         rotate_left
         ·simp only [Act.put, List.setIfInBounds_toArray, List.set_cons_zero, List.set_cons_succ, i64_w, i32_w]
          rfl))
       refine plan_end ?_
       refine one_ (i := 6) (N := some 19) #[true, true, true, true, true, true, true, false, false, false, false, false, false, false, false, false, false, false, false, false] rfl rfl (one_of HT_.out (by kernel_rfl)) (by decide) (fun K hK => ?_)
       refine goes_ Try.func26 (by kernel_rfl) rfl #[.string ((rd_T37 l0_0 x3_1).f0)] (by rfl) rfl rfl (by (try simp only [List.map_toArray, List.map_cons, List.map_nil]); first | done | rfl | (simp only [List.length_drop, List.length_take]; rfl)) ?_
       with_reducible refine (cutroomref23_ValidName.calls k1 ((rd_T37 l0_0 x3_1).f0) true _ A5.out).mono ?_
       rintro e w' ⟨rfl, ⟨nd, rfl⟩⟩
       refine ⟨_, rfl, ?_⟩
       refine hK.out _ _ ⟨(blk_cell BK211.out 0).trans rfl, (blk_cell BK211.out 1).trans rfl, ((HB.out.cell (World.block_lt_of_cell? w _ hw212_0)).trans hw212_0), ((HB.out.cell (World.block_lt_of_cell? w _ hw212_1)).trans hw212_1), ((HB.out.cell (World.block_lt_of_cell? w _ hw212_2)).trans hw212_2), ((HB.out.cell (World.block_lt_of_cell? w _ hw214_0)).trans hw214_0), ((HB.out.cell (World.block_lt_of_cell? w _ hw214_1)).trans hw214_1), ((HB.out.cell (World.block_lt_of_cell? w _ hw214_2)).trans hw214_2)⟩ (fun hHeld => ?_)
       clear hK K
       refine norm_ (a' := ?_) ?_ ?_
       rotate_left
       ·show Act.put _ (some 19) _ = _
        simp only [Act.put, List.setIfInBounds_toArray, List.set_cons_zero, List.set_cons_succ, i64_w, i32_w]
        rfl
       refine plan_ [(7, 20, false), (8, 21, false), (10, 23, false), (12, 25, false), (17, 30, false), (9, 22, true), (11, 24, true), (13, 26, false), (14, 27, false), (15, 28, true)] ?_
       repeat (first
        | (
         refine plan_pure (v := ?_) (a' := ?_) rfl rfl (any_of HT_.out (by kernel_rfl)) (Or.inl ⟨by rfl, ?_⟩) ?_ ?_ (fun _ _ _ h => h)
         rotate_left
         ·intro w'
          go_simp
          with_reducible rfl
         rotate_left
         ·simp only [Act.put, List.setIfInBounds_toArray, List.set_cons_zero, List.set_cons_succ, i64_w, i32_w]
          rfl)
        | (
         refine plan_take (v := ?_) (a' := ?_) rfl rfl (take_ofW HT_.out HW_.out (by kernel_rfl)) (Or.inl ⟨by rfl, ?_⟩) hHeld ?_ ?_ (fun _ _ _ h => h)
         rotate_left
         ·rintro w' ⟨s0, s1, s2, s3, s4, s5, s6, s7⟩
          go_simp
          with_reducible rfl
         rotate_left
         ·simp only [Act.put, List.setIfInBounds_toArray, List.set_cons_zero, List.set_cons_succ, i64_w, i32_w]
          rfl))
       refine plan_end ?_
       refine one_ (i := 16) (N := some 29) #[true, true, true, true, true, true, true, true, true, true, true, true, true, true, true, true, true, true, false, false] rfl rfl (one_of HT_.out (by kernel_rfl)) (by decide) (fun K hK => ?_)
       refine goes_ Try.func27 (by kernel_rfl) rfl #[.agg #[.slice (some ad212) l0_0.length c0_0, .slice A0_1 l0_1.length c0_1], .string ((rd_T37 l0_0 x3_1).f0)] (by rfl) rfl rfl (by (try simp only [List.map_toArray, List.map_cons, List.map_nil]); first | done | rfl | (simp only [List.length_drop, List.length_take]; rfl)) ?_
       with_reducible refine (cutroomref36_file.calls k1 _ _ l0_0 _ _ l0_1 ((rd_T37 l0_0 x3_1).f0) t215 _ ?side1 ?side2 ?side3 ?side4 A7.out).mono ?_
       (case side1 => repeat (first | exact (Kd.C_below HR0_0.out (kB)) | (with_reducible refine Kd.C_alloc ?_ _) | (with_reducible refine Kd.C_drewN ?_ _) | (with_reducible refine Kd.C_drew ?_)))
       (case side2 => exact HC0_0.out)
       (case side3 => repeat (first | exact (Kd.C_below HR0_1.out (kB)) | (with_reducible refine Kd.C_alloc ?_ _) | (with_reducible refine Kd.C_drewN ?_ _) | (with_reducible refine Kd.C_drew ?_)))
       (case side4 => exact HC0_1.out)
       rintro e w14 ⟨rfl, hb⟩
       refine ⟨_, rfl, ?_⟩
       replace BK211 := cb BK211 hb
       replace HB := cB hb kB
       (try clear hb)
       (try clear hb2)
       (try clear hk)
       (try clear hi)
       refine hK.out _ _ ⟨(blk_cell BK211.out 0).trans rfl, (blk_cell BK211.out 1).trans rfl, ((HB.out.cell (World.block_lt_of_cell? w _ hw212_0)).trans hw212_0), ((HB.out.cell (World.block_lt_of_cell? w _ hw212_1)).trans hw212_1), ((HB.out.cell (World.block_lt_of_cell? w _ hw212_2)).trans hw212_2), ((HB.out.cell (World.block_lt_of_cell? w _ hw214_0)).trans hw214_0), ((HB.out.cell (World.block_lt_of_cell? w _ hw214_1)).trans hw214_1), ((HB.out.cell (World.block_lt_of_cell? w _ hw214_2)).trans hw214_2)⟩ (fun hHeld => ?_)
       clear hK K
       refine norm_ (a' := ?_) ?_ ?_
       rotate_left
       ·show Act.put _ (some 29) _ = _
        simp only [Act.put, List.setIfInBounds_toArray, List.set_cons_zero, List.set_cons_succ, i64_w, i32_w]
        rfl
       refine plan_ [(18, 31, false), (19, 32, false)] ?_
       repeat (
        refine plan_pure (v := ?_) (a' := ?_) rfl rfl (any_of HT_.out (by kernel_rfl)) (Or.inl ⟨by rfl, ?_⟩) ?_ ?_ (fun _ _ _ h => h)
        rotate_left
        ·intro w'
         go_simp
         with_reducible rfl
        rotate_left
        ·simp only [Act.put, List.setIfInBounds_toArray, List.set_cons_zero, List.set_cons_succ, i64_w, i32_w]
         rfl)
       refine plan_end ?_
       refine done_ (done_of HT_.out (by kernel_rfl)) ?_
       try go_wp2
       go_ret
       exact ⟨by first | rfl | (simp [errW_none, errW_some] <;> rfl) | (simp [*, errW_none, errW_some] <;> rfl), kB⟩
     ·replace c6 := Bool.eq_false_iff.mpr c6
      subst c6
      have H1 : (some false) = some r := by rw [if_neg (show ¬ (false = true) by decide)] at H; exact H
      clear H
      have H := H1
      clear H1
      obtain rfl := Option.some.inj H
      have hcz15_0 : wr.cell? ⟨gb211, 0, none⟩ = some (.slice A0_0 l0_0.length c0_0) := (blk_cell BK211.out 0).trans rfl
      have hcz15_1 : wr.cell? ⟨gb211, 1, none⟩ = some (.slice A0_1 l0_1.length c0_1) := (blk_cell BK211.out 1).trans rfl
      have hfz15_0 := blk_frozen BK211.out 0
      have hfz15_1 := blk_frozen BK211.out 1
      try go_wp2
      replace BK211 := Aside0.mk (blk_drew BK211.out)
      replace HB := Aside0.mk (below_drew1 HB.out)
      have p212 : 0 ≤ (x3_1 : Int) := of_decide_eq_true (by first | (with_reducible assumption) | assumption)
      have q212 : x3_1 < (l0_0.length : Int) := of_decide_eq_true (by first | (with_reducible assumption) | assumption)
      obtain ⟨ad212, e212, hx212_0, hx212_1, hx212_2⟩ := at_T37 HR0_0.out x3_1 p212 q212
      have hw212_2 := hx212_2
      have hw212_1 := hx212_1
      have hw212_0 := hx212_0
      cases e212
      replace hx212_0 := (HB.out.cell (World.block_lt_of_cell? w _ hx212_0)).trans hx212_0
      replace hx212_1 := (HB.out.cell (World.block_lt_of_cell? w _ hx212_1)).trans hx212_1
      replace hx212_2 := (HB.out.cell (World.block_lt_of_cell? w _ hx212_2)).trans hx212_2
      replace p212 := eq_true p212
      replace q212 := eq_true q212
      refine start_ (n := 20) (S := fun w' => w'.cell? ⟨gb211, 0, none⟩ = some (.slice (some ad212) l0_0.length c0_0) ∧ w'.cell? ⟨gb211, 1, none⟩ = some (.slice A0_1 l0_1.length c0_1) ∧ w'.cell? (ad212.add ((x3_1).toNat * 3)) = some (.string ((rd_T37 l0_0 x3_1).f0)) ∧ w'.cell? ⟨(ad212.add ((x3_1).toNat * 3)).block, (ad212.add ((x3_1).toNat * 3)).off + 1, none⟩ = some (.int .u64 ((rd_T37 l0_0 x3_1).f1)) ∧ w'.cell? ⟨(ad212.add ((x3_1).toNat * 3)).block, (ad212.add ((x3_1).toNat * 3)).off + 2, none⟩ = some (.bool ((rd_T37 l0_0 x3_1).f2))) (ds := []) #[false, false, false, false, false, false, false, false, false, false, false, false, false, false, false, false, false, false, false, false] (by kernel_rfl) rfl rfl ⟨(blk_cell BK211.out 0).trans rfl, (blk_cell BK211.out 1).trans rfl, ((HB.out.cell (World.block_lt_of_cell? w _ hw212_0)).trans hw212_0), ((HB.out.cell (World.block_lt_of_cell? w _ hw212_1)).trans hw212_1), ((HB.out.cell (World.block_lt_of_cell? w _ hw212_2)).trans hw212_2)⟩ (fun hHeld => ?_); refine with_tabW cutroomref36_Valid.tab4 cutroomref36_Valid.bits4 (fun HT_ HW_ => ?_)
      generalize wr.drew = w16 at BK211 HB hx212_0 hx212_1 hx212_2 hHeld ⊢
      refine plan_ [(0, 13, false), (2, 15, false), (1, 14, true), (3, 16, false), (4, 17, false), (5, 18, true)] ?_
      repeat (first
       | (
        refine plan_pure (v := ?_) (a' := ?_) rfl rfl (any_of HT_.out (by kernel_rfl)) (Or.inl ⟨by rfl, ?_⟩) ?_ ?_ (fun _ _ _ h => h)
        rotate_left
        ·intro w'
         go_simp
         with_reducible rfl
        rotate_left
        ·simp only [Act.put, List.setIfInBounds_toArray, List.set_cons_zero, List.set_cons_succ, i64_w, i32_w]
         rfl)
       | (
        refine plan_take (v := ?_) (a' := ?_) rfl rfl (take_ofW HT_.out HW_.out (by kernel_rfl)) (Or.inl ⟨by rfl, ?_⟩) hHeld ?_ ?_ (fun _ _ _ h => h)
        rotate_left
        ·rintro w' ⟨s0, s1, s2, s3, s4⟩
         go_simp
         with_reducible rfl
        rotate_left
        ·simp only [Act.put, List.setIfInBounds_toArray, List.set_cons_zero, List.set_cons_succ, i64_w, i32_w]
         rfl))
      refine plan_end ?_
      refine one_ (i := 6) (N := some 19) #[true, true, true, true, true, true, true, false, false, false, false, false, false, false, false, false, false, false, false, false] rfl rfl (one_of HT_.out (by kernel_rfl)) (by decide) (fun K hK => ?_)
      refine goes_ Try.func26 (by kernel_rfl) rfl #[.string ((rd_T37 l0_0 x3_1).f0)] (by rfl) rfl rfl (by (try simp only [List.map_toArray, List.map_cons, List.map_nil]); first | done | rfl | (simp only [List.length_drop, List.length_take]; rfl)) ?_
      with_reducible refine (cutroomref23_ValidName.calls k1 ((rd_T37 l0_0 x3_1).f0) false _ A5.out).mono ?_
      rintro e w' ⟨rfl, ⟨nd, rfl⟩⟩
      refine ⟨_, rfl, ?_⟩
      refine hK.out _ _ ⟨(blk_cell BK211.out 0).trans rfl, (blk_cell BK211.out 1).trans rfl, ((HB.out.cell (World.block_lt_of_cell? w _ hw212_0)).trans hw212_0), ((HB.out.cell (World.block_lt_of_cell? w _ hw212_1)).trans hw212_1), ((HB.out.cell (World.block_lt_of_cell? w _ hw212_2)).trans hw212_2)⟩ (fun hHeld => ?_)
      clear hK K
      refine norm_ (a' := ?_) ?_ ?_
      rotate_left
      ·show Act.put _ (some 19) _ = _
       simp only [Act.put, List.setIfInBounds_toArray, List.set_cons_zero, List.set_cons_succ, i64_w, i32_w]
       rfl
      refine plan_ [(7, 20, false), (8, 21, false)] ?_
      repeat (
       refine plan_pure (v := ?_) (a' := ?_) rfl rfl (any_of HT_.out (by kernel_rfl)) (Or.inl ⟨by rfl, ?_⟩) ?_ ?_ (fun _ _ _ h => h)
       rotate_left
       ·intro w'
        go_simp
        with_reducible rfl
       rotate_left
       ·simp only [Act.put, List.setIfInBounds_toArray, List.set_cons_zero, List.set_cons_succ, i64_w, i32_w]
        rfl)
      refine plan_end ?_
      refine pure_ (i := 9) (N := some 22) (v := undef) (a' := ?_) #[true, true, true, true, true, true, true, true, true, true, false, false, false, false, false, false, false, false, false, false] rfl rfl (any_of HT_.out (by kernel_rfl)) (fun _ _ _ h => h) (Or.inr ⟨by rfl, rfl⟩) ?_ ?_
      rotate_left
      ·simp only [Act.put, List.setIfInBounds_toArray, List.set_cons_zero, List.set_cons_succ, i64_w, i32_w]
       rfl
      refine pure_ (i := 10) (N := some 23) (v := undef) (a' := ?_) #[true, true, true, true, true, true, true, true, true, true, true, false, false, false, false, false, false, false, false, false] rfl rfl (any_of HT_.out (by kernel_rfl)) (fun _ _ _ h => h) (Or.inr ⟨by rfl, rfl⟩) ?_ ?_
      rotate_left
      ·simp only [Act.put, List.setIfInBounds_toArray, List.set_cons_zero, List.set_cons_succ, i64_w, i32_w]
       rfl
      refine pure_ (i := 11) (N := some 24) (v := undef) (a' := ?_) #[true, true, true, true, true, true, true, true, true, true, true, true, false, false, false, false, false, false, false, false] rfl rfl (any_of HT_.out (by kernel_rfl)) (fun _ _ _ h => h) (Or.inr ⟨by rfl, rfl⟩) ?_ ?_
      rotate_left
      ·simp only [Act.put, List.setIfInBounds_toArray, List.set_cons_zero, List.set_cons_succ, i64_w, i32_w]
       rfl
      refine pure_ (i := 12) (N := some 25) (v := undef) (a' := ?_) #[true, true, true, true, true, true, true, true, true, true, true, true, true, false, false, false, false, false, false, false] rfl rfl (any_of HT_.out (by kernel_rfl)) (fun _ _ _ h => h) (Or.inr ⟨by rfl, rfl⟩) ?_ ?_
      rotate_left
      ·simp only [Act.put, List.setIfInBounds_toArray, List.set_cons_zero, List.set_cons_succ, i64_w, i32_w]
       rfl
      refine pure_ (i := 13) (N := some 26) (v := undef) (a' := ?_) #[true, true, true, true, true, true, true, true, true, true, true, true, true, true, false, false, false, false, false, false] rfl rfl (any_of HT_.out (by kernel_rfl)) (fun _ _ _ h => h) (Or.inr ⟨by rfl, rfl⟩) ?_ ?_
      rotate_left
      ·simp only [Act.put, List.setIfInBounds_toArray, List.set_cons_zero, List.set_cons_succ, i64_w, i32_w]
       rfl
      refine pure_ (i := 14) (N := some 27) (v := undef) (a' := ?_) #[true, true, true, true, true, true, true, true, true, true, true, true, true, true, true, false, false, false, false, false] rfl rfl (any_of HT_.out (by kernel_rfl)) (fun _ _ _ h => h) (Or.inr ⟨by rfl, rfl⟩) ?_ ?_
      rotate_left
      ·simp only [Act.put, List.setIfInBounds_toArray, List.set_cons_zero, List.set_cons_succ, i64_w, i32_w]
       rfl
      refine pure_ (i := 15) (N := some 28) (v := undef) (a' := ?_) #[true, true, true, true, true, true, true, true, true, true, true, true, true, true, true, true, false, false, false, false] rfl rfl (any_of HT_.out (by kernel_rfl)) (fun _ _ _ h => h) (Or.inr ⟨by rfl, rfl⟩) ?_ ?_
      rotate_left
      ·simp only [Act.put, List.setIfInBounds_toArray, List.set_cons_zero, List.set_cons_succ, i64_w, i32_w]
       rfl
      refine pure_ (i := 16) (N := some 29) (v := undef) (a' := ?_) #[true, true, true, true, true, true, true, true, true, true, true, true, true, true, true, true, true, false, false, false] rfl rfl (any_of HT_.out (by kernel_rfl)) (fun _ _ _ h => h) (Or.inr ⟨by rfl, rfl⟩) ?_ ?_
      rotate_left
      ·simp only [Act.put, List.setIfInBounds_toArray, List.set_cons_zero, List.set_cons_succ, i64_w, i32_w]
       rfl
      refine pure_ (i := 17) (N := some 30) (v := undef) (a' := ?_) #[true, true, true, true, true, true, true, true, true, true, true, true, true, true, true, true, true, true, false, false] rfl rfl (any_of HT_.out (by kernel_rfl)) (fun _ _ _ h => h) (Or.inr ⟨by rfl, rfl⟩) ?_ ?_
      rotate_left
      ·simp only [Act.put, List.setIfInBounds_toArray, List.set_cons_zero, List.set_cons_succ, i64_w, i32_w]
       rfl
      refine pure_ (i := 18) (N := some 31) (v := undef) (a' := ?_) #[true, true, true, true, true, true, true, true, true, true, true, true, true, true, true, true, true, true, true, false] rfl rfl (any_of HT_.out (by kernel_rfl)) (fun _ _ _ h => h) (Or.inr ⟨by rfl, rfl⟩) ?_ ?_
      rotate_left
      ·simp only [Act.put, List.setIfInBounds_toArray, List.set_cons_zero, List.set_cons_succ, i64_w, i32_w]
       rfl
      refine pure_ (i := 19) (N := some 32) (v := ?_) (a' := ?_) #[true, true, true, true, true, true, true, true, true, true, true, true, true, true, true, true, true, true, true, true] rfl rfl (any_of HT_.out (by kernel_rfl)) (fun _ _ _ h => h) (Or.inl ⟨by rfl, ?_⟩) ?_ ?_
      rotate_left
      ·intro w'
       go_simp
       with_reducible rfl
      rotate_left
      ·simp only [Act.put, List.setIfInBounds_toArray, List.set_cons_zero, List.set_cons_succ, i64_w, i32_w]
       rfl
      refine done_ (done_of HT_.out (by kernel_rfl)) ?_
      try go_wp2
      go_ret
      exact ⟨by first | rfl | (simp [errW_none, errW_some] <;> rfl) | (simp [*, errW_none, errW_some] <;> rfl), kB⟩
    ·rw [if_neg c4] at H
     exact absurd H (by simp)
   ·rw [if_neg c3] at H
    have c3b0 : decide (x3_1 < (l0_0.length : Int)) = false := decide_eq_false c3
    clear c3
    have H' := Aside0.mk H
    clear H
    have hcz17_0 : wr.cell? ⟨gb211, 0, none⟩ = some (.slice A0_0 l0_0.length c0_0) := (blk_cell BK211.out 0).trans rfl
    have hcz17_1 : wr.cell? ⟨gb211, 1, none⟩ = some (.slice A0_1 l0_1.length c0_1) := (blk_cell BK211.out 1).trans rfl
    have hfz17_0 := blk_frozen BK211.out 0
    have hfz17_1 := blk_frozen BK211.out 1
    go_wp2
    go_loopg [4] k1 (fun kq v4 w' => ∃ (x4_2 : Int), v4 = .int .i64 x4_2 ∧ Aside0 (cutroomref36_Valid.l1 kq x4_2 l0_0 l0_1 = some r) ∧ Aside0 (kq ≤ k1) ∧ Aside0 (w'.heap[gb211]? = some (.cells #[(.slice A0_0 l0_0.length c0_0), (.slice A0_1 l0_1.length c0_1)] 30 (0, 0))) ∧ Aside0 (Below w.heap.size w w'))
    case atStart => exact ⟨(0), (by first | rfl | (simp; done) | (simp [*]; done)), H', ⟨Nat.le_refl _⟩, ⟨kb BK211⟩, ⟨kB⟩⟩
    case round =>
     clear H'
     try clear c2
     try clear p2
     try clear q2
     try clear hx2
     try clear c3
     try clear c3b0
     try clear c4
     try clear c6
     try clear p6
     try clear c8
     try clear c8b0
     try clear c8b1
     try clear hcz12_0
     try clear hcz12_1
     try clear hcz15_0
     try clear hcz15_1
     try clear hcz17_0
     try clear hcz17_1
     try clear hfz12_0
     try clear hfz12_1
     try clear hfz15_0
     try clear hfz15_1
     try clear hfz17_0
     try clear hfz17_1
     try clear hx212_0
     try clear hx212_1
     try clear hx212_2
     try clear hx214_0
     try clear hx214_1
     try clear hx214_2
     try clear p212
     try clear p214
     try clear q212
     try clear q214
     obtain ⟨x4_2, rfl, HA, HK2, BK211, HB⟩ := hrel
     cases gk with
     | zero => exact absurd HA.out (by simp [cutroomref36_Valid.l1])
     | succ k2 =>
      have H := HA.out
      clear HA
      simp only [cutroomref36_Valid.l1] at H
      by_cases c18 : x4_2 < (l0_1.length : Int)
      ·rw [if_pos c18] at H
       have c18b0 : decide (x4_2 < (l0_1.length : Int)) = true := decide_eq_true c18
       clear c18
       by_cases c19 : 0 ≤ x4_2
       ·rw [if_pos c19] at H
        have c19b0 : decide (0 ≤ x4_2) = true := decide_eq_true c19
        clear c19
        replace H := Option.bind_eq_some_iff.mp H
        obtain ⟨t218, A200, H⟩ := H
        replace H : (if t218 = true then ((cutroomref23_ValidName.f k2 ((rd_T39 l0_1 x4_2).f1)).bind fun t219 => (if t219 = true then ((cutroomref36_link.f k2 l0_0 l0_1 ((rd_T39 l0_1 x4_2).f0)).bind fun t220 => (if t220 = x4_2 then (if ((rd_T39 l0_1 x4_2).f3).toList = ([] : List UInt8) then (cutroomref36_Valid.l1 k2 (wrap64 (x4_2 + 1)) l0_0 l0_1) else ((cutroomref23_ValidName.f k2 ((rd_T39 l0_1 x4_2).f3)).bind fun t221 => (if t221 = true then (if ((rd_T39 l0_1 x4_2).f3).toList = ((rd_T39 l0_1 x4_2).f0).toList then (some false) else (cutroomref36_Valid.l1 k2 (wrap64 (x4_2 + 1)) l0_0 l0_1)) else (some false)))) else (some false))) else (some false))) else (some false)) = some r := H
        have A20 := Aside0.mk A200
        clear A200
        by_cases c21 : t218 = true
        ·subst c21
         have H1 : ((cutroomref23_ValidName.f k2 ((rd_T39 l0_1 x4_2).f1)).bind fun t219 => (if t219 = true then ((cutroomref36_link.f k2 l0_0 l0_1 ((rd_T39 l0_1 x4_2).f0)).bind fun t220 => (if t220 = x4_2 then (if ((rd_T39 l0_1 x4_2).f3).toList = ([] : List UInt8) then (cutroomref36_Valid.l1 k2 (wrap64 (x4_2 + 1)) l0_0 l0_1) else ((cutroomref23_ValidName.f k2 ((rd_T39 l0_1 x4_2).f3)).bind fun t221 => (if t221 = true then (if ((rd_T39 l0_1 x4_2).f3).toList = ((rd_T39 l0_1 x4_2).f0).toList then (some false) else (cutroomref36_Valid.l1 k2 (wrap64 (x4_2 + 1)) l0_0 l0_1)) else (some false)))) else (some false))) else (some false))) = some r := by rw [if_pos rfl] at H; exact H
         clear H
         have H := H1
         clear H1
         replace H := Option.bind_eq_some_iff.mp H
         obtain ⟨t219, A220, H⟩ := H
         replace H : (if t219 = true then ((cutroomref36_link.f k2 l0_0 l0_1 ((rd_T39 l0_1 x4_2).f0)).bind fun t220 => (if t220 = x4_2 then (if ((rd_T39 l0_1 x4_2).f3).toList = ([] : List UInt8) then (cutroomref36_Valid.l1 k2 (wrap64 (x4_2 + 1)) l0_0 l0_1) else ((cutroomref23_ValidName.f k2 ((rd_T39 l0_1 x4_2).f3)).bind fun t221 => (if t221 = true then (if ((rd_T39 l0_1 x4_2).f3).toList = ((rd_T39 l0_1 x4_2).f0).toList then (some false) else (cutroomref36_Valid.l1 k2 (wrap64 (x4_2 + 1)) l0_0 l0_1)) else (some false)))) else (some false))) else (some false)) = some r := H
         have A22 := Aside0.mk A220
         clear A220
         by_cases c23 : t219 = true
         ·subst c23
          have H1 : ((cutroomref36_link.f k2 l0_0 l0_1 ((rd_T39 l0_1 x4_2).f0)).bind fun t220 => (if t220 = x4_2 then (if ((rd_T39 l0_1 x4_2).f3).toList = ([] : List UInt8) then (cutroomref36_Valid.l1 k2 (wrap64 (x4_2 + 1)) l0_0 l0_1) else ((cutroomref23_ValidName.f k2 ((rd_T39 l0_1 x4_2).f3)).bind fun t221 => (if t221 = true then (if ((rd_T39 l0_1 x4_2).f3).toList = ((rd_T39 l0_1 x4_2).f0).toList then (some false) else (cutroomref36_Valid.l1 k2 (wrap64 (x4_2 + 1)) l0_0 l0_1)) else (some false)))) else (some false))) = some r := by rw [if_pos rfl] at H; exact H
          clear H
          have H := H1
          clear H1
          replace H := Option.bind_eq_some_iff.mp H
          obtain ⟨t220, A240, H⟩ := H
          replace H : (if t220 = x4_2 then (if ((rd_T39 l0_1 x4_2).f3).toList = ([] : List UInt8) then (cutroomref36_Valid.l1 k2 (wrap64 (x4_2 + 1)) l0_0 l0_1) else ((cutroomref23_ValidName.f k2 ((rd_T39 l0_1 x4_2).f3)).bind fun t221 => (if t221 = true then (if ((rd_T39 l0_1 x4_2).f3).toList = ((rd_T39 l0_1 x4_2).f0).toList then (some false) else (cutroomref36_Valid.l1 k2 (wrap64 (x4_2 + 1)) l0_0 l0_1)) else (some false)))) else (some false)) = some r := H
          have A24 := Aside0.mk A240
          clear A240
          by_cases c25 : t220 = x4_2
          ·rw [if_pos c25] at H
           have c25b0 : (t220 == x4_2) = true := beq_iff_eq.mpr c25
           have c25b1 : (t220 != x4_2) = false := bne_eq_false_iff_eq.mpr c25
           clear c25
           by_cases c26 : ((rd_T39 l0_1 x4_2).f3).toList = ([] : List UInt8)
           ·rw [if_pos c26] at H
            have c26b0 : (((rd_T39 l0_1 x4_2).f3).toList == ([] : List UInt8)) = true := beq_iff_eq.mpr c26
            have c26b1 : (((rd_T39 l0_1 x4_2).f3).toList != ([] : List UInt8)) = false := bne_eq_false_iff_eq.mpr c26
            clear c26
            have H' := Aside0.mk H
            clear H
            have hcz27_0 : wr.cell? ⟨gb211, 0, none⟩ = some (.slice A0_0 l0_0.length c0_0) := (blk_cell BK211.out 0).trans rfl
            have hcz27_1 : wr.cell? ⟨gb211, 1, none⟩ = some (.slice A0_1 l0_1.length c0_1) := (blk_cell BK211.out 1).trans rfl
            have hfz27_0 := blk_frozen BK211.out 0
            have hfz27_1 := blk_frozen BK211.out 1
            have p216 : 0 ≤ (x4_2 : Int) := of_decide_eq_true (by first | (with_reducible assumption) | assumption)
            have q216 : x4_2 < (l0_1.length : Int) := of_decide_eq_true (by first | (with_reducible assumption) | assumption)
            obtain ⟨ad216, e216, hx216_0, hx216_1, hx216_2, hx216_3⟩ := at_T39 HR0_1.out x4_2 p216 q216
            cases e216
            replace hx216_0 := (HB.out.cell (World.block_lt_of_cell? w _ hx216_0)).trans hx216_0
            replace hx216_1 := (HB.out.cell (World.block_lt_of_cell? w _ hx216_1)).trans hx216_1
            replace hx216_2 := (HB.out.cell (World.block_lt_of_cell? w _ hx216_2)).trans hx216_2
            replace hx216_3 := (HB.out.cell (World.block_lt_of_cell? w _ hx216_3)).trans hx216_3
            replace p216 := eq_true p216
            replace q216 := eq_true q216
            go_wp2_with (first | ((with_reducible refine gate_dst (N := 5) rfl ?_); (try (refine gate_guard (by rfl) ?_; dsimp only)); refine box_event ?hg (N := 5) ?hd (cs := #[.string (⟨#[]⟩ : ByteArray), .string (⟨#[]⟩ : ByteArray), .int .u64 0, .string (⟨#[]⟩ : ByteArray)]) (t := 39) ?hr ?_; (case hd => rfl); (case hg => rfl); (case hr => first | (go_simp; done) | (go_simp; rfl)); intro gb217 hg w28 hbox hb; have BK217 := Aside0.mk (hbox); have GW217 := gw_ hg kB; have GE217 := gw_ hg kB; have NB211_217 := nb_lt hg BK211; have NB217_211 := nb_gt hg BK211; replace BK211 := cb BK211 hb; replace HB := cB hb kB; clear hb hbox hg; have hnb29 := NB217_211.out; have hnc29 := NB211_217.out; have hcz30_0 : w28.cell? ⟨gb217, 0, none⟩ = some (.string (⟨#[]⟩ : ByteArray)) := (blk_cell BK217.out 0).trans rfl; have hcz30_1 : w28.cell? ⟨gb217, 1, none⟩ = some (.string (⟨#[]⟩ : ByteArray)) := (blk_cell BK217.out 1).trans rfl; have hcz30_2 : w28.cell? ⟨gb217, 2, none⟩ = some (.int .u64 0) := (blk_cell BK217.out 2).trans rfl; have hcz30_3 : w28.cell? ⟨gb217, 3, none⟩ = some (.string (⟨#[]⟩ : ByteArray)) := (blk_cell BK217.out 3).trans rfl; have hfz30_0 := blk_frozen BK217.out 0; have hfz30_1 := blk_frozen BK217.out 1; have hfz30_2 := blk_frozen BK217.out 2; have hfz30_3 := blk_frozen BK217.out 3) | ((with_reducible refine gate_callee (f := 26) rfl ?_); refine goesL_ (some 47) rfl rfl Try.func26 (by kernel_rfl) rfl #[.string ((rd_T39 l0_1 x4_2).f0)] rfl (by (try simp only [List.map_toArray, List.map_cons, List.map_nil]); first | done | rfl | (simp only [List.length_drop, List.length_take]; rfl)) ?_; (with_reducible refine (cutroomref23_ValidName.calls k2 ((rd_T39 l0_1 x4_2).f0) true _ A20.out).mono ?_); rintro e w' ⟨rfl, ⟨nd, rfl⟩⟩; refine ⟨_, rfl, ?_⟩) | (go_at_call 26; (with_reducible refine (cutroomref23_ValidName.calls k2 ((rd_T39 l0_1 x4_2).f1) true _ A22.out).mono ?_); rintro e w' ⟨rfl, ⟨nd, rfl⟩⟩; have hcz31_0 : w28.cell? ⟨gb211, 0, none⟩ = some (.slice A0_0 l0_0.length c0_0) := (blk_cell BK211.out 0).trans rfl; have hcz31_1 : w28.cell? ⟨gb211, 1, none⟩ = some (.slice (some ad216) l0_1.length c0_1) := (blk_cell BK211.out 1).trans rfl; have hfz31_0 := blk_frozen BK211.out 0; have hfz31_1 := blk_frozen BK211.out 1) | (go_at_call 28; (with_reducible refine (cutroomref36_link.calls k2 _ _ l0_0 _ _ l0_1 ((rd_T39 l0_1 x4_2).f0) t220 _ ?side1 ?side2 ?side3 ?side4 A24.out).mono ?_); (case side1 => exact Kd.C_below HR0_0.out (kB)); (case side2 => exact HC0_0.out); (case side3 => exact Kd.C_below HR0_1.out (kB)); (case side4 => exact HC0_1.out); rintro e w32 ⟨rfl, hb⟩; replace BK211 := cb BK211 hb; replace BK217 := Aside0.mk (blk_below (g := gb217) (o := .cells #[.string ((rd_T39 l0_1 x4_2).f0), .string ((rd_T39 l0_1 x4_2).f1), .int .u64 ((rd_T39 l0_1 x4_2).f2), .string ((rd_T39 l0_1 x4_2).f3)] 39 (0, 0)) (by (with_reducible repeat (first | refine blk_drewN ?_ _ | refine blk_drew ?_ | refine blk_alloc ?_ _)); refine blk_put (cs := #[.string ((rd_T39 l0_1 x4_2).f0), .string ((rd_T39 l0_1 x4_2).f1), .int .u64 ((rd_T39 l0_1 x4_2).f2), .string (⟨#[]⟩ : ByteArray)]) ?_ 3 _ rfl; (with_reducible repeat (first | refine blk_drewN ?_ _ | refine blk_drew ?_ | refine blk_alloc ?_ _)); refine blk_put (cs := #[.string ((rd_T39 l0_1 x4_2).f0), .string ((rd_T39 l0_1 x4_2).f1), .int .u64 0, .string (⟨#[]⟩ : ByteArray)]) ?_ 2 _ rfl; (with_reducible repeat (first | refine blk_drewN ?_ _ | refine blk_drew ?_ | refine blk_alloc ?_ _)); refine blk_put (cs := #[.string ((rd_T39 l0_1 x4_2).f0), .string (⟨#[]⟩ : ByteArray), .int .u64 0, .string (⟨#[]⟩ : ByteArray)]) ?_ 1 _ rfl; (with_reducible repeat (first | refine blk_drewN ?_ _ | refine blk_drew ?_ | refine blk_alloc ?_ _)); refine blk_put (cs := #[.string (⟨#[]⟩ : ByteArray), .string (⟨#[]⟩ : ByteArray), .int .u64 0, .string (⟨#[]⟩ : ByteArray)]) ?_ 0 _ rfl; (with_reducible repeat (first | refine blk_drewN ?_ _ | refine blk_drew ?_ | refine blk_alloc ?_ _)); exact BK217.out) hb); replace HB := cB hb kB; (try clear hb); (try clear hb2); (try clear hk); (try clear hi); have hcz33_0 : w32.cell? ⟨gb217, 0, none⟩ = some (.string ((rd_T39 l0_1 x4_2).f0)) := (blk_cell BK217.out 0).trans rfl; have hcz33_1 : w32.cell? ⟨gb217, 1, none⟩ = some (.string ((rd_T39 l0_1 x4_2).f1)) := (blk_cell BK217.out 1).trans rfl; have hcz33_2 : w32.cell? ⟨gb217, 2, none⟩ = some (.int .u64 ((rd_T39 l0_1 x4_2).f2)) := (blk_cell BK217.out 2).trans rfl; have hcz33_3 : w32.cell? ⟨gb217, 3, none⟩ = some (.string ((rd_T39 l0_1 x4_2).f3)) := (blk_cell BK217.out 3).trans rfl; have hfz33_0 := blk_frozen BK217.out 0; have hfz33_1 := blk_frozen BK217.out 1; have hfz33_2 := blk_frozen BK217.out 2; have hfz33_3 := blk_frozen BK217.out 3))
            go_roundg k2
            case measure => have := HK1.out; have := HK2.out; omega
            case rel => exact ⟨(wrap64 (x4_2 + 1)), (by first | rfl | (simp; done) | (simp [*]; done)), H', ⟨by have := HK1.out; have := HK2.out; omega⟩, ⟨kb BK211⟩, ⟨kB⟩⟩
           ·rw [if_neg c26] at H
            have c26b0 : (((rd_T39 l0_1 x4_2).f3).toList == ([] : List UInt8)) = false := beq_eq_false_iff_ne.mpr c26
            have c26b1 : (((rd_T39 l0_1 x4_2).f3).toList != ([] : List UInt8)) = true := bne_iff_ne.mpr c26
            replace H := Option.bind_eq_some_iff.mp H
            obtain ⟨t221, A340, H⟩ := H
            replace H : (if t221 = true then (if ((rd_T39 l0_1 x4_2).f3).toList = ((rd_T39 l0_1 x4_2).f0).toList then (some false) else (cutroomref36_Valid.l1 k2 (wrap64 (x4_2 + 1)) l0_0 l0_1)) else (some false)) = some r := H
            have A34 := Aside0.mk A340
            clear A340
            by_cases c35 : t221 = true
            ·subst c35
             have H1 : (if ((rd_T39 l0_1 x4_2).f3).toList = ((rd_T39 l0_1 x4_2).f0).toList then (some false) else (cutroomref36_Valid.l1 k2 (wrap64 (x4_2 + 1)) l0_0 l0_1)) = some r := by rw [if_pos rfl] at H; exact H
             clear H
             have H := H1
             clear H1
             by_cases c36 : ((rd_T39 l0_1 x4_2).f3).toList = ((rd_T39 l0_1 x4_2).f0).toList
             ·rw [if_pos c36] at H
              have c36b0 : (((rd_T39 l0_1 x4_2).f3).toList == ((rd_T39 l0_1 x4_2).f0).toList) = true := beq_iff_eq.mpr c36
              have c36b1 : (((rd_T39 l0_1 x4_2).f3).toList != ((rd_T39 l0_1 x4_2).f0).toList) = false := bne_eq_false_iff_eq.mpr c36
              clear c36
              obtain rfl := Option.some.inj H
              have hcz37_0 : wr.cell? ⟨gb211, 0, none⟩ = some (.slice A0_0 l0_0.length c0_0) := (blk_cell BK211.out 0).trans rfl
              have hcz37_1 : wr.cell? ⟨gb211, 1, none⟩ = some (.slice A0_1 l0_1.length c0_1) := (blk_cell BK211.out 1).trans rfl
              have hfz37_0 := blk_frozen BK211.out 0
              have hfz37_1 := blk_frozen BK211.out 1
              have p216 : 0 ≤ (x4_2 : Int) := of_decide_eq_true (by first | (with_reducible assumption) | assumption)
              have q216 : x4_2 < (l0_1.length : Int) := of_decide_eq_true (by first | (with_reducible assumption) | assumption)
              obtain ⟨ad216, e216, hx216_0, hx216_1, hx216_2, hx216_3⟩ := at_T39 HR0_1.out x4_2 p216 q216
              cases e216
              replace hx216_0 := (HB.out.cell (World.block_lt_of_cell? w _ hx216_0)).trans hx216_0
              replace hx216_1 := (HB.out.cell (World.block_lt_of_cell? w _ hx216_1)).trans hx216_1
              replace hx216_2 := (HB.out.cell (World.block_lt_of_cell? w _ hx216_2)).trans hx216_2
              replace hx216_3 := (HB.out.cell (World.block_lt_of_cell? w _ hx216_3)).trans hx216_3
              replace p216 := eq_true p216
              replace q216 := eq_true q216
              go_wp2_with (first | ((with_reducible refine gate_dst (N := 5) rfl ?_); (try (refine gate_guard (by rfl) ?_; dsimp only)); refine box_event ?hg (N := 5) ?hd (cs := #[.string (⟨#[]⟩ : ByteArray), .string (⟨#[]⟩ : ByteArray), .int .u64 0, .string (⟨#[]⟩ : ByteArray)]) (t := 39) ?hr ?_; (case hd => rfl); (case hg => rfl); (case hr => first | (go_simp; done) | (go_simp; rfl)); intro gb217 hg w38 hbox hb; have BK217 := Aside0.mk (hbox); have GW217 := gw_ hg kB; have GE217 := gw_ hg kB; have NB211_217 := nb_lt hg BK211; have NB217_211 := nb_gt hg BK211; replace BK211 := cb BK211 hb; replace HB := cB hb kB; clear hb hbox hg; have hnb39 := NB217_211.out; have hnc39 := NB211_217.out; have hcz40_0 : w38.cell? ⟨gb217, 0, none⟩ = some (.string (⟨#[]⟩ : ByteArray)) := (blk_cell BK217.out 0).trans rfl; have hcz40_1 : w38.cell? ⟨gb217, 1, none⟩ = some (.string (⟨#[]⟩ : ByteArray)) := (blk_cell BK217.out 1).trans rfl; have hcz40_2 : w38.cell? ⟨gb217, 2, none⟩ = some (.int .u64 0) := (blk_cell BK217.out 2).trans rfl; have hcz40_3 : w38.cell? ⟨gb217, 3, none⟩ = some (.string (⟨#[]⟩ : ByteArray)) := (blk_cell BK217.out 3).trans rfl; have hfz40_0 := blk_frozen BK217.out 0; have hfz40_1 := blk_frozen BK217.out 1; have hfz40_2 := blk_frozen BK217.out 2; have hfz40_3 := blk_frozen BK217.out 3) | ((with_reducible refine gate_callee (f := 26) rfl ?_); refine goesL_ (some 47) rfl rfl Try.func26 (by kernel_rfl) rfl #[.string ((rd_T39 l0_1 x4_2).f0)] rfl (by (try simp only [List.map_toArray, List.map_cons, List.map_nil]); first | done | rfl | (simp only [List.length_drop, List.length_take]; rfl)) ?_; (with_reducible refine (cutroomref23_ValidName.calls k2 ((rd_T39 l0_1 x4_2).f0) true _ A20.out).mono ?_); rintro e w' ⟨rfl, ⟨nd, rfl⟩⟩; refine ⟨_, rfl, ?_⟩) | (go_at_call 26; (with_reducible refine (cutroomref23_ValidName.calls k2 ((rd_T39 l0_1 x4_2).f1) true _ A22.out).mono ?_); rintro e w' ⟨rfl, ⟨nd, rfl⟩⟩; have hcz41_0 : w38.cell? ⟨gb211, 0, none⟩ = some (.slice A0_0 l0_0.length c0_0) := (blk_cell BK211.out 0).trans rfl; have hcz41_1 : w38.cell? ⟨gb211, 1, none⟩ = some (.slice (some ad216) l0_1.length c0_1) := (blk_cell BK211.out 1).trans rfl; have hfz41_0 := blk_frozen BK211.out 0; have hfz41_1 := blk_frozen BK211.out 1) | (go_at_call 28; (with_reducible refine (cutroomref36_link.calls k2 _ _ l0_0 _ _ l0_1 ((rd_T39 l0_1 x4_2).f0) t220 _ ?side1 ?side2 ?side3 ?side4 A24.out).mono ?_); (case side1 => exact Kd.C_below HR0_0.out (kB)); (case side2 => exact HC0_0.out); (case side3 => exact Kd.C_below HR0_1.out (kB)); (case side4 => exact HC0_1.out); rintro e w42 ⟨rfl, hb⟩; replace BK211 := cb BK211 hb; replace BK217 := Aside0.mk (blk_below (g := gb217) (o := .cells #[.string ((rd_T39 l0_1 x4_2).f0), .string ((rd_T39 l0_1 x4_2).f1), .int .u64 ((rd_T39 l0_1 x4_2).f2), .string ((rd_T39 l0_1 x4_2).f3)] 39 (0, 0)) (by (with_reducible repeat (first | refine blk_drewN ?_ _ | refine blk_drew ?_ | refine blk_alloc ?_ _)); refine blk_put (cs := #[.string ((rd_T39 l0_1 x4_2).f0), .string ((rd_T39 l0_1 x4_2).f1), .int .u64 ((rd_T39 l0_1 x4_2).f2), .string (⟨#[]⟩ : ByteArray)]) ?_ 3 _ rfl; (with_reducible repeat (first | refine blk_drewN ?_ _ | refine blk_drew ?_ | refine blk_alloc ?_ _)); refine blk_put (cs := #[.string ((rd_T39 l0_1 x4_2).f0), .string ((rd_T39 l0_1 x4_2).f1), .int .u64 0, .string (⟨#[]⟩ : ByteArray)]) ?_ 2 _ rfl; (with_reducible repeat (first | refine blk_drewN ?_ _ | refine blk_drew ?_ | refine blk_alloc ?_ _)); refine blk_put (cs := #[.string ((rd_T39 l0_1 x4_2).f0), .string (⟨#[]⟩ : ByteArray), .int .u64 0, .string (⟨#[]⟩ : ByteArray)]) ?_ 1 _ rfl; (with_reducible repeat (first | refine blk_drewN ?_ _ | refine blk_drew ?_ | refine blk_alloc ?_ _)); refine blk_put (cs := #[.string (⟨#[]⟩ : ByteArray), .string (⟨#[]⟩ : ByteArray), .int .u64 0, .string (⟨#[]⟩ : ByteArray)]) ?_ 0 _ rfl; (with_reducible repeat (first | refine blk_drewN ?_ _ | refine blk_drew ?_ | refine blk_alloc ?_ _)); exact BK217.out) hb); replace HB := cB hb kB; (try clear hb); (try clear hb2); (try clear hk); (try clear hi); have hcz43_0 : w42.cell? ⟨gb217, 0, none⟩ = some (.string ((rd_T39 l0_1 x4_2).f0)) := (blk_cell BK217.out 0).trans rfl; have hcz43_1 : w42.cell? ⟨gb217, 1, none⟩ = some (.string ((rd_T39 l0_1 x4_2).f1)) := (blk_cell BK217.out 1).trans rfl; have hcz43_2 : w42.cell? ⟨gb217, 2, none⟩ = some (.int .u64 ((rd_T39 l0_1 x4_2).f2)) := (blk_cell BK217.out 2).trans rfl; have hcz43_3 : w42.cell? ⟨gb217, 3, none⟩ = some (.string ((rd_T39 l0_1 x4_2).f3)) := (blk_cell BK217.out 3).trans rfl; have hfz43_0 := blk_frozen BK217.out 0; have hfz43_1 := blk_frozen BK217.out 1; have hfz43_2 := blk_frozen BK217.out 2; have hfz43_3 := blk_frozen BK217.out 3) | (go_at_call 26; (with_reducible refine (cutroomref23_ValidName.calls k2 ((rd_T39 l0_1 x4_2).f3) true _ A34.out).mono ?_); rintro e w' ⟨rfl, ⟨nd, rfl⟩⟩))
              go_ret
              exact ⟨by first | rfl | (simp [errW_none, errW_some] <;> rfl) | (simp [*, errW_none, errW_some] <;> rfl), kB⟩
             ·rw [if_neg c36] at H
              have c36b0 : (((rd_T39 l0_1 x4_2).f3).toList == ((rd_T39 l0_1 x4_2).f0).toList) = false := beq_eq_false_iff_ne.mpr c36
              have c36b1 : (((rd_T39 l0_1 x4_2).f3).toList != ((rd_T39 l0_1 x4_2).f0).toList) = true := bne_iff_ne.mpr c36
              have H' := Aside0.mk H
              clear H
              have hcz44_0 : wr.cell? ⟨gb211, 0, none⟩ = some (.slice A0_0 l0_0.length c0_0) := (blk_cell BK211.out 0).trans rfl
              have hcz44_1 : wr.cell? ⟨gb211, 1, none⟩ = some (.slice A0_1 l0_1.length c0_1) := (blk_cell BK211.out 1).trans rfl
              have hfz44_0 := blk_frozen BK211.out 0
              have hfz44_1 := blk_frozen BK211.out 1
              have p216 : 0 ≤ (x4_2 : Int) := of_decide_eq_true (by first | (with_reducible assumption) | assumption)
              have q216 : x4_2 < (l0_1.length : Int) := of_decide_eq_true (by first | (with_reducible assumption) | assumption)
              obtain ⟨ad216, e216, hx216_0, hx216_1, hx216_2, hx216_3⟩ := at_T39 HR0_1.out x4_2 p216 q216
              cases e216
              replace hx216_0 := (HB.out.cell (World.block_lt_of_cell? w _ hx216_0)).trans hx216_0
              replace hx216_1 := (HB.out.cell (World.block_lt_of_cell? w _ hx216_1)).trans hx216_1
              replace hx216_2 := (HB.out.cell (World.block_lt_of_cell? w _ hx216_2)).trans hx216_2
              replace hx216_3 := (HB.out.cell (World.block_lt_of_cell? w _ hx216_3)).trans hx216_3
              replace p216 := eq_true p216
              replace q216 := eq_true q216
              go_wp2_with (first | ((with_reducible refine gate_dst (N := 5) rfl ?_); (try (refine gate_guard (by rfl) ?_; dsimp only)); refine box_event ?hg (N := 5) ?hd (cs := #[.string (⟨#[]⟩ : ByteArray), .string (⟨#[]⟩ : ByteArray), .int .u64 0, .string (⟨#[]⟩ : ByteArray)]) (t := 39) ?hr ?_; (case hd => rfl); (case hg => rfl); (case hr => first | (go_simp; done) | (go_simp; rfl)); intro gb217 hg w45 hbox hb; have BK217 := Aside0.mk (hbox); have GW217 := gw_ hg kB; have GE217 := gw_ hg kB; have NB211_217 := nb_lt hg BK211; have NB217_211 := nb_gt hg BK211; replace BK211 := cb BK211 hb; replace HB := cB hb kB; clear hb hbox hg; have hnb46 := NB217_211.out; have hnc46 := NB211_217.out; have hcz47_0 : w45.cell? ⟨gb217, 0, none⟩ = some (.string (⟨#[]⟩ : ByteArray)) := (blk_cell BK217.out 0).trans rfl; have hcz47_1 : w45.cell? ⟨gb217, 1, none⟩ = some (.string (⟨#[]⟩ : ByteArray)) := (blk_cell BK217.out 1).trans rfl; have hcz47_2 : w45.cell? ⟨gb217, 2, none⟩ = some (.int .u64 0) := (blk_cell BK217.out 2).trans rfl; have hcz47_3 : w45.cell? ⟨gb217, 3, none⟩ = some (.string (⟨#[]⟩ : ByteArray)) := (blk_cell BK217.out 3).trans rfl; have hfz47_0 := blk_frozen BK217.out 0; have hfz47_1 := blk_frozen BK217.out 1; have hfz47_2 := blk_frozen BK217.out 2; have hfz47_3 := blk_frozen BK217.out 3) | ((with_reducible refine gate_callee (f := 26) rfl ?_); refine goesL_ (some 47) rfl rfl Try.func26 (by kernel_rfl) rfl #[.string ((rd_T39 l0_1 x4_2).f0)] rfl (by (try simp only [List.map_toArray, List.map_cons, List.map_nil]); first | done | rfl | (simp only [List.length_drop, List.length_take]; rfl)) ?_; (with_reducible refine (cutroomref23_ValidName.calls k2 ((rd_T39 l0_1 x4_2).f0) true _ A20.out).mono ?_); rintro e w' ⟨rfl, ⟨nd, rfl⟩⟩; refine ⟨_, rfl, ?_⟩) | (go_at_call 26; (with_reducible refine (cutroomref23_ValidName.calls k2 ((rd_T39 l0_1 x4_2).f1) true _ A22.out).mono ?_); rintro e w' ⟨rfl, ⟨nd, rfl⟩⟩; have hcz48_0 : w45.cell? ⟨gb211, 0, none⟩ = some (.slice A0_0 l0_0.length c0_0) := (blk_cell BK211.out 0).trans rfl; have hcz48_1 : w45.cell? ⟨gb211, 1, none⟩ = some (.slice (some ad216) l0_1.length c0_1) := (blk_cell BK211.out 1).trans rfl; have hfz48_0 := blk_frozen BK211.out 0; have hfz48_1 := blk_frozen BK211.out 1) | (go_at_call 28; (with_reducible refine (cutroomref36_link.calls k2 _ _ l0_0 _ _ l0_1 ((rd_T39 l0_1 x4_2).f0) t220 _ ?side1 ?side2 ?side3 ?side4 A24.out).mono ?_); (case side1 => exact Kd.C_below HR0_0.out (kB)); (case side2 => exact HC0_0.out); (case side3 => exact Kd.C_below HR0_1.out (kB)); (case side4 => exact HC0_1.out); rintro e w49 ⟨rfl, hb⟩; replace BK211 := cb BK211 hb; replace BK217 := Aside0.mk (blk_below (g := gb217) (o := .cells #[.string ((rd_T39 l0_1 x4_2).f0), .string ((rd_T39 l0_1 x4_2).f1), .int .u64 ((rd_T39 l0_1 x4_2).f2), .string ((rd_T39 l0_1 x4_2).f3)] 39 (0, 0)) (by (with_reducible repeat (first | refine blk_drewN ?_ _ | refine blk_drew ?_ | refine blk_alloc ?_ _)); refine blk_put (cs := #[.string ((rd_T39 l0_1 x4_2).f0), .string ((rd_T39 l0_1 x4_2).f1), .int .u64 ((rd_T39 l0_1 x4_2).f2), .string (⟨#[]⟩ : ByteArray)]) ?_ 3 _ rfl; (with_reducible repeat (first | refine blk_drewN ?_ _ | refine blk_drew ?_ | refine blk_alloc ?_ _)); refine blk_put (cs := #[.string ((rd_T39 l0_1 x4_2).f0), .string ((rd_T39 l0_1 x4_2).f1), .int .u64 0, .string (⟨#[]⟩ : ByteArray)]) ?_ 2 _ rfl; (with_reducible repeat (first | refine blk_drewN ?_ _ | refine blk_drew ?_ | refine blk_alloc ?_ _)); refine blk_put (cs := #[.string ((rd_T39 l0_1 x4_2).f0), .string (⟨#[]⟩ : ByteArray), .int .u64 0, .string (⟨#[]⟩ : ByteArray)]) ?_ 1 _ rfl; (with_reducible repeat (first | refine blk_drewN ?_ _ | refine blk_drew ?_ | refine blk_alloc ?_ _)); refine blk_put (cs := #[.string (⟨#[]⟩ : ByteArray), .string (⟨#[]⟩ : ByteArray), .int .u64 0, .string (⟨#[]⟩ : ByteArray)]) ?_ 0 _ rfl; (with_reducible repeat (first | refine blk_drewN ?_ _ | refine blk_drew ?_ | refine blk_alloc ?_ _)); exact BK217.out) hb); replace HB := cB hb kB; (try clear hb); (try clear hb2); (try clear hk); (try clear hi); have hcz50_0 : w49.cell? ⟨gb217, 0, none⟩ = some (.string ((rd_T39 l0_1 x4_2).f0)) := (blk_cell BK217.out 0).trans rfl; have hcz50_1 : w49.cell? ⟨gb217, 1, none⟩ = some (.string ((rd_T39 l0_1 x4_2).f1)) := (blk_cell BK217.out 1).trans rfl; have hcz50_2 : w49.cell? ⟨gb217, 2, none⟩ = some (.int .u64 ((rd_T39 l0_1 x4_2).f2)) := (blk_cell BK217.out 2).trans rfl; have hcz50_3 : w49.cell? ⟨gb217, 3, none⟩ = some (.string ((rd_T39 l0_1 x4_2).f3)) := (blk_cell BK217.out 3).trans rfl; have hfz50_0 := blk_frozen BK217.out 0; have hfz50_1 := blk_frozen BK217.out 1; have hfz50_2 := blk_frozen BK217.out 2; have hfz50_3 := blk_frozen BK217.out 3) | (go_at_call 26; (with_reducible refine (cutroomref23_ValidName.calls k2 ((rd_T39 l0_1 x4_2).f3) true _ A34.out).mono ?_); rintro e w' ⟨rfl, ⟨nd, rfl⟩⟩))
              go_roundg k2
              case measure => have := HK1.out; have := HK2.out; omega
              case rel => exact ⟨(wrap64 (x4_2 + 1)), (by first | rfl | (simp; done) | (simp [*]; done)), H', ⟨by have := HK1.out; have := HK2.out; omega⟩, ⟨kb BK211⟩, ⟨kB⟩⟩
            ·replace c35 := Bool.eq_false_iff.mpr c35
             subst c35
             have H1 : (some false) = some r := by rw [if_neg (show ¬ (false = true) by decide)] at H; exact H
             clear H
             have H := H1
             clear H1
             obtain rfl := Option.some.inj H
             have hcz51_0 : wr.cell? ⟨gb211, 0, none⟩ = some (.slice A0_0 l0_0.length c0_0) := (blk_cell BK211.out 0).trans rfl
             have hcz51_1 : wr.cell? ⟨gb211, 1, none⟩ = some (.slice A0_1 l0_1.length c0_1) := (blk_cell BK211.out 1).trans rfl
             have hfz51_0 := blk_frozen BK211.out 0
             have hfz51_1 := blk_frozen BK211.out 1
             have p216 : 0 ≤ (x4_2 : Int) := of_decide_eq_true (by first | (with_reducible assumption) | assumption)
             have q216 : x4_2 < (l0_1.length : Int) := of_decide_eq_true (by first | (with_reducible assumption) | assumption)
             obtain ⟨ad216, e216, hx216_0, hx216_1, hx216_2, hx216_3⟩ := at_T39 HR0_1.out x4_2 p216 q216
             cases e216
             replace hx216_0 := (HB.out.cell (World.block_lt_of_cell? w _ hx216_0)).trans hx216_0
             replace hx216_1 := (HB.out.cell (World.block_lt_of_cell? w _ hx216_1)).trans hx216_1
             replace hx216_2 := (HB.out.cell (World.block_lt_of_cell? w _ hx216_2)).trans hx216_2
             replace hx216_3 := (HB.out.cell (World.block_lt_of_cell? w _ hx216_3)).trans hx216_3
             replace p216 := eq_true p216
             replace q216 := eq_true q216
             go_wp2_with (first | ((with_reducible refine gate_dst (N := 5) rfl ?_); (try (refine gate_guard (by rfl) ?_; dsimp only)); refine box_event ?hg (N := 5) ?hd (cs := #[.string (⟨#[]⟩ : ByteArray), .string (⟨#[]⟩ : ByteArray), .int .u64 0, .string (⟨#[]⟩ : ByteArray)]) (t := 39) ?hr ?_; (case hd => rfl); (case hg => rfl); (case hr => first | (go_simp; done) | (go_simp; rfl)); intro gb217 hg w52 hbox hb; have BK217 := Aside0.mk (hbox); have GW217 := gw_ hg kB; have GE217 := gw_ hg kB; have NB211_217 := nb_lt hg BK211; have NB217_211 := nb_gt hg BK211; replace BK211 := cb BK211 hb; replace HB := cB hb kB; clear hb hbox hg; have hnb53 := NB217_211.out; have hnc53 := NB211_217.out; have hcz54_0 : w52.cell? ⟨gb217, 0, none⟩ = some (.string (⟨#[]⟩ : ByteArray)) := (blk_cell BK217.out 0).trans rfl; have hcz54_1 : w52.cell? ⟨gb217, 1, none⟩ = some (.string (⟨#[]⟩ : ByteArray)) := (blk_cell BK217.out 1).trans rfl; have hcz54_2 : w52.cell? ⟨gb217, 2, none⟩ = some (.int .u64 0) := (blk_cell BK217.out 2).trans rfl; have hcz54_3 : w52.cell? ⟨gb217, 3, none⟩ = some (.string (⟨#[]⟩ : ByteArray)) := (blk_cell BK217.out 3).trans rfl; have hfz54_0 := blk_frozen BK217.out 0; have hfz54_1 := blk_frozen BK217.out 1; have hfz54_2 := blk_frozen BK217.out 2; have hfz54_3 := blk_frozen BK217.out 3) | ((with_reducible refine gate_callee (f := 26) rfl ?_); refine goesL_ (some 47) rfl rfl Try.func26 (by kernel_rfl) rfl #[.string ((rd_T39 l0_1 x4_2).f0)] rfl (by (try simp only [List.map_toArray, List.map_cons, List.map_nil]); first | done | rfl | (simp only [List.length_drop, List.length_take]; rfl)) ?_; (with_reducible refine (cutroomref23_ValidName.calls k2 ((rd_T39 l0_1 x4_2).f0) true _ A20.out).mono ?_); rintro e w' ⟨rfl, ⟨nd, rfl⟩⟩; refine ⟨_, rfl, ?_⟩) | (go_at_call 26; (with_reducible refine (cutroomref23_ValidName.calls k2 ((rd_T39 l0_1 x4_2).f1) true _ A22.out).mono ?_); rintro e w' ⟨rfl, ⟨nd, rfl⟩⟩; have hcz55_0 : w52.cell? ⟨gb211, 0, none⟩ = some (.slice A0_0 l0_0.length c0_0) := (blk_cell BK211.out 0).trans rfl; have hcz55_1 : w52.cell? ⟨gb211, 1, none⟩ = some (.slice (some ad216) l0_1.length c0_1) := (blk_cell BK211.out 1).trans rfl; have hfz55_0 := blk_frozen BK211.out 0; have hfz55_1 := blk_frozen BK211.out 1) | (go_at_call 28; (with_reducible refine (cutroomref36_link.calls k2 _ _ l0_0 _ _ l0_1 ((rd_T39 l0_1 x4_2).f0) t220 _ ?side1 ?side2 ?side3 ?side4 A24.out).mono ?_); (case side1 => exact Kd.C_below HR0_0.out (kB)); (case side2 => exact HC0_0.out); (case side3 => exact Kd.C_below HR0_1.out (kB)); (case side4 => exact HC0_1.out); rintro e w56 ⟨rfl, hb⟩; replace BK211 := cb BK211 hb; replace BK217 := Aside0.mk (blk_below (g := gb217) (o := .cells #[.string ((rd_T39 l0_1 x4_2).f0), .string ((rd_T39 l0_1 x4_2).f1), .int .u64 ((rd_T39 l0_1 x4_2).f2), .string ((rd_T39 l0_1 x4_2).f3)] 39 (0, 0)) (by (with_reducible repeat (first | refine blk_drewN ?_ _ | refine blk_drew ?_ | refine blk_alloc ?_ _)); refine blk_put (cs := #[.string ((rd_T39 l0_1 x4_2).f0), .string ((rd_T39 l0_1 x4_2).f1), .int .u64 ((rd_T39 l0_1 x4_2).f2), .string (⟨#[]⟩ : ByteArray)]) ?_ 3 _ rfl; (with_reducible repeat (first | refine blk_drewN ?_ _ | refine blk_drew ?_ | refine blk_alloc ?_ _)); refine blk_put (cs := #[.string ((rd_T39 l0_1 x4_2).f0), .string ((rd_T39 l0_1 x4_2).f1), .int .u64 0, .string (⟨#[]⟩ : ByteArray)]) ?_ 2 _ rfl; (with_reducible repeat (first | refine blk_drewN ?_ _ | refine blk_drew ?_ | refine blk_alloc ?_ _)); refine blk_put (cs := #[.string ((rd_T39 l0_1 x4_2).f0), .string (⟨#[]⟩ : ByteArray), .int .u64 0, .string (⟨#[]⟩ : ByteArray)]) ?_ 1 _ rfl; (with_reducible repeat (first | refine blk_drewN ?_ _ | refine blk_drew ?_ | refine blk_alloc ?_ _)); refine blk_put (cs := #[.string (⟨#[]⟩ : ByteArray), .string (⟨#[]⟩ : ByteArray), .int .u64 0, .string (⟨#[]⟩ : ByteArray)]) ?_ 0 _ rfl; (with_reducible repeat (first | refine blk_drewN ?_ _ | refine blk_drew ?_ | refine blk_alloc ?_ _)); exact BK217.out) hb); replace HB := cB hb kB; (try clear hb); (try clear hb2); (try clear hk); (try clear hi); have hcz57_0 : w56.cell? ⟨gb217, 0, none⟩ = some (.string ((rd_T39 l0_1 x4_2).f0)) := (blk_cell BK217.out 0).trans rfl; have hcz57_1 : w56.cell? ⟨gb217, 1, none⟩ = some (.string ((rd_T39 l0_1 x4_2).f1)) := (blk_cell BK217.out 1).trans rfl; have hcz57_2 : w56.cell? ⟨gb217, 2, none⟩ = some (.int .u64 ((rd_T39 l0_1 x4_2).f2)) := (blk_cell BK217.out 2).trans rfl; have hcz57_3 : w56.cell? ⟨gb217, 3, none⟩ = some (.string ((rd_T39 l0_1 x4_2).f3)) := (blk_cell BK217.out 3).trans rfl; have hfz57_0 := blk_frozen BK217.out 0; have hfz57_1 := blk_frozen BK217.out 1; have hfz57_2 := blk_frozen BK217.out 2; have hfz57_3 := blk_frozen BK217.out 3) | (go_at_call 26; (with_reducible refine (cutroomref23_ValidName.calls k2 ((rd_T39 l0_1 x4_2).f3) false _ A34.out).mono ?_); rintro e w' ⟨rfl, ⟨nd, rfl⟩⟩))
             go_ret
             exact ⟨by first | rfl | (simp [errW_none, errW_some] <;> rfl) | (simp [*, errW_none, errW_some] <;> rfl), kB⟩
          ·rw [if_neg c25] at H
           have c25b0 : (t220 == x4_2) = false := beq_eq_false_iff_ne.mpr c25
           have c25b1 : (t220 != x4_2) = true := bne_iff_ne.mpr c25
           obtain rfl := Option.some.inj H
           have hcz58_0 : wr.cell? ⟨gb211, 0, none⟩ = some (.slice A0_0 l0_0.length c0_0) := (blk_cell BK211.out 0).trans rfl
           have hcz58_1 : wr.cell? ⟨gb211, 1, none⟩ = some (.slice A0_1 l0_1.length c0_1) := (blk_cell BK211.out 1).trans rfl
           have hfz58_0 := blk_frozen BK211.out 0
           have hfz58_1 := blk_frozen BK211.out 1
           have p216 : 0 ≤ (x4_2 : Int) := of_decide_eq_true (by first | (with_reducible assumption) | assumption)
           have q216 : x4_2 < (l0_1.length : Int) := of_decide_eq_true (by first | (with_reducible assumption) | assumption)
           obtain ⟨ad216, e216, hx216_0, hx216_1, hx216_2, hx216_3⟩ := at_T39 HR0_1.out x4_2 p216 q216
           cases e216
           replace hx216_0 := (HB.out.cell (World.block_lt_of_cell? w _ hx216_0)).trans hx216_0
           replace hx216_1 := (HB.out.cell (World.block_lt_of_cell? w _ hx216_1)).trans hx216_1
           replace hx216_2 := (HB.out.cell (World.block_lt_of_cell? w _ hx216_2)).trans hx216_2
           replace hx216_3 := (HB.out.cell (World.block_lt_of_cell? w _ hx216_3)).trans hx216_3
           replace p216 := eq_true p216
           replace q216 := eq_true q216
           go_wp2_with (first | ((with_reducible refine gate_dst (N := 5) rfl ?_); (try (refine gate_guard (by rfl) ?_; dsimp only)); refine box_event ?hg (N := 5) ?hd (cs := #[.string (⟨#[]⟩ : ByteArray), .string (⟨#[]⟩ : ByteArray), .int .u64 0, .string (⟨#[]⟩ : ByteArray)]) (t := 39) ?hr ?_; (case hd => rfl); (case hg => rfl); (case hr => first | (go_simp; done) | (go_simp; rfl)); intro gb217 hg w59 hbox hb; have BK217 := Aside0.mk (hbox); have GW217 := gw_ hg kB; have GE217 := gw_ hg kB; have NB211_217 := nb_lt hg BK211; have NB217_211 := nb_gt hg BK211; replace BK211 := cb BK211 hb; replace HB := cB hb kB; clear hb hbox hg; have hnb60 := NB217_211.out; have hnc60 := NB211_217.out; have hcz61_0 : w59.cell? ⟨gb217, 0, none⟩ = some (.string (⟨#[]⟩ : ByteArray)) := (blk_cell BK217.out 0).trans rfl; have hcz61_1 : w59.cell? ⟨gb217, 1, none⟩ = some (.string (⟨#[]⟩ : ByteArray)) := (blk_cell BK217.out 1).trans rfl; have hcz61_2 : w59.cell? ⟨gb217, 2, none⟩ = some (.int .u64 0) := (blk_cell BK217.out 2).trans rfl; have hcz61_3 : w59.cell? ⟨gb217, 3, none⟩ = some (.string (⟨#[]⟩ : ByteArray)) := (blk_cell BK217.out 3).trans rfl; have hfz61_0 := blk_frozen BK217.out 0; have hfz61_1 := blk_frozen BK217.out 1; have hfz61_2 := blk_frozen BK217.out 2; have hfz61_3 := blk_frozen BK217.out 3) | ((with_reducible refine gate_callee (f := 26) rfl ?_); refine goesL_ (some 47) rfl rfl Try.func26 (by kernel_rfl) rfl #[.string ((rd_T39 l0_1 x4_2).f0)] rfl (by (try simp only [List.map_toArray, List.map_cons, List.map_nil]); first | done | rfl | (simp only [List.length_drop, List.length_take]; rfl)) ?_; (with_reducible refine (cutroomref23_ValidName.calls k2 ((rd_T39 l0_1 x4_2).f0) true _ A20.out).mono ?_); rintro e w' ⟨rfl, ⟨nd, rfl⟩⟩; refine ⟨_, rfl, ?_⟩) | (go_at_call 26; (with_reducible refine (cutroomref23_ValidName.calls k2 ((rd_T39 l0_1 x4_2).f1) true _ A22.out).mono ?_); rintro e w' ⟨rfl, ⟨nd, rfl⟩⟩; have hcz62_0 : w59.cell? ⟨gb211, 0, none⟩ = some (.slice A0_0 l0_0.length c0_0) := (blk_cell BK211.out 0).trans rfl; have hcz62_1 : w59.cell? ⟨gb211, 1, none⟩ = some (.slice (some ad216) l0_1.length c0_1) := (blk_cell BK211.out 1).trans rfl; have hfz62_0 := blk_frozen BK211.out 0; have hfz62_1 := blk_frozen BK211.out 1) | (go_at_call 28; (with_reducible refine (cutroomref36_link.calls k2 _ _ l0_0 _ _ l0_1 ((rd_T39 l0_1 x4_2).f0) t220 _ ?side1 ?side2 ?side3 ?side4 A24.out).mono ?_); (case side1 => exact Kd.C_below HR0_0.out (kB)); (case side2 => exact HC0_0.out); (case side3 => exact Kd.C_below HR0_1.out (kB)); (case side4 => exact HC0_1.out); rintro e w63 ⟨rfl, hb⟩; replace BK211 := cb BK211 hb; replace BK217 := Aside0.mk (blk_below (g := gb217) (o := .cells #[.string ((rd_T39 l0_1 x4_2).f0), .string ((rd_T39 l0_1 x4_2).f1), .int .u64 ((rd_T39 l0_1 x4_2).f2), .string ((rd_T39 l0_1 x4_2).f3)] 39 (0, 0)) (by (with_reducible repeat (first | refine blk_drewN ?_ _ | refine blk_drew ?_ | refine blk_alloc ?_ _)); refine blk_put (cs := #[.string ((rd_T39 l0_1 x4_2).f0), .string ((rd_T39 l0_1 x4_2).f1), .int .u64 ((rd_T39 l0_1 x4_2).f2), .string (⟨#[]⟩ : ByteArray)]) ?_ 3 _ rfl; (with_reducible repeat (first | refine blk_drewN ?_ _ | refine blk_drew ?_ | refine blk_alloc ?_ _)); refine blk_put (cs := #[.string ((rd_T39 l0_1 x4_2).f0), .string ((rd_T39 l0_1 x4_2).f1), .int .u64 0, .string (⟨#[]⟩ : ByteArray)]) ?_ 2 _ rfl; (with_reducible repeat (first | refine blk_drewN ?_ _ | refine blk_drew ?_ | refine blk_alloc ?_ _)); refine blk_put (cs := #[.string ((rd_T39 l0_1 x4_2).f0), .string (⟨#[]⟩ : ByteArray), .int .u64 0, .string (⟨#[]⟩ : ByteArray)]) ?_ 1 _ rfl; (with_reducible repeat (first | refine blk_drewN ?_ _ | refine blk_drew ?_ | refine blk_alloc ?_ _)); refine blk_put (cs := #[.string (⟨#[]⟩ : ByteArray), .string (⟨#[]⟩ : ByteArray), .int .u64 0, .string (⟨#[]⟩ : ByteArray)]) ?_ 0 _ rfl; (with_reducible repeat (first | refine blk_drewN ?_ _ | refine blk_drew ?_ | refine blk_alloc ?_ _)); exact BK217.out) hb); replace HB := cB hb kB; (try clear hb); (try clear hb2); (try clear hk); (try clear hi)))
           go_ret
           exact ⟨by first | rfl | (simp [errW_none, errW_some] <;> rfl) | (simp [*, errW_none, errW_some] <;> rfl), kB⟩
         ·replace c23 := Bool.eq_false_iff.mpr c23
          subst c23
          have H1 : (some false) = some r := by rw [if_neg (show ¬ (false = true) by decide)] at H; exact H
          clear H
          have H := H1
          clear H1
          obtain rfl := Option.some.inj H
          have hcz64_0 : wr.cell? ⟨gb211, 0, none⟩ = some (.slice A0_0 l0_0.length c0_0) := (blk_cell BK211.out 0).trans rfl
          have hcz64_1 : wr.cell? ⟨gb211, 1, none⟩ = some (.slice A0_1 l0_1.length c0_1) := (blk_cell BK211.out 1).trans rfl
          have hfz64_0 := blk_frozen BK211.out 0
          have hfz64_1 := blk_frozen BK211.out 1
          have p216 : 0 ≤ (x4_2 : Int) := of_decide_eq_true (by first | (with_reducible assumption) | assumption)
          have q216 : x4_2 < (l0_1.length : Int) := of_decide_eq_true (by first | (with_reducible assumption) | assumption)
          obtain ⟨ad216, e216, hx216_0, hx216_1, hx216_2, hx216_3⟩ := at_T39 HR0_1.out x4_2 p216 q216
          cases e216
          replace hx216_0 := (HB.out.cell (World.block_lt_of_cell? w _ hx216_0)).trans hx216_0
          replace hx216_1 := (HB.out.cell (World.block_lt_of_cell? w _ hx216_1)).trans hx216_1
          replace hx216_2 := (HB.out.cell (World.block_lt_of_cell? w _ hx216_2)).trans hx216_2
          replace hx216_3 := (HB.out.cell (World.block_lt_of_cell? w _ hx216_3)).trans hx216_3
          replace p216 := eq_true p216
          replace q216 := eq_true q216
          go_wp2_with (first | ((with_reducible refine gate_dst (N := 5) rfl ?_); (try (refine gate_guard (by rfl) ?_; dsimp only)); refine box_event ?hg (N := 5) ?hd (cs := #[.string (⟨#[]⟩ : ByteArray), .string (⟨#[]⟩ : ByteArray), .int .u64 0, .string (⟨#[]⟩ : ByteArray)]) (t := 39) ?hr ?_; (case hd => rfl); (case hg => rfl); (case hr => first | (go_simp; done) | (go_simp; rfl)); intro gb217 hg w65 hbox hb; have BK217 := Aside0.mk (hbox); have GW217 := gw_ hg kB; have GE217 := gw_ hg kB; have NB211_217 := nb_lt hg BK211; have NB217_211 := nb_gt hg BK211; replace BK211 := cb BK211 hb; replace HB := cB hb kB; clear hb hbox hg; have hnb66 := NB217_211.out; have hnc66 := NB211_217.out; have hcz67_0 : w65.cell? ⟨gb217, 0, none⟩ = some (.string (⟨#[]⟩ : ByteArray)) := (blk_cell BK217.out 0).trans rfl; have hcz67_1 : w65.cell? ⟨gb217, 1, none⟩ = some (.string (⟨#[]⟩ : ByteArray)) := (blk_cell BK217.out 1).trans rfl; have hcz67_2 : w65.cell? ⟨gb217, 2, none⟩ = some (.int .u64 0) := (blk_cell BK217.out 2).trans rfl; have hcz67_3 : w65.cell? ⟨gb217, 3, none⟩ = some (.string (⟨#[]⟩ : ByteArray)) := (blk_cell BK217.out 3).trans rfl; have hfz67_0 := blk_frozen BK217.out 0; have hfz67_1 := blk_frozen BK217.out 1; have hfz67_2 := blk_frozen BK217.out 2; have hfz67_3 := blk_frozen BK217.out 3) | ((with_reducible refine gate_callee (f := 26) rfl ?_); refine goesL_ (some 47) rfl rfl Try.func26 (by kernel_rfl) rfl #[.string ((rd_T39 l0_1 x4_2).f0)] rfl (by (try simp only [List.map_toArray, List.map_cons, List.map_nil]); first | done | rfl | (simp only [List.length_drop, List.length_take]; rfl)) ?_; (with_reducible refine (cutroomref23_ValidName.calls k2 ((rd_T39 l0_1 x4_2).f0) true _ A20.out).mono ?_); rintro e w' ⟨rfl, ⟨nd, rfl⟩⟩; refine ⟨_, rfl, ?_⟩) | (go_at_call 26; (with_reducible refine (cutroomref23_ValidName.calls k2 ((rd_T39 l0_1 x4_2).f1) false _ A22.out).mono ?_); rintro e w' ⟨rfl, ⟨nd, rfl⟩⟩))
          go_ret
          exact ⟨by first | rfl | (simp [errW_none, errW_some] <;> rfl) | (simp [*, errW_none, errW_some] <;> rfl), kB⟩
        ·replace c21 := Bool.eq_false_iff.mpr c21
         subst c21
         have H1 : (some false) = some r := by rw [if_neg (show ¬ (false = true) by decide)] at H; exact H
         clear H
         have H := H1
         clear H1
         obtain rfl := Option.some.inj H
         have hcz68_0 : wr.cell? ⟨gb211, 0, none⟩ = some (.slice A0_0 l0_0.length c0_0) := (blk_cell BK211.out 0).trans rfl
         have hcz68_1 : wr.cell? ⟨gb211, 1, none⟩ = some (.slice A0_1 l0_1.length c0_1) := (blk_cell BK211.out 1).trans rfl
         have hfz68_0 := blk_frozen BK211.out 0
         have hfz68_1 := blk_frozen BK211.out 1
         have p216 : 0 ≤ (x4_2 : Int) := of_decide_eq_true (by first | (with_reducible assumption) | assumption)
         have q216 : x4_2 < (l0_1.length : Int) := of_decide_eq_true (by first | (with_reducible assumption) | assumption)
         obtain ⟨ad216, e216, hx216_0, hx216_1, hx216_2, hx216_3⟩ := at_T39 HR0_1.out x4_2 p216 q216
         cases e216
         replace hx216_0 := (HB.out.cell (World.block_lt_of_cell? w _ hx216_0)).trans hx216_0
         replace hx216_1 := (HB.out.cell (World.block_lt_of_cell? w _ hx216_1)).trans hx216_1
         replace hx216_2 := (HB.out.cell (World.block_lt_of_cell? w _ hx216_2)).trans hx216_2
         replace hx216_3 := (HB.out.cell (World.block_lt_of_cell? w _ hx216_3)).trans hx216_3
         replace p216 := eq_true p216
         replace q216 := eq_true q216
         go_wp2_with (first | ((with_reducible refine gate_dst (N := 5) rfl ?_); (try (refine gate_guard (by rfl) ?_; dsimp only)); refine box_event ?hg (N := 5) ?hd (cs := #[.string (⟨#[]⟩ : ByteArray), .string (⟨#[]⟩ : ByteArray), .int .u64 0, .string (⟨#[]⟩ : ByteArray)]) (t := 39) ?hr ?_; (case hd => rfl); (case hg => rfl); (case hr => first | (go_simp; done) | (go_simp; rfl)); intro gb217 hg w69 hbox hb; have BK217 := Aside0.mk (hbox); have GW217 := gw_ hg kB; have GE217 := gw_ hg kB; have NB211_217 := nb_lt hg BK211; have NB217_211 := nb_gt hg BK211; replace BK211 := cb BK211 hb; replace HB := cB hb kB; clear hb hbox hg; have hnb70 := NB217_211.out; have hnc70 := NB211_217.out; have hcz71_0 : w69.cell? ⟨gb217, 0, none⟩ = some (.string (⟨#[]⟩ : ByteArray)) := (blk_cell BK217.out 0).trans rfl; have hcz71_1 : w69.cell? ⟨gb217, 1, none⟩ = some (.string (⟨#[]⟩ : ByteArray)) := (blk_cell BK217.out 1).trans rfl; have hcz71_2 : w69.cell? ⟨gb217, 2, none⟩ = some (.int .u64 0) := (blk_cell BK217.out 2).trans rfl; have hcz71_3 : w69.cell? ⟨gb217, 3, none⟩ = some (.string (⟨#[]⟩ : ByteArray)) := (blk_cell BK217.out 3).trans rfl; have hfz71_0 := blk_frozen BK217.out 0; have hfz71_1 := blk_frozen BK217.out 1; have hfz71_2 := blk_frozen BK217.out 2; have hfz71_3 := blk_frozen BK217.out 3) | ((with_reducible refine gate_callee (f := 26) rfl ?_); refine goesL_ (some 47) rfl rfl Try.func26 (by kernel_rfl) rfl #[.string ((rd_T39 l0_1 x4_2).f0)] rfl (by (try simp only [List.map_toArray, List.map_cons, List.map_nil]); first | done | rfl | (simp only [List.length_drop, List.length_take]; rfl)) ?_; (with_reducible refine (cutroomref23_ValidName.calls k2 ((rd_T39 l0_1 x4_2).f0) false _ A20.out).mono ?_); rintro e w' ⟨rfl, ⟨nd, rfl⟩⟩; refine ⟨_, rfl, ?_⟩))
         go_ret
         exact ⟨by first | rfl | (simp [errW_none, errW_some] <;> rfl) | (simp [*, errW_none, errW_some] <;> rfl), kB⟩
       ·rw [if_neg c19] at H
        exact absurd H (by simp)
      ·rw [if_neg c18] at H
       have c18b0 : decide (x4_2 < (l0_1.length : Int)) = false := decide_eq_false c18
       clear c18
       by_cases c72 : (l0_0.length : Int) ≤ 32
       ·rw [if_pos c72] at H
        have c72b0 : decide ((l0_0.length : Int) ≤ 32) = true := decide_eq_true c72
        have c72b1 : decide (l0_0.length ≤ 32) = true := decide_eq_true (by omega)
        clear c72
        obtain rfl := Option.some.inj H
        have hcz73_0 : wr.cell? ⟨gb211, 0, none⟩ = some (.slice A0_0 l0_0.length c0_0) := (blk_cell BK211.out 0).trans rfl
        have hcz73_1 : wr.cell? ⟨gb211, 1, none⟩ = some (.slice A0_1 l0_1.length c0_1) := (blk_cell BK211.out 1).trans rfl
        have hfz73_0 := blk_frozen BK211.out 0
        have hfz73_1 := blk_frozen BK211.out 1
        go_wp2
        go_ret
        exact ⟨by first | rfl | (simp [errW_none, errW_some] <;> rfl) | (simp [*, errW_none, errW_some] <;> rfl), kB⟩
       ·rw [if_neg c72] at H
        have c72b0 : decide ((l0_0.length : Int) ≤ 32) = false := decide_eq_false c72
        have c72b1 : decide (l0_0.length ≤ 32) = false := decide_eq_false (by omega)
        clear c72
        obtain rfl := Option.some.inj H
        have hcz74_0 : wr.cell? ⟨gb211, 0, none⟩ = some (.slice A0_0 l0_0.length c0_0) := (blk_cell BK211.out 0).trans rfl
        have hcz74_1 : wr.cell? ⟨gb211, 1, none⟩ = some (.slice A0_1 l0_1.length c0_1) := (blk_cell BK211.out 1).trans rfl
        have hfz74_0 := blk_frozen BK211.out 0
        have hfz74_1 := blk_frozen BK211.out 1
        go_wp2
        go_ret
        exact ⟨by first | rfl | (simp [errW_none, errW_some] <;> rfl) | (simp [*, errW_none, errW_some] <;> rfl), kB⟩
end Go.Proofs.Ytpnhkmicepmciaa.Y

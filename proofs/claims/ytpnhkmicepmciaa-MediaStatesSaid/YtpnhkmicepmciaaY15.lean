/- A part of this claim's walks: functions' contracts, or plain lemmas; conditions: each one's own. -/
import Derived.Test.YtpnhkmicepmciaaY0
import Derived.Test.YtpnhkmicepmciaaY4
import Derived.Test.YtpnhkmicepmciaaY5
import Derived.Test.YtpnhkmicepmciaaY8
import Derived.Test.YtpnhkmicepmciaaY10
import Derived.Test.YtpnhkmicepmciaaY11
import Derived.Test.YtpnhkmicepmciaaY12
import Derived.Test.YtpnhkmicepmciaaY13
import Derived.Test.YtpnhkmicepmciaaY14
import Derived.Test.YtpnhkmicepmciaaPar
namespace Go.Proofs.Ytpnhkmicepmciaa.Y
open Go.RowKit Go.Proofs.YtpnhkmicepmciaaW.PrintWords Go.Proofs.YtpnhkmicepmciaaW.PrintLast Go.Proofs.YtpnhkmicepmciaaW.PrintMore Go.Proofs.Ytpnhkmicepmciaa.Par
attribute [local go_sem] max2_int min2_int max_two min_two max_three min_three max_four min_four   -- for this text's walks alone
set_option linter.unusedVariables false
set_option linter.unusedSimpArgs false
theorem wrap_nat (i n : Nat) (h : i < n) (hn : n ≤ 9223372036854775807) : wrap64 ((i : Int) + 1) = ((i + 1 : Nat) : Int) := by
 unfold wrap64
 omega
theorem firstAt_cons {α : Type} (p : α → Bool) (a : α) (l : List α) : firstAt p (a :: l) = if p a = true then 0 else if firstAt p l = -1 then -1 else firstAt p l + 1 := by
 by_cases h : p a = true
 ·rw [if_pos h]
  unfold firstAt
  rw [List.findIdx?_cons, h]
  rfl
 ·have h' : p a = false := by simpa using h
  rw [if_neg h]
  unfold firstAt
  rw [List.findIdx?_cons, h']
  cases hx : l.findIdx? p with
  | none => rfl
  | some i =>
   show ((i + 1 : Nat) : Int) = if (i : Int) = -1 then -1 else (i : Int) + 1
   rw [if_neg (by omega)]
   omega
theorem firstAt_drop {α : Type} (p : α → Bool) (l : List α) (i : Nat) (hi : i < l.length) : (if firstAt p (l.drop i) = -1 then -1 else firstAt p (l.drop i) + i : Int) = if p (l[i]'hi) = true then (i : Int) else if firstAt p (l.drop (i + 1)) = -1 then -1 else firstAt p (l.drop (i + 1)) + ((i + 1 : Nat) : Int) := by
 rw [List.drop_eq_getElem_cons hi, firstAt_cons]
 have h := firstAt_range p (l.drop (i + 1))
 by_cases hp : p (l[i]'hi) = true
 ·rw [if_pos hp, if_pos hp, if_neg (by omega)]
  omega
 ·rw [if_neg hp, if_neg hp]
  by_cases hq : firstAt p (l.drop (i + 1)) = -1
  ·rw [if_pos hq, if_pos rfl, if_pos hq]
  ·rw [if_neg hq, if_neg (by omega)]
   push_cast
   omega
theorem refFile_l (fs : List S37) (ls : List S39) (f : ByteArray) (hlen : fs.length ≤ 9223372036854775807) : ∀ n i : Nat, i + n = fs.length → cutroomref36_file.l0 (n + 1) f (i : Int) fs ls = some (if firstAt (fun x : S37 => x.f0.toList == f.toList) (fs.drop i) = -1 then -1 else firstAt (fun x : S37 => x.f0.toList == f.toList) (fs.drop i) + i)
 | 0, i, h => by
  unfold cutroomref36_file.l0
  rw [if_neg (by omega), List.drop_of_length_le (by omega)]
  rfl
 | n + 1, i, h => by
  have hi : i < fs.length := by omega
  unfold cutroomref36_file.l0
  rw [if_pos (by omega), if_pos (by omega), firstAt_drop _ _ _ hi, rdFile _ _ hi, wrap_nat i fs.length hi hlen, refFile_l fs ls f hlen n (i + 1) (by omega)]
  by_cases hx : (fs[i]'hi).f0.toList = f.toList
  ·rw [if_pos hx, if_pos (show ((fs[i]'hi).f0.toList == f.toList) = true from by simpa using hx)]
  ·rw [if_neg hx, if_neg (show ¬ ((fs[i]'hi).f0.toList == f.toList) = true from by simpa using hx)]
theorem refFile_f (fs : List S37) (ls : List S39) (f : ByteArray) (hlen : fs.length ≤ 9223372036854775807) : cutroomref36_file.f (fs.length + 1) fs ls f = some (fileV fs f) := by
 unfold cutroomref36_file.f
 have h := refFile_l fs ls f hlen fs.length 0 (by omega)
 rw [List.drop_zero] at h
 rw [show (0 : Int) = ((0 : Nat) : Int) from rfl, h]
 unfold fileV
 split
 ·rename_i h1; rw [h1]
 ·simp
theorem refLink_l (fs : List S37) (ls : List S39) (f : ByteArray) (hlen : ls.length ≤ 9223372036854775807) : ∀ n i : Nat, i + n = ls.length → cutroomref36_link.l0 (n + 1) f (i : Int) fs ls = some (if firstAt (fun x : S39 => x.f0.toList == f.toList) (ls.drop i) = -1 then -1 else firstAt (fun x : S39 => x.f0.toList == f.toList) (ls.drop i) + i)
 | 0, i, h => by
  unfold cutroomref36_link.l0
  rw [if_neg (by omega), List.drop_of_length_le (by omega)]
  rfl
 | n + 1, i, h => by
  have hi : i < ls.length := by omega
  unfold cutroomref36_link.l0
  rw [if_pos (by omega), if_pos (by omega), firstAt_drop _ _ _ hi, rdLink _ _ hi, wrap_nat i ls.length hi hlen, refLink_l fs ls f hlen n (i + 1) (by omega)]
  by_cases hx : (ls[i]'hi).f0.toList = f.toList
  ·rw [if_pos hx, if_pos (show ((ls[i]'hi).f0.toList == f.toList) = true from by simpa using hx)]
  ·rw [if_neg hx, if_neg (show ¬ ((ls[i]'hi).f0.toList == f.toList) = true from by simpa using hx)]
theorem refLink_f (fs : List S37) (ls : List S39) (f : ByteArray) (hlen : ls.length ≤ 9223372036854775807) : cutroomref36_link.f (ls.length + 1) fs ls f = some (linkV ls f) := by
 unfold cutroomref36_link.f
 have h := refLink_l fs ls f hlen ls.length 0 (by omega)
 rw [List.drop_zero] at h
 rw [show (0 : Int) = ((0 : Nat) : Int) from rfl, h]
 unfold linkV
 split
 ·rename_i h1; rw [h1]
 ·simp
theorem StIs.len1 {w0 W : World} {g : Nat} {A0 A1 : Option Addr} {c0 c1 : Nat} {fs : List S37} {ls : List S39} (h : StIs w0 W g A0 c0 A1 c1 fs ls) : ls.length ≤ 9223372036854775807 := (Kd.R_reads' h.2.2.1).2.2.2.1
theorem presentV_here (fs : List S37) (f : ByteArray) (h : presentV fs f ≠ -1) : presentV fs f = fileV fs f := by
 unfold presentV at h ⊢
 split at h
 ·exact absurd rfl h
 ·rename_i h1; rw [if_neg h1]; split at h
  ·rename_i h2; rw [if_pos h2]
  ·exact absurd rfl h
theorem fileV_range (fs : List S37) (f : ByteArray) : fileV fs f = -1 ∨ (0 ≤ fileV fs f ∧ fileV fs f < fs.length) := firstAt_range _ fs
set_option maxHeartbeats 4000000 in
set_option maxRecDepth 100000 in
theorem change_calls (g : Nat) (k : Int) (m f p : ByteArray) (s : Int) (fs : List S37) (ls : List S39) (res : Int × List S37 × List S39) (w0 w : World) (hS : StAt w0 w g fs ls) (hf32 : fs.length ≤ 32) (hl16 : ls.length ≤ 16) (hres : res = stepF k m f p s fs ls) :
  Calls Try.prog 37 #[.pointer (some ⟨g, 0, none⟩), .agg #[.int .i64 k, .string m, .string f, .string p, .int .u64 s]] w fun e w' => e = .returned (.int .i64 res.1) ∧ StAt w0 w' g res.2.1 res.2.2 := by
 obtain ⟨A0, c0, A1, c1, hs⟩ := hS
 have HRES := Aside0.mk hres
 have HS := Aside0.mk hs
 have hlg : g < w.heap.size := blk_lt hs.1
 have hu30 := Try.underlying30
 have hu45 := Try.underlying45
 have hc0 := hs.cells.1
 have hc1 := hs.cells.2
 have n0 := World.new_ne w ⟨g, 0, none⟩ hc0
 clear hres hs
 go_enter Try.func37, Try.ntmps37
 go_wp2
 obtain ⟨bx, hbx⟩ : ∃ bx, bx = w.heap.size := ⟨_, rfl⟩
 obtain ⟨w2, hw2⟩ : ∃ w2, w2 = w.alloc (.cells #[.int .i64 k, .string m, .string f, .string p, .int .u64 s] 45) := ⟨_, rfl⟩
 have XK2 := Aside0.mk (show w2.heap[bx]? = some (.cells #[.int .i64 k, .string m, .string f, .string p, .int .u64 s] 45 (0, 0)) by rw [hw2, hbx]; exact blk_new _ _)
 have HS2 := Aside0.mk (show StIs w0 w2 g A0 c0 A1 c1 fs ls from HS.out.below (by rw [hw2]; exact (Below.refl _ _).alloc (Nat.le_refl _) _))
 rw [← hw2, ← hbx]
 clear hw2 hbx hc0 hc1 n0 HS
 refine start_ (n := 14) (S := fun w' => w'.cell? ⟨g, 0, none⟩ = some (.slice A0 fs.length c0) ∧ w'.cell? ⟨g, 1, none⟩ = some (.slice A1 ls.length c1) ∧ w'.cell? ⟨bx, 1, none⟩ = some (.string m) ∧ w'.cell? ⟨bx, 2, none⟩ = some (.string f)) (ds := []) #[false, false, false, false, false, false, false, false, false, false, false, false, false, false] (by kernel_rfl) rfl rfl ⟨(HS2.out.drew.cells.1), (HS2.out.drew.cells.2), ((blk_cell (blk_drew XK2.out) 1).trans rfl), ((blk_cell (blk_drew XK2.out) 2).trans rfl)⟩ (fun hHeld => ?_)
 generalize hw3 : w2.drew = w3 at hHeld ⊢
 have HB3 : Below w2.heap.size w2 w3 := hw3 ▸ below_drew (Below.refl _ _)
 have XK3 := Aside0.mk (blk_below XK2.out HB3)
 have HS3 := Aside0.mk (HS2.out.below HB3)
 clear hw3 HB3
 refine plan_ [(0, 8, false), (1, 9, false), (3, 11, false), (6, 14, false), (7, 15, false), (9, 17, false), (2, 10, true), (4, 12, true), (8, 16, true), (10, 18, true)] ?_
 repeat (first
  | (
   refine plan_pure (v := ?_) (a' := ?_) rfl rfl (by kernel_rfl) (Or.inl ⟨by rfl, ?_⟩) ?_ ?_ (fun _ _ _ h => h)
   rotate_left
   ·intro w'
    go_simp
    with_reducible rfl
   rotate_left
   ·simp only [Act.put, List.setIfInBounds_toArray, List.set_cons_zero, List.set_cons_succ, i64_w, i32_w]
    rfl)
  | (
   refine plan_take (v := ?_) (a' := ?_) rfl rfl (by kernel_rfl) (Or.inl ⟨by rfl, ?_⟩) hHeld ?_ ?_ (fun _ _ _ h => h)
   rotate_left
   ·rintro w' ⟨s0, s1, s2, s3⟩
    go_simp
    with_reducible rfl
   rotate_left
   ·simp only [Act.put, List.setIfInBounds_toArray, List.set_cons_zero, List.set_cons_succ, i64_w, i32_w]
    rfl))
 refine plan_end ?_
 refine one_ (i := 5) (N := some 13) #[true, true, true, true, true, true, true, true, true, true, true, false, false, false] rfl rfl (by kernel_rfl) (by decide) (fun K hK => ?_)
 refine goes_ Try.func28 (by kernel_rfl) rfl #[.agg #[.slice A0 fs.length c0, .slice A1 ls.length c1], .string m] (by rfl) rfl rfl (by (try simp only [List.map_toArray, List.map_cons, List.map_nil]); first | done | rfl) ?_
 have RD := HS3.out.reads
 with_reducible refine (cutroomref36_link.calls (ls.length + 1) _ _ fs _ _ ls m _ _ RD.1 RD.2.1 RD.2.2.1 RD.2.2.2 (refLink_f fs ls m HS3.out.len1)).mono ?_
 rintro e w4 ⟨rfl, hb⟩
 refine ⟨_, rfl, ?_⟩
 have XK4 := Aside0.mk (blk_below XK3.out hb)
 have HS4 := Aside0.mk (HS3.out.below hb)
 clear hb RD
 refine hK.out _ _ ⟨HS4.out.cells.1, HS4.out.cells.2, ((blk_cell XK4.out 1).trans rfl), ((blk_cell XK4.out 2).trans rfl)⟩ (fun hHeld => ?_)
 clear hK K
 refine norm_ (a' := ?_) ?_ ?_
 rotate_left
 ·show Act.put _ (some 13) _ = _
  simp only [Act.put, List.setIfInBounds_toArray, List.set_cons_zero, List.set_cons_succ, i64_w, i32_w]
  rfl
 refine one_ (i := 11) (N := some 19) #[true, true, true, true, true, true, true, true, true, true, true, true, false, false] rfl rfl (by kernel_rfl) (by decide) (fun K hK => ?_)
 refine goes_ Try.func27 (by kernel_rfl) rfl #[.agg #[.slice A0 fs.length c0, .slice A1 ls.length c1], .string f] (by rfl) rfl rfl (by (try simp only [List.map_toArray, List.map_cons, List.map_nil]); first | done | rfl) ?_
 have RD := HS4.out.reads
 with_reducible refine (cutroomref36_file.calls (fs.length + 1) _ _ fs _ _ ls f _ _ RD.1 RD.2.1 RD.2.2.1 RD.2.2.2 (refFile_f fs ls f HS4.out.len0)).mono ?_
 rintro e w5 ⟨rfl, hb⟩
 refine ⟨_, rfl, ?_⟩
 have XK5 := Aside0.mk (blk_below XK4.out hb)
 have HS5 := Aside0.mk (HS4.out.below hb)
 clear hb RD
 refine hK.out _ _ ⟨HS5.out.cells.1, HS5.out.cells.2, ((blk_cell XK5.out 1).trans rfl), ((blk_cell XK5.out 2).trans rfl)⟩ (fun hHeld => ?_)
 clear hK K
 refine norm_ (a' := ?_) ?_ ?_
 rotate_left
 ·show Act.put _ (some 19) _ = _
  simp only [Act.put, List.setIfInBounds_toArray, List.set_cons_zero, List.set_cons_succ, i64_w, i32_w]
  rfl
 refine plan_ [(12, 5, false), (13, 6, false)] ?_
 repeat (
  refine plan_pure (v := ?_) (a' := ?_) rfl rfl (by kernel_rfl) (Or.inl ⟨by rfl, ?_⟩) ?_ ?_ (fun _ _ _ h => h)
  rotate_left
  ·intro w'
   go_simp
   with_reducible rfl
  rotate_left
  ·simp only [Act.put, List.setIfInBounds_toArray, List.set_cons_zero, List.set_cons_succ, i64_w, i32_w]
   rfl)
 refine plan_end ?_
 refine done_ (by kernel_rfl) ?_
 clear hHeld
 unfold stepF at HRES
 have HKR := Aside0.mk (fileV_range fs f)
 have HL := Aside0.mk (linkV_range ls m)
 go_upto_region 2 with (fail)
 go_cut [7] (fun s7 wc => s7 = .bool (decide (presentV fs f ≠ -1)) ∧ Aside0 (wc.heap[bx]? = some (.cells #[.int .i64 k, .string m, .string f, .string p, .int .u64 s] 45 (0, 0))) ∧ Aside0 (StIs w0 wc g A0 c0 A1 c1 fs ls))
 case first =>
  by_cases hk : fileV fs f = -1
  ·have b0 : decide (0 ≤ fileV fs f) = false := decide_eq_false (by omega)
   go_wp2
   go_meet
   case rel => exact ⟨by rw [decide_eq_false (by unfold presentV; rw [if_pos hk]; simp)], XK5, HS5⟩
  ·have hkr := HKR.out.resolve_left hk
   have b0 : decide (0 ≤ fileV fs f) = true := decide_eq_true hkr.1
   have hpv : decide (presentV fs f ≠ -1) = (rd_T37 fs (fileV fs f)).f2 := by
    unfold presentV
    rw [if_neg hk]
    cases (rd_T37 fs (fileV fs f)).f2
    ·rfl
    ·exact decide_eq_true hk
   obtain ⟨ga, rfl⟩ := HS5.out.form0 (by omega)
   have hc0 := HS5.out.cells.1
   have n0 := World.new_ne w5 ⟨g, 0, none⟩ hc0
   have hcf : w5.cell? ⟨ga, (fileV fs f).toNat * 3 + 2, none⟩ = some (.bool (rd_T37 fs (fileV fs f)).f2) := by
    obtain ⟨ad, hA, _, _, h⟩ := at_T37 HS5.out.reads.1 (fileV fs f) hkr.1 hkr.2
    cases hA
    rw [add_plain] at h
    exact h
   have p0 := eq_true hkr.1
   have q0 := eq_true hkr.2
   go_wp2
   go_meet
   case rel => exact ⟨by rw [hpv], XK5, HS5⟩
 case rest =>
  obtain ⟨rfl, XK6, HS6⟩ := hcut
  obtain ⟨w6, hw6⟩ : ∃ w', w' = wc := ⟨_, rfl⟩
  rw [← hw6] at XK6 HS6 ⊢
  clear hw6
  have hx0 : w6.cell? ⟨bx, 0, none⟩ = some (.int .i64 k) := (blk_cell XK6.out 0).trans rfl
  have hx1 : w6.cell? ⟨bx, 1, none⟩ = some (.string m) := (blk_cell XK6.out 1).trans rfl
  have hx3 : w6.cell? ⟨bx, 3, none⟩ = some (.string p) := (blk_cell XK6.out 3).trans rfl
  have hc0 := HS6.out.cells.1
  have hc1 := HS6.out.cells.2
  have n0 := World.new_ne w6 ⟨g, 0, none⟩ hc0
  obtain ⟨here, hhere⟩ : ∃ b, b = decide (presentV fs f ≠ -1) := ⟨_, rfl⟩
  rw [← hhere]
  have HH := Aside0.mk hhere
  clear hhere XK5 HS5
  by_cases h1 : k = 1
  ·have b1 : (k == 1) = true := beq_iff_eq.2 h1
   have H1 := HRES.out.trans (if_pos h1)
   have H2 := Aside0.mk H1
   clear H1 HRES h1
   by_cases hk : fileV fs f = -1
   ·have b0 : decide (0 ≤ fileV fs f) = false := decide_eq_false (by omega)
    have hk' : firstAt (fun x : S37 => x.f0.toList == f.toList) fs = -1 := hk
    by_cases h32 : 32 ≤ fs.length
    ·have bl : ((fs.length : Int) == 32) = true := beq_iff_eq.2 (by omega)
     obtain rfl : res = (18, fs, ls) := by rw [H2.out]; unfold arriveF; rw [if_pos hk', if_pos h32]
     clear hk'
     go_wp2
     go_ret
     exact ⟨rfl, HS6.out.at_⟩
    ·have bl : ((fs.length : Int) == 32) = false := beq_eq_false_iff_ne.2 (by omega)
     obtain rfl : res = (0, fs ++ [⟨f, s, true⟩], ls) := by rw [H2.out]; unfold arriveF; rw [if_pos hk', if_neg h32]
     clear hk'
     go_wp2
     refine start_ (n := 15) (S := fun w' => w'.cell? ⟨g, 0, none⟩ = some (.slice A0 fs.length c0) ∧ w'.cell? ⟨bx, 2, none⟩ = some (.string f) ∧ w'.cell? ⟨bx, 4, none⟩ = some (.int .u64 s)) (ds := [14]) #[false, false, false, false, false, false, false, false, false, false, false, false, false, false, false] (by kernel_rfl) rfl rfl ⟨(HS6.out.drew.cells.1), ((blk_cell (blk_drew XK6.out) 2).trans rfl), ((blk_cell (blk_drew XK6.out) 4).trans rfl)⟩ (fun hHeld => ?_)
     generalize hw7 : w6.drew = w7 at hHeld ⊢
     have HB7 : Below w6.heap.size w6 w7 := hw7 ▸ below_drew (Below.refl _ _)
     have XK7 := Aside0.mk (blk_below XK6.out HB7)
     have HS7 := Aside0.mk (HS6.out.below HB7)
     clear hw7 HB7
     have HC0 := Aside0.mk hHeld.1
     have HC1 := Aside0.mk hHeld.2.1
     have HC2 := Aside0.mk hHeld.2.2
     have HF := Aside0.mk (blk_frozen HS7.out.1 0)
     have HNE := Aside0.mk (Kd.R_ne HS7.out.2.1 HS7.out.1 (by decide))
     have HNX := Aside0.mk (Kd.R_ne HS7.out.2.1 XK7.out (by decide))
     have LG := Aside0.mk (blk_lt HS7.out.1)
     have LX := Aside0.mk (blk_lt XK7.out)
     refine plan_ [(0, 60, false), (1, 61, false), (2, 62, false), (3, 63, false), (5, 65, false), (7, 67, false), (4, 64, true), (6, 66, true), (8, 68, true), (9, 69, false)] ?_
     repeat (first
      | (
       refine plan_pure (v := ?_) (a' := ?_) rfl rfl (by kernel_rfl) (Or.inl ⟨by rfl, ?_⟩) ?_ ?_ (fun _ _ _ h => h)
       rotate_left
       ·intro w'
        go_simp
        with_reducible rfl
       rotate_left
       ·simp only [Act.put, List.setIfInBounds_toArray, List.set_cons_zero, List.set_cons_succ, i64_w, i32_w]
        rfl)
      | (
       refine plan_take (v := ?_) (a' := ?_) rfl rfl (by kernel_rfl) (Or.inl ⟨by rfl, ?_⟩) hHeld ?_ ?_ (fun _ _ _ h => h)
       rotate_left
       ·rintro w' ⟨s0, s1, s2⟩
        go_simp
        with_reducible rfl
       rotate_left
       ·simp only [Act.put, List.setIfInBounds_toArray, List.set_cons_zero, List.set_cons_succ, i64_w, i32_w]
        rfl))
     refine plan_end ?_
     refine one_ (i := 10) (N := some 70) #[true, true, true, true, true, true, true, true, true, true, true, false, false, false, false] rfl rfl (by kernel_rfl) (by decide) (fun K hK => ?_)
     refine value_ (w1 := ?_) (v := ?_) (by rfl) rfl ?_ ?_
     rotate_left 2
     ·go_simp
      constructor
      ·rfl
      ·rfl
     refine hK.out _ _ ⟨(pw_cell_below (below_alloc (Below.refl _ _) _) HC0.out), (pw_cell_below (below_alloc (Below.refl _ _) _) HC1.out), (pw_cell_below (below_alloc (Below.refl _ _) _) HC2.out)⟩ (fun hHeld => ?_)
     clear hK K
     refine norm_ (a' := ?_) ?_ ?_
     rotate_left
     ·show Act.put _ (some 70) _ = _
      simp only [Act.put, List.setIfInBounds_toArray, List.set_cons_zero, List.set_cons_succ, i64_w, i32_w]
      rfl
     refine one_ (i := 11) (N := some 71) #[true, true, true, true, true, true, true, true, true, true, true, true, false, false, false] rfl rfl (by kernel_rfl) (by decide) (fun K hK => ?_)
     refine Kd.R_append_step (w0 := w0) k37 w0.heap.size (by rfl) (.tmp 64) (.tmp 70) 27 37 (.agg #[.string ⟨#[]⟩, .int .u64 0, .bool false]) 32 rfl Try.underlying27 info37 rfl (by decide) (by omega) (.slice A0 fs.length c0) fs ⟨f, s, true⟩ [.string f, .int .u64 s, .bool true] (fun _ => True) (fun _ => False) rfl rfl ?aP (fun _ hk => hk.elim) (fun _ _ => trivial) ?aO ?aB ?aS ?aL ?_
     (case aP => exact k37_mkM ..)
     (case aO => exact HS7.out.2.1)
     (case aB => exact HS7.out.2.2.2.1)
     (case aS => exact HS7.out.2.2.2.1.size)
     (case aL => omega)
     intro v1 w8 ho hb1 hg1 hat1
     obtain ⟨Ap, cp, rfl⟩ := Kd.R_slice ho
     have BK8 := Aside0.mk (blk_grown HS7.out.1 hg1 HNE.out)
     have hcp : w8.cell? ⟨g, 0, none⟩ = some (.slice A0 fs.length c0) := (hg1.cell_far _ (by exact LG.out) (by exact HNE.out)).trans HS7.out.cells.1
     have hfp : w8.frozen? ⟨g, 0, none⟩ = false := (hg1.frozen_far _ (by exact LG.out) (by exact HNE.out)).trans HF.out
     refine hK.out _ _ ⟨hcp, ((hg1.cell_far _ (by exact LX.out) (by exact HNX.out)).trans HC1.out), ((hg1.cell_far _ (by exact LX.out) (by exact HNX.out)).trans HC2.out)⟩ (fun hHeld => ?_)
     clear hK K
     refine norm_ (a' := ?_) ?_ ?_
     rotate_left
     ·show Act.put _ (some 71) _ = _
      simp only [Act.put, List.setIfInBounds_toArray, List.set_cons_zero, List.set_cons_succ, i64_w, i32_w]
      rfl
     refine plan_ [(12, 72, false), (13, 73, false)] ?_
     repeat (
      refine plan_pure (v := ?_) (a' := ?_) rfl rfl (by kernel_rfl) (Or.inl ⟨by rfl, ?_⟩) ?_ ?_ (fun _ _ _ h => h)
      rotate_left
      ·intro w'
       go_simp
       with_reducible rfl
      rotate_left
      ·simp only [Act.put, List.setIfInBounds_toArray, List.set_cons_zero, List.set_cons_succ, i64_w, i32_w]
       rfl)
     refine plan_end ?_
     refine last_ (i := 14) (N := none) #[true, true, true, true, true, true, true, true, true, true, true, true, true, true, true] rfl rfl (by kernel_rfl) (by decide) (fun K hK => ?_)
     refine skip_ (w1 := ?_) (by rfl) rfl ?_ ?_
     rotate_left
     ·go_simp
      rfl
     refine hK.out _ _ ?_
     clear hK K
     refine done_ (by kernel_rfl) ?_
     go_wp2
     go_ret
     refine ⟨rfl, Ap, cp, A1, c1, ?_, ?_, ?_, ?_, HS7.out.2.2.2.2⟩
     ·exact blk_put BK8.out 0 _ (by simp)
     ·exact Kd.R_set ho BK8.out (by decide) 0 _
     ·exact Kd.R_set (Kd.R_over' HS7.out.2.2.1 (Kd.R_typed HS7.out.2.1) (by decide) hg1) BK8.out (by decide) 0 _
     ·exact below_set hb1 HS7.out.2.2.2.2
   ·have hkr := HKR.out.resolve_left hk
    have hk' : ¬ firstAt (fun x : S37 => x.f0.toList == f.toList) fs = -1 := hk
    have b0 : decide (0 ≤ fileV fs f) = true := decide_eq_true hkr.1
    obtain rfl : res = (0, fs.modify (fileV fs f).toNat (fun x => ⟨x.f0, s, true⟩), ls) := by rw [H2.out]; unfold arriveF; rw [if_neg hk']; rfl
    obtain ⟨ga, rfl⟩ := HS6.out.form0 (by omega)
    have p0 := eq_true hkr.1
    have q0 := eq_true hkr.2
    clear hk' hx0 hx1 hx3 hc0 hc1 n0
    have hx0 : w6.cell? ⟨bx, 0, none⟩ = some (.int .i64 k) := (blk_cell XK6.out 0).trans rfl
    go_wp2
    clear hx0
    refine start_ (n := 18) (S := fun w' => w'.cell? ⟨g, 0, none⟩ = some (.slice (some ⟨ga, 0, none⟩) fs.length c0) ∧ w'.cell? ⟨bx, 4, none⟩ = some (.int .u64 s)) (ds := [14, 17]) #[false, false, false, false, false, false, false, false, false, false, false, false, false, false, false, false, false, false] (by kernel_rfl) rfl rfl ⟨(HS6.out.drew.cells.1), ((blk_cell (blk_drew XK6.out) 4).trans rfl)⟩ (fun hHeld => ?_)
    generalize hw7 : w6.drew = w7 at hHeld ⊢
    have HB7 : Below w6.heap.size w6 w7 := hw7 ▸ below_drew (Below.refl _ _)
    have XK7 := Aside0.mk (blk_below XK6.out HB7)
    have HS7 := Aside0.mk (HS6.out.below HB7)
    clear hw7 HB7
    obtain ⟨⟨v1, hv1⟩, hf1, hs1, _⟩ := HS7.out.f1 (fileV fs f) hkr.1 hkr.2 s
    have HP1 := Aside0.mk hs1
    clear hs1
    refine plan_ [(0, 38, false), (1, 39, false), (2, 40, false), (4, 42, false), (5, 43, false), (6, 44, false), (7, 45, false), (9, 47, false), (10, 48, false), (3, 41, true), (8, 46, true), (11, 49, true), (12, 50, false), (13, 51, false)] ?_
    repeat (first
     | (
      refine plan_pure (v := ?_) (a' := ?_) rfl rfl (by kernel_rfl) (Or.inl ⟨by rfl, ?_⟩) ?_ ?_ (fun _ _ _ h => h)
      rotate_left
      ·intro w'
       go_simp
       with_reducible rfl
      rotate_left
      ·simp only [Act.put, List.setIfInBounds_toArray, List.set_cons_zero, List.set_cons_succ, i64_w, i32_w]
       rfl)
     | (
      refine plan_take (v := ?_) (a' := ?_) rfl rfl (by kernel_rfl) (Or.inl ⟨by rfl, ?_⟩) hHeld ?_ ?_ (fun _ _ _ h => h)
      rotate_left
      ·rintro w' ⟨s0, s1⟩
       go_simp
       with_reducible rfl
      rotate_left
      ·simp only [Act.put, List.setIfInBounds_toArray, List.set_cons_zero, List.set_cons_succ, i64_w, i32_w]
       rfl))
    refine plan_end ?_
    refine last_ (i := 14) (N := none) #[true, true, true, true, true, true, true, true, true, true, true, true, true, true, true, false, false, false] rfl rfl (by kernel_rfl) (by decide) (fun K hK => ?_)
    refine skip_ (w1 := ?_) (by rfl) rfl ?_ ?_
    rotate_left
    ·go_simp
     rfl
    obtain ⟨w8, hw8⟩ : ∃ w8, w8 = (w7.setCell ⟨ga, (fileV fs f).toNat * 3 + 1, none⟩ (.int .u64 s)) := ⟨_, rfl⟩
    rw [← hw8]
    have HS8 := Aside0.mk (hw8 ▸ HP1.out)
    obtain ⟨⟨v2, hv2⟩, hf2, hs2, _⟩ := HS8.out.f2 (fileV fs f) hkr.1 (by rw [List.length_set]; exact hkr.2) true
    have HP2 := Aside0.mk hs2
    clear hs2 hw8
    refine hK.out _ _ ?_
    clear hK K
    refine plan_ [(15, 52, false), (16, 53, false)] ?_
    repeat (
     refine plan_pure (v := ?_) (a' := ?_) rfl rfl (by kernel_rfl) (Or.inl ⟨by rfl, ?_⟩) ?_ ?_ (fun _ _ _ h => h)
     rotate_left
     ·intro w'
      go_simp
      with_reducible rfl
     rotate_left
     ·simp only [Act.put, List.setIfInBounds_toArray, List.set_cons_zero, List.set_cons_succ, i64_w, i32_w]
      rfl)
    refine plan_end ?_
    refine last_ (i := 17) (N := none) #[true, true, true, true, true, true, true, true, true, true, true, true, true, true, true, true, true, true] rfl rfl (by kernel_rfl) (by decide) (fun K hK => ?_)
    refine skip_ (w1 := ?_) (by rfl) rfl ?_ ?_
    rotate_left
    ·go_simp
     rfl
    refine hK.out _ _ ?_
    clear hK K
    refine done_ (by kernel_rfl) ?_
    go_wp2
    go_ret
    rw [← file_upd fs (fileV fs f) hkr.1 hkr.2 s]
    exact ⟨rfl, HP2.out.at_⟩
  have b1 : (k == 1) = false := beq_eq_false_iff_ne.2 h1
  have HRES2 := Aside0.mk (HRES.out.trans (if_neg h1))
  clear HRES h1
  by_cases h3 : k = 3
  ·have b3 : (k == 3) = true := beq_iff_eq.2 h3
   have b2 : (k == 2) = false := beq_eq_false_iff_ne.2 (by omega)
   have H1 := Aside0.mk (HRES2.out.trans (if_pos h3))
   unfold connectF at H1
   clear HRES2 h3
   by_cases hlv : linkV ls m = -1
   ·have bl : decide (0 ≤ linkV ls m) = false := decide_eq_false (by omega)
    simp only [if_pos hlv] at H1
    by_cases hpv : presentV fs f = -1
    ·obtain rfl : here = false := by rw [HH.out, hpv]; rfl
     simp only [if_pos hpv] at H1
     obtain rfl := H1.out
     go_wp2
     go_ret
     exact ⟨rfl, HS6.out.at_⟩
    ·obtain rfl : here = true := by rw [HH.out]; exact decide_eq_true hpv
     have hpf := presentV_here fs f hpv
     simp only [if_neg hpv, hpf] at H1
     have hkr := HKR.out.resolve_left (hpf ▸ hpv)
     clear hpv hpf
     by_cases h16 : 16 ≤ ls.length
     ·have bl6 : ((ls.length : Int) == 16) = true := beq_iff_eq.2 (by omega)
      simp only [if_pos h16] at H1
      obtain rfl := H1.out
      go_wp2
      go_ret
      exact ⟨rfl, HS6.out.at_⟩
     ·have bl6 : ((ls.length : Int) == 16) = false := beq_eq_false_iff_ne.2 (by omega)
      simp only [if_neg h16] at H1
      obtain rfl := H1.out
      obtain ⟨ga, rfl⟩ := HS6.out.form0 (by omega)
      have hcf : w6.cell? ⟨ga, (fileV fs f).toNat * 3 + 1, none⟩ = some (.int .u64 (rd_T37 fs (fileV fs f)).f1) := by
       obtain ⟨ad, hA, _, h, _⟩ := at_T37 HS6.out.reads.1 (fileV fs f) hkr.1 hkr.2
       cases hA
       rw [add_plain] at h
       exact h
      have p0 := eq_true hkr.1
      have q0 := eq_true hkr.2
      go_wp2
      refine start_ (n := 23) (S := fun w' => w'.cell? ⟨g, 0, none⟩ = some (.slice (some ⟨ga, 0, none⟩) fs.length c0) ∧ w'.cell? ⟨g, 1, none⟩ = some (.slice A1 ls.length c1) ∧ w'.cell? ⟨bx, 1, none⟩ = some (.string m) ∧ w'.cell? ⟨bx, 2, none⟩ = some (.string f) ∧ w'.cell? ⟨ga, (fileV fs f).toNat * 3 + 1, none⟩ = some (.int .u64 (rd_T37 fs (fileV fs f)).f1)) (ds := [22]) #[false, false, false, false, false, false, false, false, false, false, false, false, false, false, false, false, false, false, false, false, false, false, false] (by kernel_rfl) rfl rfl ⟨(HS6.out.drew.cells.1), (HS6.out.drew.cells.2), ((blk_cell (blk_drew XK6.out) 1).trans rfl), ((blk_cell (blk_drew XK6.out) 2).trans rfl), hcf⟩ (fun hHeld => ?_)
      generalize hw7 : w6.drew = w7 at hHeld ⊢
      have HB7 : Below w6.heap.size w6 w7 := hw7 ▸ below_drew (Below.refl _ _)
      have XK7 := Aside0.mk (blk_below XK6.out HB7)
      have HS7 := Aside0.mk (HS6.out.below HB7)
      clear hw7 HB7
      have HC0 := Aside0.mk hHeld.1
      have HC1 := Aside0.mk hHeld.2.1
      have HC2 := Aside0.mk hHeld.2.2.1
      have HC3 := Aside0.mk hHeld.2.2.2.1
      have HC4 := Aside0.mk hHeld.2.2.2.2
      have HF := Aside0.mk (blk_frozen HS7.out.1 1)
      have HNE := Aside0.mk (Kd.R_ne HS7.out.2.2.1 HS7.out.1 (by decide))
      have HNX := Aside0.mk (Kd.R_ne HS7.out.2.2.1 XK7.out (by decide))
      have LG := Aside0.mk (blk_lt HS7.out.1)
      have LX := Aside0.mk (blk_lt XK7.out)
      have HNA := Aside0.mk (show some ga ≠ (Value.slice A1 ls.length c1).ownBlock from fun e => by
       obtain ⟨cs, hcs⟩ := Kd.R_typed HS7.out.2.1 ga rfl
       exact Kd.R_ne HS7.out.2.2.1 hcs (by decide) e)
      have LA := Aside0.mk (Kd.R_lt HS7.out.2.1 ga rfl)
      refine plan_ [(0, 97, false), (1, 98, false), (2, 99, false), (3, 100, false), (5, 102, false), (7, 104, false), (9, 106, false), (10, 107, false), (11, 108, false), (13, 110, false), (4, 101, true), (6, 103, true), (8, 105, true), (12, 109, true), (14, 111, false), (15, 112, false), (16, 113, true), (17, 114, false)] ?_
      repeat (first
       | (
        refine plan_pure (v := ?_) (a' := ?_) rfl rfl (by kernel_rfl) (Or.inl ⟨by rfl, ?_⟩) ?_ ?_ (fun _ _ _ h => h)
        rotate_left
        ·intro w'
         go_simp
         with_reducible rfl
        rotate_left
        ·simp only [Act.put, List.setIfInBounds_toArray, List.set_cons_zero, List.set_cons_succ, i64_w, i32_w]
         rfl)
       | (
        refine plan_take (v := ?_) (a' := ?_) rfl rfl (by kernel_rfl) (Or.inl ⟨by rfl, ?_⟩) hHeld ?_ ?_ (fun _ _ _ h => h)
        rotate_left
        ·rintro w' ⟨s0, s1, s2, s3, s4⟩
         go_simp
         with_reducible rfl
        rotate_left
        ·simp only [Act.put, List.setIfInBounds_toArray, List.set_cons_zero, List.set_cons_succ, i64_w, i32_w]
         rfl))
      refine plan_end ?_
      refine one_ (i := 18) (N := some 115) #[true, true, true, true, true, true, true, true, true, true, true, true, true, true, true, true, true, true, true, false, false, false, false] rfl rfl (by kernel_rfl) (by decide) (fun K hK => ?_)
      refine value_ (w1 := ?_) (v := ?_) (by rfl) rfl ?_ ?_
      rotate_left 2
      ·go_simp
       constructor
       ·rfl
       ·rfl
      refine hK.out _ _ ⟨(pw_cell_below (below_alloc (Below.refl _ _) _) HC0.out), (pw_cell_below (below_alloc (Below.refl _ _) _) HC1.out), (pw_cell_below (below_alloc (Below.refl _ _) _) HC2.out), (pw_cell_below (below_alloc (Below.refl _ _) _) HC3.out), (pw_cell_below (below_alloc (Below.refl _ _) _) HC4.out)⟩ (fun hHeld => ?_)
      clear hK K
      refine norm_ (a' := ?_) ?_ ?_
      rotate_left
      ·show Act.put _ (some 115) _ = _
       simp only [Act.put, List.setIfInBounds_toArray, List.set_cons_zero, List.set_cons_succ, i64_w, i32_w]
       rfl
      refine one_ (i := 19) (N := some 116) #[true, true, true, true, true, true, true, true, true, true, true, true, true, true, true, true, true, true, true, true, false, false, false] rfl rfl (by kernel_rfl) (by decide) (fun K hK => ?_)
      refine Kd.R_append_step (w0 := w0) k39 w0.heap.size (by rfl) (.tmp 101) (.tmp 115) 28 39 (.agg #[.string ⟨#[]⟩, .string ⟨#[]⟩, .int .u64 0, .string ⟨#[]⟩]) 56 rfl Try.underlying28 info39 rfl (by decide) (by omega) (.slice A1 ls.length c1) ls ⟨m, f, (rd_T37 fs (fileV fs f)).f1, ⟨#[]⟩⟩ [.string m, .string f, .int .u64 (rd_T37 fs (fileV fs f)).f1, .string ⟨#[]⟩] (fun _ => True) (fun _ => False) rfl rfl ?aP (fun _ hk => hk.elim) (fun _ _ => trivial) ?aO ?aB ?aS ?aL ?_
      (case aP => exact k39_mkM ..)
      (case aO => exact HS7.out.2.2.1)
      (case aB => exact HS7.out.2.2.2.1)
      (case aS => exact HS7.out.2.2.2.1.size)
      (case aL => omega)
      intro v1 w8 ho hb1 hg1 hat1
      obtain ⟨Ap, cp, rfl⟩ := Kd.R_slice ho
      have BK8 := Aside0.mk (blk_grown HS7.out.1 hg1 HNE.out)
      have hcp : w8.cell? ⟨g, 1, none⟩ = some (.slice A1 ls.length c1) := (hg1.cell_far _ (by exact LG.out) (by exact HNE.out)).trans HS7.out.cells.2
      have hfp : w8.frozen? ⟨g, 1, none⟩ = false := (hg1.frozen_far _ (by exact LG.out) (by exact HNE.out)).trans HF.out
      refine hK.out _ _ ⟨((hg1.cell_far _ (by exact LG.out) (by exact HNE.out)).trans HC0.out), hcp, ((hg1.cell_far _ (by exact LX.out) (by exact HNX.out)).trans HC2.out), ((hg1.cell_far _ (by exact LX.out) (by exact HNX.out)).trans HC3.out), ((hg1.cell_far _ (by exact LA.out) (by exact HNA.out)).trans HC4.out)⟩ (fun hHeld => ?_)
      clear hK K
      refine norm_ (a' := ?_) ?_ ?_
      rotate_left
      ·show Act.put _ (some 116) _ = _
       simp only [Act.put, List.setIfInBounds_toArray, List.set_cons_zero, List.set_cons_succ, i64_w, i32_w]
       rfl
      refine plan_ [(20, 117, false), (21, 118, false)] ?_
      repeat (
       refine plan_pure (v := ?_) (a' := ?_) rfl rfl (by kernel_rfl) (Or.inl ⟨by rfl, ?_⟩) ?_ ?_ (fun _ _ _ h => h)
       rotate_left
       ·intro w'
        go_simp
        with_reducible rfl
       rotate_left
       ·simp only [Act.put, List.setIfInBounds_toArray, List.set_cons_zero, List.set_cons_succ, i64_w, i32_w]
        rfl)
      refine plan_end ?_
      refine last_ (i := 22) (N := none) #[true, true, true, true, true, true, true, true, true, true, true, true, true, true, true, true, true, true, true, true, true, true, true] rfl rfl (by kernel_rfl) (by decide) (fun K hK => ?_)
      refine skip_ (w1 := ?_) (by rfl) rfl ?_ ?_
      rotate_left
      ·go_simp
       rfl
      refine hK.out _ _ ?_
      clear hK K
      refine done_ (by kernel_rfl) ?_
      go_wp2
      go_ret
      refine ⟨rfl, some ⟨ga, 0, none⟩, c0, Ap, cp, ?_, ?_, ?_, ?_, HS7.out.2.2.2.2⟩
      ·exact blk_put BK8.out 1 _ (by simp)
      ·exact Kd.R_set (Kd.R_over' HS7.out.2.1 (Kd.R_typed HS7.out.2.2.1) (by decide) hg1) BK8.out (by decide) 1 _
      ·exact Kd.R_set ho BK8.out (by decide) 1 _
      ·exact below_set hb1 HS7.out.2.2.2.2
   ·have bl : decide (0 ≤ linkV ls m) = true := decide_eq_true (HL.out.resolve_left hlv).1
    simp only [if_neg hlv] at H1
    obtain rfl := H1.out
    go_wp2
    go_ret
    exact ⟨rfl, HS6.out.at_⟩
  have b3 : (k == 3) = false := beq_eq_false_iff_ne.2 h3
  have HRES3 := Aside0.mk (HRES2.out.trans (if_neg h3))
  clear HRES2 h3
  by_cases h2 : k = 2
  ·have b2 : (k == 2) = true := beq_iff_eq.2 h2
   have H1 := Aside0.mk (HRES3.out.trans (if_pos h2))
   clear HRES3 h2
   by_cases hpv : presentV fs f = -1
   ·obtain rfl : here = false := by rw [HH.out, hpv]; rfl
    simp only [if_pos hpv] at H1
    obtain rfl := H1.out
    go_wp2
    go_ret
    exact ⟨rfl, HS6.out.at_⟩
   ·obtain rfl : here = true := by rw [HH.out]; exact decide_eq_true hpv
    have hpf := presentV_here fs f hpv
    simp only [if_neg hpv, hpf] at H1
    obtain rfl := H1.out
    have hkr := HKR.out.resolve_left (hpf ▸ hpv)
    obtain ⟨ga, rfl⟩ := HS6.out.form0 (by omega)
    obtain ⟨⟨v1, hv1⟩, hf1, hs1, _⟩ := HS6.out.f2 (fileV fs f) hkr.1 hkr.2 false
    have HS7 := Aside0.mk hs1
    have p0 := eq_true hkr.1
    have q0 := eq_true hkr.2
    clear hs1 hpv hpf
    go_wp2
    go_ret
    refine ⟨rfl, ?_⟩
    rw [← set_modify fs z37 _ (by omega)]
    exact HS7.out.at_
  have b2 : (k == 2) = false := beq_eq_false_iff_ne.2 h2
  have HRES4 := Aside0.mk (HRES3.out.trans (if_neg h2))
  clear HRES3 h2
  by_cases h4 : k = 4
  ·have b4 : (k == 4) = true := beq_iff_eq.2 h4
   have H1 := Aside0.mk (HRES4.out.trans (if_pos h4))
   clear HRES4 h4
   by_cases hlv : linkV ls m = -1
   ·have bl : decide (linkV ls m < 0) = true := decide_eq_true (by omega)
    obtain rfl := H1.out.trans (if_pos hlv)
    go_wp2
    go_ret
    exact ⟨rfl, HS6.out.at_⟩
   ·have hl := HL.out.resolve_left hlv
    have bl : decide (linkV ls m < 0) = false := decide_eq_false (by omega)
    have H2 := Aside0.mk (H1.out.trans (if_neg hlv))
    clear H1 hlv
    by_cases hpv : presentV fs f = -1
    ·obtain rfl : here = false := by rw [HH.out, hpv]; rfl
     obtain rfl := H2.out.trans (if_pos hpv)
     go_wp2
     go_ret
     exact ⟨rfl, HS6.out.at_⟩
    ·obtain rfl : here = true := by rw [HH.out]; exact decide_eq_true hpv
     have hpf := presentV_here fs f hpv
     have H3 := Aside0.mk (H2.out.trans (if_neg hpv))
     rw [hpf] at H3
     obtain rfl := H3.out
     have hkr := HKR.out.resolve_left (hpf ▸ hpv)
     clear H2 hpv hpf
     obtain ⟨ga, rfl⟩ := HS6.out.form0 (by omega)
     obtain ⟨la, rfl⟩ := HS6.out.form1 (by omega)
     have hcf : w6.cell? ⟨ga, (fileV fs f).toNat * 3 + 1, none⟩ = some (.int .u64 (rd_T37 fs (fileV fs f)).f1) := by
      obtain ⟨ad, hA, _, h, _⟩ := at_T37 HS6.out.reads.1 (fileV fs f) hkr.1 hkr.2
      cases hA
      rw [add_plain] at h
      exact h
     have p0 := eq_true hkr.1
     have q0 := eq_true hkr.2
     have p1 := eq_true hl.1
     have q1 := eq_true hl.2
     go_wp2
     refine start_ (n := 26) (S := fun w' => w'.cell? ⟨g, 0, none⟩ = some (.slice (some ⟨ga, 0, none⟩) fs.length c0) ∧ w'.cell? ⟨g, 1, none⟩ = some (.slice (some ⟨la, 0, none⟩) ls.length c1) ∧ w'.cell? ⟨bx, 2, none⟩ = some (.string f) ∧ w'.cell? ⟨ga, (fileV fs f).toNat * 3 + 1, none⟩ = some (.int .u64 (rd_T37 fs (fileV fs f)).f1)) (ds := [22, 25]) #[false, false, false, false, false, false, false, false, false, false, false, false, false, false, false, false, false, false, false, false, false, false, false, false, false, false] (by kernel_rfl) rfl rfl ⟨(HS6.out.drew.cells.1), (HS6.out.drew.cells.2), ((blk_cell (blk_drew XK6.out) 2).trans rfl), hcf⟩ (fun hHeld => ?_)
     generalize hw7 : w6.drew = w7 at hHeld ⊢
     have HB7 : Below w6.heap.size w6 w7 := hw7 ▸ below_drew (Below.refl _ _)
     have XK7 := Aside0.mk (blk_below XK6.out HB7)
     have HS7 := Aside0.mk (HS6.out.below HB7)
     clear hw7 HB7
     obtain ⟨⟨v1, hv1⟩, hf1, hs1, _⟩ := HS7.out.l1 (linkV ls m) hl.1 hl.2 f
     have HP1 := Aside0.mk hs1
     clear hs1
     refine plan_ [(0, 127, false), (1, 128, false), (2, 129, false), (4, 131, false), (5, 132, false), (6, 133, false), (7, 134, false), (9, 136, false), (10, 137, false), (12, 139, false), (13, 140, false), (14, 141, false), (16, 143, false), (3, 130, true), (8, 135, true), (11, 138, true), (15, 142, true), (17, 144, false), (18, 145, false), (19, 146, true), (20, 147, false), (21, 148, false)] ?_
     repeat (first
      | (
       refine plan_pure (v := ?_) (a' := ?_) rfl rfl (by kernel_rfl) (Or.inl ⟨by rfl, ?_⟩) ?_ ?_ (fun _ _ _ h => h)
       rotate_left
       ·intro w'
        go_simp
        with_reducible rfl
       rotate_left
       ·simp only [Act.put, List.setIfInBounds_toArray, List.set_cons_zero, List.set_cons_succ, i64_w, i32_w]
        rfl)
      | (
       refine plan_take (v := ?_) (a' := ?_) rfl rfl (by kernel_rfl) (Or.inl ⟨by rfl, ?_⟩) hHeld ?_ ?_ (fun _ _ _ h => h)
       rotate_left
       ·rintro w' ⟨s0, s1, s2, s3⟩
        go_simp
        with_reducible rfl
       rotate_left
       ·simp only [Act.put, List.setIfInBounds_toArray, List.set_cons_zero, List.set_cons_succ, i64_w, i32_w]
        rfl))
     refine plan_end ?_
     refine last_ (i := 22) (N := none) #[true, true, true, true, true, true, true, true, true, true, true, true, true, true, true, true, true, true, true, true, true, true, true, false, false, false] rfl rfl (by kernel_rfl) (by decide) (fun K hK => ?_)
     refine skip_ (w1 := ?_) (by rfl) rfl ?_ ?_
     rotate_left
     ·go_simp
      rfl
     obtain ⟨w8, hw8⟩ : ∃ w8, w8 = (w7.setCell ⟨la, (linkV ls m).toNat * 4 + 1, none⟩ (.string f)) := ⟨_, rfl⟩
     rw [← hw8]
     have HS8 := Aside0.mk (hw8 ▸ HP1.out)
     obtain ⟨⟨v2, hv2⟩, hf2, hs2, _⟩ := HS8.out.l2 (linkV ls m) hl.1 (by rw [List.length_set]; exact hl.2) (rd_T37 fs (fileV fs f)).f1
     have HP2 := Aside0.mk hs2
     clear hs2 hw8
     refine hK.out _ _ ?_
     clear hK K
     refine plan_ [(23, 149, false), (24, 150, false)] ?_
     repeat (
      refine plan_pure (v := ?_) (a' := ?_) rfl rfl (by kernel_rfl) (Or.inl ⟨by rfl, ?_⟩) ?_ ?_ (fun _ _ _ h => h)
      rotate_left
      ·intro w'
       go_simp
       with_reducible rfl
      rotate_left
      ·simp only [Act.put, List.setIfInBounds_toArray, List.set_cons_zero, List.set_cons_succ, i64_w, i32_w]
       rfl)
     refine plan_end ?_
     refine last_ (i := 25) (N := none) #[true, true, true, true, true, true, true, true, true, true, true, true, true, true, true, true, true, true, true, true, true, true, true, true, true, true] rfl rfl (by kernel_rfl) (by decide) (fun K hK => ?_)
     refine skip_ (w1 := ?_) (by rfl) rfl ?_ ?_
     rotate_left
     ·go_simp
      rfl
     refine hK.out _ _ ?_
     clear hK K
     refine done_ (by kernel_rfl) ?_
     go_wp2
     go_ret
     rw [← link_upd ls (linkV ls m) hl.1 hl.2]
     exact ⟨rfl, HP2.out.at_⟩
  have b4 : (k == 4) = false := beq_eq_false_iff_ne.2 h4
  have HRES5 := Aside0.mk (HRES4.out.trans (if_neg h4))
  clear HRES4 h4
  by_cases h5 : k = 5
  ·have b5 : (k == 5) = true := beq_iff_eq.2 h5
   have H1 := Aside0.mk (HRES5.out.trans (if_pos h5))
   clear HRES5 h5
   by_cases hpm : p.toList = m.toList
   ·have bpm : (p.toList == m.toList) = true := beq_iff_eq.2 hpm
    obtain rfl := H1.out.trans (if_pos hpm)
    clear hpm
    go_wp2
    go_ret
    exact ⟨rfl, HS6.out.at_⟩
   have bpm : (p.toList == m.toList) = false := beq_eq_false_iff_ne.2 hpm
   have H2 := Aside0.mk (H1.out.trans (if_neg hpm))
   clear H1 hpm
   by_cases hlv : linkV ls m = -1
   ·have bl : decide (linkV ls m < 0) = true := decide_eq_true (by omega)
    obtain rfl := H2.out.trans (if_pos hlv)
    go_wp2
    refine start_ (n := 16) (S := fun w' => w'.cell? ⟨g, 0, none⟩ = some (.slice A0 fs.length c0) ∧ w'.cell? ⟨g, 1, none⟩ = some (.slice A1 ls.length c1) ∧ w'.cell? ⟨bx, 3, none⟩ = some (.string p)) (ds := []) #[false, false, false, false, false, false, false, false, false, false, false, false, false, false, false, false] (by kernel_rfl) rfl rfl ⟨(HS6.out.drew.cells.1), (HS6.out.drew.cells.2), ((blk_cell (blk_drew XK6.out) 3).trans rfl)⟩ (fun hHeld => ?_)
    generalize hw7 : w6.drew = w7 at hHeld ⊢
    have HB7 : Below w6.heap.size w6 w7 := hw7 ▸ below_drew (Below.refl _ _)
    have XK7 := Aside0.mk (blk_below XK6.out HB7)
    have HS7 := Aside0.mk (HS6.out.below HB7)
    clear hw7 HB7
    refine plan_ [(0, 158, false), (1, 159, false), (2, 160, false)] ?_
    repeat (
     refine plan_pure (v := ?_) (a' := ?_) rfl rfl (by kernel_rfl) (Or.inl ⟨by rfl, ?_⟩) ?_ ?_ (fun _ _ _ h => h)
     rotate_left
     ·intro w'
      go_simp
      with_reducible rfl
     rotate_left
     ·simp only [Act.put, List.setIfInBounds_toArray, List.set_cons_zero, List.set_cons_succ, i64_w, i32_w]
      rfl)
    refine plan_end ?_
    refine pure_ (i := 3) (N := some 161) (v := undef) (a' := ?_) #[true, true, true, true, false, false, false, false, false, false, false, false, false, false, false, false] rfl rfl (by kernel_rfl) (fun _ _ _ h => h) (Or.inr ⟨by rfl, rfl⟩) ?_ ?_
    rotate_left
    ·simp only [Act.put, List.setIfInBounds_toArray, List.set_cons_zero, List.set_cons_succ, i64_w, i32_w]
     rfl
    refine pure_ (i := 4) (N := some 162) (v := undef) (a' := ?_) #[true, true, true, true, true, false, false, false, false, false, false, false, false, false, false, false] rfl rfl (by kernel_rfl) (fun _ _ _ h => h) (Or.inr ⟨by rfl, rfl⟩) ?_ ?_
    rotate_left
    ·simp only [Act.put, List.setIfInBounds_toArray, List.set_cons_zero, List.set_cons_succ, i64_w, i32_w]
     rfl
    refine pure_ (i := 5) (N := some 163) (v := undef) (a' := ?_) #[true, true, true, true, true, true, false, false, false, false, false, false, false, false, false, false] rfl rfl (by kernel_rfl) (fun _ _ _ h => h) (Or.inr ⟨by rfl, rfl⟩) ?_ ?_
    rotate_left
    ·simp only [Act.put, List.setIfInBounds_toArray, List.set_cons_zero, List.set_cons_succ, i64_w, i32_w]
     rfl
    refine pure_ (i := 6) (N := some 164) (v := undef) (a' := ?_) #[true, true, true, true, true, true, true, false, false, false, false, false, false, false, false, false] rfl rfl (by kernel_rfl) (fun _ _ _ h => h) (Or.inr ⟨by rfl, rfl⟩) ?_ ?_
    rotate_left
    ·simp only [Act.put, List.setIfInBounds_toArray, List.set_cons_zero, List.set_cons_succ, i64_w, i32_w]
     rfl
    refine pure_ (i := 7) (N := some 165) (v := undef) (a' := ?_) #[true, true, true, true, true, true, true, true, false, false, false, false, false, false, false, false] rfl rfl (by kernel_rfl) (fun _ _ _ h => h) (Or.inr ⟨by rfl, rfl⟩) ?_ ?_
    rotate_left
    ·simp only [Act.put, List.setIfInBounds_toArray, List.set_cons_zero, List.set_cons_succ, i64_w, i32_w]
     rfl
    refine pure_ (i := 8) (N := some 166) (v := undef) (a' := ?_) #[true, true, true, true, true, true, true, true, true, false, false, false, false, false, false, false] rfl rfl (by kernel_rfl) (fun _ _ _ h => h) (Or.inr ⟨by rfl, rfl⟩) ?_ ?_
    rotate_left
    ·simp only [Act.put, List.setIfInBounds_toArray, List.set_cons_zero, List.set_cons_succ, i64_w, i32_w]
     rfl
    refine pure_ (i := 9) (N := some 167) (v := undef) (a' := ?_) #[true, true, true, true, true, true, true, true, true, true, false, false, false, false, false, false] rfl rfl (by kernel_rfl) (fun _ _ _ h => h) (Or.inr ⟨by rfl, rfl⟩) ?_ ?_
    rotate_left
    ·simp only [Act.put, List.setIfInBounds_toArray, List.set_cons_zero, List.set_cons_succ, i64_w, i32_w]
     rfl
    refine pure_ (i := 10) (N := some 168) (v := undef) (a' := ?_) #[true, true, true, true, true, true, true, true, true, true, true, false, false, false, false, false] rfl rfl (by kernel_rfl) (fun _ _ _ h => h) (Or.inr ⟨by rfl, rfl⟩) ?_ ?_
    rotate_left
    ·simp only [Act.put, List.setIfInBounds_toArray, List.set_cons_zero, List.set_cons_succ, i64_w, i32_w]
     rfl
    refine pure_ (i := 11) (N := some 169) (v := undef) (a' := ?_) #[true, true, true, true, true, true, true, true, true, true, true, true, false, false, false, false] rfl rfl (by kernel_rfl) (fun _ _ _ h => h) (Or.inr ⟨by rfl, rfl⟩) ?_ ?_
    rotate_left
    ·simp only [Act.put, List.setIfInBounds_toArray, List.set_cons_zero, List.set_cons_succ, i64_w, i32_w]
     rfl
    refine pure_ (i := 12) (N := some 170) (v := undef) (a' := ?_) #[true, true, true, true, true, true, true, true, true, true, true, true, true, false, false, false] rfl rfl (by kernel_rfl) (fun _ _ _ h => h) (Or.inr ⟨by rfl, rfl⟩) ?_ ?_
    rotate_left
    ·simp only [Act.put, List.setIfInBounds_toArray, List.set_cons_zero, List.set_cons_succ, i64_w, i32_w]
     rfl
    refine pure_ (i := 13) (N := some 171) (v := undef) (a' := ?_) #[true, true, true, true, true, true, true, true, true, true, true, true, true, true, false, false] rfl rfl (by kernel_rfl) (fun _ _ _ h => h) (Or.inr ⟨by rfl, rfl⟩) ?_ ?_
    rotate_left
    ·simp only [Act.put, List.setIfInBounds_toArray, List.set_cons_zero, List.set_cons_succ, i64_w, i32_w]
     rfl
    refine pure_ (i := 14) (N := some 172) (v := undef) (a' := ?_) #[true, true, true, true, true, true, true, true, true, true, true, true, true, true, true, false] rfl rfl (by kernel_rfl) (fun _ _ _ h => h) (Or.inr ⟨by rfl, rfl⟩) ?_ ?_
    rotate_left
    ·simp only [Act.put, List.setIfInBounds_toArray, List.set_cons_zero, List.set_cons_succ, i64_w, i32_w]
     rfl
    refine pure_ (i := 15) (N := some 173) (v := ?_) (a' := ?_) #[true, true, true, true, true, true, true, true, true, true, true, true, true, true, true, true] rfl rfl (by kernel_rfl) (fun _ _ _ h => h) (Or.inl ⟨by rfl, ?_⟩) ?_ ?_
    rotate_left
    ·intro w'
     go_simp
     with_reducible rfl
    rotate_left
    ·simp only [Act.put, List.setIfInBounds_toArray, List.set_cons_zero, List.set_cons_succ, i64_w, i32_w]
     rfl
    refine done_ (by kernel_rfl) ?_
    go_wp2
    go_ret
    exact ⟨rfl, HS7.out.at_⟩
   have hl := HL.out.resolve_left hlv
   have bl : decide (linkV ls m < 0) = false := decide_eq_false (by omega)
   have H3 := Aside0.mk (H2.out.trans (if_neg hlv))
   obtain ⟨la, rfl⟩ := HS6.out.form1 (by omega)
   have p1 := eq_true hl.1
   have q1 := eq_true hl.2
   clear H2 hlv
   by_cases hpe : p.toList = []
   ·have be : (p.toList == ([] : List UInt8)) = true := beq_iff_eq.2 hpe
    have be' : p.toList.isEmpty = true := by rw [hpe]; rfl
    have be'' : (p.toList != ([] : List UInt8)) = false := by rw [bne, be]; rfl
    obtain rfl := H3.out.trans (if_pos hpe)
    clear hpe
    go_wp2
    refine start_ (n := 16) (S := fun w' => w'.cell? ⟨g, 0, none⟩ = some (.slice A0 fs.length c0) ∧ w'.cell? ⟨g, 1, none⟩ = some (.slice (some ⟨la, 0, none⟩) ls.length c1) ∧ w'.cell? ⟨bx, 3, none⟩ = some (.string p)) (ds := []) #[false, false, false, false, false, false, false, false, false, false, false, false, false, false, false, false] (by kernel_rfl) rfl rfl ⟨(HS6.out.drew.cells.1), (HS6.out.drew.cells.2), ((blk_cell (blk_drew XK6.out) 3).trans rfl)⟩ (fun hHeld => ?_)
    generalize hw7 : w6.drew = w7 at hHeld ⊢
    have HB7 : Below w6.heap.size w6 w7 := hw7 ▸ below_drew (Below.refl _ _)
    have XK7 := Aside0.mk (blk_below XK6.out HB7)
    have HS7 := Aside0.mk (HS6.out.below HB7)
    clear hw7 HB7
    refine plan_ [(0, 158, false), (1, 159, false), (2, 160, false), (3, 161, false), (4, 162, true), (5, 163, false), (6, 164, false)] ?_
    repeat (first
     | (
      refine plan_pure (v := ?_) (a' := ?_) rfl rfl (by kernel_rfl) (Or.inl ⟨by rfl, ?_⟩) ?_ ?_ (fun _ _ _ h => h)
      rotate_left
      ·intro w'
       go_simp
       with_reducible rfl
      rotate_left
      ·simp only [Act.put, List.setIfInBounds_toArray, List.set_cons_zero, List.set_cons_succ, i64_w, i32_w]
       rfl)
     | (
      refine plan_take (v := ?_) (a' := ?_) rfl rfl (by kernel_rfl) (Or.inl ⟨by rfl, ?_⟩) hHeld ?_ ?_ (fun _ _ _ h => h)
      rotate_left
      ·rintro w' ⟨s0, s1, s2⟩
       go_simp
       with_reducible rfl
      rotate_left
      ·simp only [Act.put, List.setIfInBounds_toArray, List.set_cons_zero, List.set_cons_succ, i64_w, i32_w]
       rfl))
    refine plan_end ?_
    refine pure_ (i := 7) (N := some 165) (v := undef) (a' := ?_) #[true, true, true, true, true, true, true, true, false, false, false, false, false, false, false, false] rfl rfl (by kernel_rfl) (fun _ _ _ h => h) (Or.inr ⟨by rfl, rfl⟩) ?_ ?_
    rotate_left
    ·simp only [Act.put, List.setIfInBounds_toArray, List.set_cons_zero, List.set_cons_succ, i64_w, i32_w]
     rfl
    refine pure_ (i := 8) (N := some 166) (v := undef) (a' := ?_) #[true, true, true, true, true, true, true, true, true, false, false, false, false, false, false, false] rfl rfl (by kernel_rfl) (fun _ _ _ h => h) (Or.inr ⟨by rfl, rfl⟩) ?_ ?_
    rotate_left
    ·simp only [Act.put, List.setIfInBounds_toArray, List.set_cons_zero, List.set_cons_succ, i64_w, i32_w]
     rfl
    refine pure_ (i := 9) (N := some 167) (v := undef) (a' := ?_) #[true, true, true, true, true, true, true, true, true, true, false, false, false, false, false, false] rfl rfl (by kernel_rfl) (fun _ _ _ h => h) (Or.inr ⟨by rfl, rfl⟩) ?_ ?_
    rotate_left
    ·simp only [Act.put, List.setIfInBounds_toArray, List.set_cons_zero, List.set_cons_succ, i64_w, i32_w]
     rfl
    refine pure_ (i := 10) (N := some 168) (v := undef) (a' := ?_) #[true, true, true, true, true, true, true, true, true, true, true, false, false, false, false, false] rfl rfl (by kernel_rfl) (fun _ _ _ h => h) (Or.inr ⟨by rfl, rfl⟩) ?_ ?_
    rotate_left
    ·simp only [Act.put, List.setIfInBounds_toArray, List.set_cons_zero, List.set_cons_succ, i64_w, i32_w]
     rfl
    refine pure_ (i := 11) (N := some 169) (v := undef) (a' := ?_) #[true, true, true, true, true, true, true, true, true, true, true, true, false, false, false, false] rfl rfl (by kernel_rfl) (fun _ _ _ h => h) (Or.inr ⟨by rfl, rfl⟩) ?_ ?_
    rotate_left
    ·simp only [Act.put, List.setIfInBounds_toArray, List.set_cons_zero, List.set_cons_succ, i64_w, i32_w]
     rfl
    refine pure_ (i := 12) (N := some 170) (v := undef) (a' := ?_) #[true, true, true, true, true, true, true, true, true, true, true, true, true, false, false, false] rfl rfl (by kernel_rfl) (fun _ _ _ h => h) (Or.inr ⟨by rfl, rfl⟩) ?_ ?_
    rotate_left
    ·simp only [Act.put, List.setIfInBounds_toArray, List.set_cons_zero, List.set_cons_succ, i64_w, i32_w]
     rfl
    refine pure_ (i := 13) (N := some 171) (v := undef) (a' := ?_) #[true, true, true, true, true, true, true, true, true, true, true, true, true, true, false, false] rfl rfl (by kernel_rfl) (fun _ _ _ h => h) (Or.inr ⟨by rfl, rfl⟩) ?_ ?_
    rotate_left
    ·simp only [Act.put, List.setIfInBounds_toArray, List.set_cons_zero, List.set_cons_succ, i64_w, i32_w]
     rfl
    refine plan_ [(14, 172, false), (15, 173, false)] ?_
    repeat (
     refine plan_pure (v := ?_) (a' := ?_) rfl rfl (by kernel_rfl) (Or.inl ⟨by rfl, ?_⟩) ?_ ?_ (fun _ _ _ h => h)
     rotate_left
     ·intro w'
      go_simp
      with_reducible rfl
     rotate_left
     ·simp only [Act.put, List.setIfInBounds_toArray, List.set_cons_zero, List.set_cons_succ, i64_w, i32_w]
      rfl)
    refine plan_end ?_
    refine done_ (by kernel_rfl) ?_
    clear hHeld
    go_wp2
    refine start_ (n := 10) (S := fun w' => w'.cell? ⟨g, 1, none⟩ = some (.slice (some ⟨la, 0, none⟩) ls.length c1) ∧ w'.cell? ⟨bx, 3, none⟩ = some (.string p)) (ds := [9]) #[false, false, false, false, false, false, false, false, false, false] (by kernel_rfl) rfl rfl ⟨(HS7.out.drew.cells.2), ((blk_cell (blk_drew XK7.out) 3).trans rfl)⟩ (fun hHeld => ?_)
    generalize hw8 : w7.drew = w8 at hHeld ⊢
    have HB8 : Below w7.heap.size w7 w8 := hw8 ▸ below_drew (Below.refl _ _)
    have XK8 := Aside0.mk (blk_below XK7.out HB8)
    have HS8 := Aside0.mk (HS7.out.below HB8)
    clear hw8 HB8
    obtain ⟨⟨v1, hv1⟩, hf1, hs1, _⟩ := HS8.out.l3 (linkV ls m) hl.1 hl.2 p
    have HP1 := Aside0.mk hs1
    clear hs1
    refine plan_ [(0, 174, false), (1, 175, false), (2, 176, false), (4, 178, false), (5, 179, false), (3, 177, true), (6, 180, true), (7, 181, false), (8, 182, false)] ?_
    repeat (first
     | (
      refine plan_pure (v := ?_) (a' := ?_) rfl rfl (by kernel_rfl) (Or.inl ⟨by rfl, ?_⟩) ?_ ?_ (fun _ _ _ h => h)
      rotate_left
      ·intro w'
       go_simp
       with_reducible rfl
      rotate_left
      ·simp only [Act.put, List.setIfInBounds_toArray, List.set_cons_zero, List.set_cons_succ, i64_w, i32_w]
       rfl)
     | (
      refine plan_take (v := ?_) (a' := ?_) rfl rfl (by kernel_rfl) (Or.inl ⟨by rfl, ?_⟩) hHeld ?_ ?_ (fun _ _ _ h => h)
      rotate_left
      ·rintro w' ⟨s0, s1⟩
       go_simp
       with_reducible rfl
      rotate_left
      ·simp only [Act.put, List.setIfInBounds_toArray, List.set_cons_zero, List.set_cons_succ, i64_w, i32_w]
       rfl))
    refine plan_end ?_
    refine last_ (i := 9) (N := none) #[true, true, true, true, true, true, true, true, true, true] rfl rfl (by kernel_rfl) (by decide) (fun K hK => ?_)
    refine skip_ (w1 := ?_) (by rfl) rfl ?_ ?_
    rotate_left
    ·go_simp
     rfl
    refine hK.out _ _ ?_
    clear hK K
    refine done_ (by kernel_rfl) ?_
    go_wp2
    go_ret
    refine ⟨rfl, ?_⟩
    rw [← set_modify ls z39 _ (by omega)]
    exact HP1.out.at_
   have be : (p.toList == ([] : List UInt8)) = false := beq_eq_false_iff_ne.2 hpe
   have be' : p.toList.isEmpty = false := by cases h : p.toList with | nil => exact absurd h hpe | cons a t => rfl
   have be'' : (p.toList != ([] : List UInt8)) = true := by rw [bne, be]; rfl
   have H4 := Aside0.mk (H3.out.trans (if_neg hpe))
   clear H3 hpe
   by_cases hlp : linkV ls p = -1
   ·have blp : decide (linkV ls p < 0) = true := decide_eq_true (by omega)
    obtain rfl := H4.out.trans (if_pos hlp)
    go_wp2
    refine start_ (n := 16) (S := fun w' => w'.cell? ⟨g, 0, none⟩ = some (.slice A0 fs.length c0) ∧ w'.cell? ⟨g, 1, none⟩ = some (.slice (some ⟨la, 0, none⟩) ls.length c1) ∧ w'.cell? ⟨bx, 3, none⟩ = some (.string p)) (ds := []) #[false, false, false, false, false, false, false, false, false, false, false, false, false, false, false, false] (by kernel_rfl) rfl rfl ⟨(HS6.out.drew.cells.1), (HS6.out.drew.cells.2), ((blk_cell (blk_drew XK6.out) 3).trans rfl)⟩ (fun hHeld => ?_)
    generalize hw7 : w6.drew = w7 at hHeld ⊢
    have HB7 : Below w6.heap.size w6 w7 := hw7 ▸ below_drew (Below.refl _ _)
    have XK7 := Aside0.mk (blk_below XK6.out HB7)
    have HS7 := Aside0.mk (HS6.out.below HB7)
    clear hw7 HB7
    refine plan_ [(0, 158, false), (1, 159, false), (2, 160, false), (3, 161, false), (4, 162, true), (5, 163, false), (6, 164, false), (7, 165, false), (8, 166, false), (10, 168, false), (9, 167, true), (11, 169, true)] ?_
    repeat (first
     | (
      refine plan_pure (v := ?_) (a' := ?_) rfl rfl (by kernel_rfl) (Or.inl ⟨by rfl, ?_⟩) ?_ ?_ (fun _ _ _ h => h)
      rotate_left
      ·intro w'
       go_simp
       with_reducible rfl
      rotate_left
      ·simp only [Act.put, List.setIfInBounds_toArray, List.set_cons_zero, List.set_cons_succ, i64_w, i32_w]
       rfl)
     | (
      refine plan_take (v := ?_) (a' := ?_) rfl rfl (by kernel_rfl) (Or.inl ⟨by rfl, ?_⟩) hHeld ?_ ?_ (fun _ _ _ h => h)
      rotate_left
      ·rintro w' ⟨s0, s1, s2⟩
       go_simp
       with_reducible rfl
      rotate_left
      ·simp only [Act.put, List.setIfInBounds_toArray, List.set_cons_zero, List.set_cons_succ, i64_w, i32_w]
       rfl))
    refine plan_end ?_
    refine one_ (i := 12) (N := some 170) #[true, true, true, true, true, true, true, true, true, true, true, true, true, false, false, false] rfl rfl (by kernel_rfl) (by decide) (fun K hK => ?_)
    refine goes_ Try.func28 (by kernel_rfl) rfl #[.agg #[.slice A0 fs.length c0, .slice (some ⟨la, 0, none⟩) ls.length c1], .string p] (by rfl) rfl rfl (by (try simp only [List.map_toArray, List.map_cons, List.map_nil]); first | done | rfl) ?_
    have RD := HS7.out.reads
    with_reducible refine (cutroomref36_link.calls (ls.length + 1) _ _ fs _ _ ls p _ _ RD.1 RD.2.1 RD.2.2.1 RD.2.2.2 (refLink_f fs ls p HS7.out.len1)).mono ?_
    rintro e w8 ⟨rfl, hb⟩
    refine ⟨_, rfl, ?_⟩
    have XK8 := Aside0.mk (blk_below XK7.out hb)
    have HS8 := Aside0.mk (HS7.out.below hb)
    clear hb RD
    refine hK.out _ _ ⟨HS8.out.cells.1, HS8.out.cells.2, ((blk_cell XK8.out 3).trans rfl)⟩ (fun hHeld => ?_)
    clear hK K
    refine norm_ (a' := ?_) ?_ ?_
    rotate_left
    ·show Act.put _ (some 170) _ = _
     simp only [Act.put, List.setIfInBounds_toArray, List.set_cons_zero, List.set_cons_succ, i64_w, i32_w]
     rfl
    refine plan_ [(13, 171, false), (14, 172, false), (15, 173, false)] ?_
    repeat (
     refine plan_pure (v := ?_) (a' := ?_) rfl rfl (by kernel_rfl) (Or.inl ⟨by rfl, ?_⟩) ?_ ?_ (fun _ _ _ h => h)
     rotate_left
     ·intro w'
      go_simp
      with_reducible rfl
     rotate_left
     ·simp only [Act.put, List.setIfInBounds_toArray, List.set_cons_zero, List.set_cons_succ, i64_w, i32_w]
      rfl)
    refine plan_end ?_
    refine done_ (by kernel_rfl) ?_
    clear hHeld
    go_wp2
    go_ret
    exact ⟨rfl, HS8.out.at_⟩
   ·have blp : decide (linkV ls p < 0) = false := decide_eq_false (by have := (linkV_range ls p).resolve_left hlp; omega)
    obtain rfl := H4.out.trans (if_neg hlp)
    go_wp2
    refine start_ (n := 16) (S := fun w' => w'.cell? ⟨g, 0, none⟩ = some (.slice A0 fs.length c0) ∧ w'.cell? ⟨g, 1, none⟩ = some (.slice (some ⟨la, 0, none⟩) ls.length c1) ∧ w'.cell? ⟨bx, 3, none⟩ = some (.string p)) (ds := []) #[false, false, false, false, false, false, false, false, false, false, false, false, false, false, false, false] (by kernel_rfl) rfl rfl ⟨(HS6.out.drew.cells.1), (HS6.out.drew.cells.2), ((blk_cell (blk_drew XK6.out) 3).trans rfl)⟩ (fun hHeld => ?_)
    generalize hw7 : w6.drew = w7 at hHeld ⊢
    have HB7 : Below w6.heap.size w6 w7 := hw7 ▸ below_drew (Below.refl _ _)
    have XK7 := Aside0.mk (blk_below XK6.out HB7)
    have HS7 := Aside0.mk (HS6.out.below HB7)
    clear hw7 HB7
    refine plan_ [(0, 158, false), (1, 159, false), (2, 160, false), (3, 161, false), (4, 162, true), (5, 163, false), (6, 164, false), (7, 165, false), (8, 166, false), (10, 168, false), (9, 167, true), (11, 169, true)] ?_
    repeat (first
     | (
      refine plan_pure (v := ?_) (a' := ?_) rfl rfl (by kernel_rfl) (Or.inl ⟨by rfl, ?_⟩) ?_ ?_ (fun _ _ _ h => h)
      rotate_left
      ·intro w'
       go_simp
       with_reducible rfl
      rotate_left
      ·simp only [Act.put, List.setIfInBounds_toArray, List.set_cons_zero, List.set_cons_succ, i64_w, i32_w]
       rfl)
     | (
      refine plan_take (v := ?_) (a' := ?_) rfl rfl (by kernel_rfl) (Or.inl ⟨by rfl, ?_⟩) hHeld ?_ ?_ (fun _ _ _ h => h)
      rotate_left
      ·rintro w' ⟨s0, s1, s2⟩
       go_simp
       with_reducible rfl
      rotate_left
      ·simp only [Act.put, List.setIfInBounds_toArray, List.set_cons_zero, List.set_cons_succ, i64_w, i32_w]
       rfl))
    refine plan_end ?_
    refine one_ (i := 12) (N := some 170) #[true, true, true, true, true, true, true, true, true, true, true, true, true, false, false, false] rfl rfl (by kernel_rfl) (by decide) (fun K hK => ?_)
    refine goes_ Try.func28 (by kernel_rfl) rfl #[.agg #[.slice A0 fs.length c0, .slice (some ⟨la, 0, none⟩) ls.length c1], .string p] (by rfl) rfl rfl (by (try simp only [List.map_toArray, List.map_cons, List.map_nil]); first | done | rfl) ?_
    have RD := HS7.out.reads
    with_reducible refine (cutroomref36_link.calls (ls.length + 1) _ _ fs _ _ ls p _ _ RD.1 RD.2.1 RD.2.2.1 RD.2.2.2 (refLink_f fs ls p HS7.out.len1)).mono ?_
    rintro e w8 ⟨rfl, hb⟩
    refine ⟨_, rfl, ?_⟩
    have XK8 := Aside0.mk (blk_below XK7.out hb)
    have HS8 := Aside0.mk (HS7.out.below hb)
    clear hb RD
    refine hK.out _ _ ⟨HS8.out.cells.1, HS8.out.cells.2, ((blk_cell XK8.out 3).trans rfl)⟩ (fun hHeld => ?_)
    clear hK K
    refine norm_ (a' := ?_) ?_ ?_
    rotate_left
    ·show Act.put _ (some 170) _ = _
     simp only [Act.put, List.setIfInBounds_toArray, List.set_cons_zero, List.set_cons_succ, i64_w, i32_w]
     rfl
    refine plan_ [(13, 171, false), (14, 172, false), (15, 173, false)] ?_
    repeat (
     refine plan_pure (v := ?_) (a' := ?_) rfl rfl (by kernel_rfl) (Or.inl ⟨by rfl, ?_⟩) ?_ ?_ (fun _ _ _ h => h)
     rotate_left
     ·intro w'
      go_simp
      with_reducible rfl
     rotate_left
     ·simp only [Act.put, List.setIfInBounds_toArray, List.set_cons_zero, List.set_cons_succ, i64_w, i32_w]
      rfl)
    refine plan_end ?_
    refine done_ (by kernel_rfl) ?_
    clear hHeld
    go_wp2
    refine start_ (n := 10) (S := fun w' => w'.cell? ⟨g, 1, none⟩ = some (.slice (some ⟨la, 0, none⟩) ls.length c1) ∧ w'.cell? ⟨bx, 3, none⟩ = some (.string p)) (ds := [9]) #[false, false, false, false, false, false, false, false, false, false] (by kernel_rfl) rfl rfl ⟨(HS8.out.drew.cells.2), ((blk_cell (blk_drew XK8.out) 3).trans rfl)⟩ (fun hHeld => ?_)
    generalize hw9 : w8.drew = w9 at hHeld ⊢
    have HB9 : Below w8.heap.size w8 w9 := hw9 ▸ below_drew (Below.refl _ _)
    have XK9 := Aside0.mk (blk_below XK8.out HB9)
    have HS9 := Aside0.mk (HS8.out.below HB9)
    clear hw9 HB9
    obtain ⟨⟨v1, hv1⟩, hf1, hs1, _⟩ := HS9.out.l3 (linkV ls m) hl.1 hl.2 p
    have HP1 := Aside0.mk hs1
    clear hs1
    refine plan_ [(0, 174, false), (1, 175, false), (2, 176, false), (4, 178, false), (5, 179, false), (3, 177, true), (6, 180, true), (7, 181, false), (8, 182, false)] ?_
    repeat (first
     | (
      refine plan_pure (v := ?_) (a' := ?_) rfl rfl (by kernel_rfl) (Or.inl ⟨by rfl, ?_⟩) ?_ ?_ (fun _ _ _ h => h)
      rotate_left
      ·intro w'
       go_simp
       with_reducible rfl
      rotate_left
      ·simp only [Act.put, List.setIfInBounds_toArray, List.set_cons_zero, List.set_cons_succ, i64_w, i32_w]
       rfl)
     | (
      refine plan_take (v := ?_) (a' := ?_) rfl rfl (by kernel_rfl) (Or.inl ⟨by rfl, ?_⟩) hHeld ?_ ?_ (fun _ _ _ h => h)
      rotate_left
      ·rintro w' ⟨s0, s1⟩
       go_simp
       with_reducible rfl
      rotate_left
      ·simp only [Act.put, List.setIfInBounds_toArray, List.set_cons_zero, List.set_cons_succ, i64_w, i32_w]
       rfl))
    refine plan_end ?_
    refine last_ (i := 9) (N := none) #[true, true, true, true, true, true, true, true, true, true] rfl rfl (by kernel_rfl) (by decide) (fun K hK => ?_)
    refine skip_ (w1 := ?_) (by rfl) rfl ?_ ?_
    rotate_left
    ·go_simp
     rfl
    refine hK.out _ _ ?_
    clear hK K
    refine done_ (by kernel_rfl) ?_
    go_wp2
    go_ret
    refine ⟨rfl, ?_⟩
    rw [← set_modify ls z39 _ (by omega)]
    exact HP1.out.at_
  have b5 : (k == 5) = false := beq_eq_false_iff_ne.2 h5
  obtain rfl := HRES5.out.trans (if_neg h5)
  go_wp2
  go_ret
  exact ⟨rfl, HS6.out.at_⟩
theorem mono_n {α : Type} {f : Nat → Option α} (hm : ∀ k, LeO (f k) (f (k + 1))) {k : Nat} {r : α} (h : f k = some r) : ∀ n, f (k + n) = some r
 | 0 => h
 | n + 1 => hm (k + n) r (mono_n hm h n)
theorem mono_le {α : Type} {f : Nat → Option α} (hm : ∀ k, LeO (f k) (f (k + 1))) {k K : Nat} {r : α} (h : f k = some r) (hk : k ≤ K) : f K = some r := by
 have h2 := mono_n hm h (K - k)
 rwa [show k + (K - k) = K from by omega] at h2
theorem refFile_k (fs : List S37) (ls : List S39) (f : ByteArray) (hlen : fs.length ≤ 9223372036854775807) (K : Nat) (hK : fs.length < K) : cutroomref36_file.f K fs ls f = some (fileV fs f) :=
 mono_le (f := fun k => cutroomref36_file.f k fs ls f) (fun k => cutroomref36_file.mono fs ls f k) (refFile_f fs ls f hlen) hK
theorem refLink_k (fs : List S37) (ls : List S39) (f : ByteArray) (hlen : ls.length ≤ 9223372036854775807) (K : Nat) (hK : ls.length < K) : cutroomref36_link.f K fs ls f = some (linkV ls f) :=
 mono_le (f := fun k => cutroomref36_link.f k fs ls f) (fun k => cutroomref36_link.mono fs ls f k) (refLink_f fs ls f hlen) hK
theorem refName_k (x : ByteArray) (hx : x.size ≤ 140737488351232) (K : Nat) (hK : x.size < K) : cutroomref23_ValidName.f K x = some (vName x) :=
 mono_le (f := fun k => cutroomref23_ValidName.f k x) (fun k => cutroomref23_ValidName.mono x k) (refName_f x hx) hK
theorem refStatus_k (fs : List S37) (ls : List S39) (m : ByteArray) (h0 : fs.length ≤ 9223372036854775807) (h1 : ls.length ≤ 9223372036854775807) (K : Nat) (hK : fs.length + ls.length + 1 < K) : cutroomref36_Status.f K fs ls m = some (statusV fs ls m) := by
 obtain ⟨k, rfl⟩ : ∃ k, K = k + 1 := ⟨K - 1, by omega⟩
 unfold cutroomref36_Status.f statusV
 rw [refLink_k fs ls m h1 (k + 1) (by omega), Option.bind_some]
 by_cases c1 : linkV ls m = -1
 ·rw [if_pos (by omega), if_pos c1]
 ·have c2 := (linkV_range ls m).resolve_left c1
  rw [if_neg (by omega), if_pos c2.1, if_pos c2.2, if_neg c1, refFile_k fs ls _ h0 (k + 1) (by omega), Option.bind_some]
  unfold presentV
  by_cases c3 : fileV fs (rd_T39 ls (linkV ls m)).f1 = -1
  ·rw [if_pos (by omega), if_pos c3, if_pos rfl]
   rfl
  ·have c4 := (fileV_range fs (rd_T39 ls (linkV ls m)).f1).resolve_left c3
   rw [if_neg (by omega), if_pos c4.1, if_pos c4.2, if_neg c3]
   cases hb : (rd_T37 fs (fileV fs (rd_T39 ls (linkV ls m)).f1)).f2 with
   | false => simp [cutroomref36_Status.j0]
   | true =>
    simp only [cutroomref36_Status.j0, Bool.not_true, Bool.false_eq_true, if_false, if_pos c4.1, if_pos c4.2, if_pos c2.1, if_pos c2.2, if_true, if_neg c3]
    split <;> rfl
def allFrom (p : Nat → Bool) : Nat → Nat → Bool
 | _, 0 => true
 | i, n + 1 => p i && allFrom p (i + 1) n
theorem allFrom_iff (p : Nat → Bool) : ∀ n i, allFrom p i n = true ↔ ∀ j, i ≤ j → j < i + n → p j = true
 | 0, i => by simp [allFrom]; intro j h1 h2; omega
 | n + 1, i => by
  rw [allFrom, Bool.and_eq_true, allFrom_iff p n (i + 1)]
  constructor
  ·rintro ⟨h1, h2⟩ j h3 h4
   rcases Nat.lt_or_ge i j with h5 | h5
   ·exact h2 j h5 (by omega)
   ·obtain rfl : j = i := by omega
    exact h1
  ·intro h
   exact ⟨h i (Nat.le_refl _) (by omega), fun j h1 h2 => h j (by omega) (by omega)⟩
theorem firstAt_eq {α : Type} (p : α → Bool) (l : List α) (i : Nat) (hi : i < l.length) (hp : p (l[i]'hi) = true) : firstAt p l = (i : Int) ↔ ∀ j (hj : j < i), p (l[j]'(by omega)) = false := by
 unfold firstAt
 constructor
 ·intro h j hj
  split at h
  ·rename_i q hq
   have e : q = i := by omega
   subst e
   have := (List.findIdx?_eq_some_iff_getElem.1 hq).2.2 j hj
   simpa using this
  ·omega
 ·intro h
  have : l.findIdx? p = some i := List.findIdx?_eq_some_iff_getElem.2 ⟨hi, hp, fun j hj => by simpa using h j hj⟩
  rw [this]
theorem bytes_toList_inj {a b : ByteArray} (h : a.toList = b.toList) : a = b := by
 rw [ByteArray.toList_eq, ByteArray.toList_eq] at h
 exact Go.WideShapes.bytes_inj h
theorem nodup_first {α : Type} (key : α → ByteArray) (l : List α) : (l.map key).Nodup ↔ ∀ i (hi : i < l.length), firstAt (fun x => (key x).toList == (key (l[i]'hi)).toList) l = (i : Int) := by
 constructor
 ·intro h i hi
  rw [firstAt_eq _ l i hi (by simp)]
  intro j hj
  have hne := List.pairwise_iff_getElem.1 h j i (by simp; omega) (by simpa using hi) hj
  rw [List.getElem_map, List.getElem_map] at hne
  exact beq_eq_false_iff_ne.2 (fun e => hne (bytes_toList_inj e))
 ·intro h
  refine List.pairwise_iff_getElem.2 fun j i hj hi hji => ?_
  have hi' : i < l.length := by simpa using hi
  have h2 := (firstAt_eq _ l i hi' (by simp)).1 (h i hi') j hji
  rw [List.getElem_map, List.getElem_map]
  intro e
  rw [e] at h2
  simp at h2
def goodF (fs : List S37) (i : Nat) : Bool := vName (rd_T37 fs i).f0 && fileV fs (rd_T37 fs i).f0 == (i : Int)
def goodL (ls : List S39) (i : Nat) : Bool :=
 vName (rd_T39 ls i).f0 && (vName (rd_T39 ls i).f1 && (linkV ls (rd_T39 ls i).f0 == (i : Int) && ((rd_T39 ls i).f3.toList.isEmpty || (vName (rd_T39 ls i).f3 && !((rd_T39 ls i).f3.toList == (rd_T39 ls i).f0.toList)))))
theorem refValid_l1 (fs : List S37) (ls : List S39) (B : Nat) (hB : B ≤ 140737488351232) (hl : ls.length ≤ 9223372036854775807)
  (hs : ∀ x ∈ ls, x.f0.size ≤ B ∧ x.f1.size ≤ B ∧ x.f3.size ≤ B) (M : Nat) (hM : B < M ∧ ls.length < M) : ∀ n i : Nat, i + n = ls.length →
  cutroomref36_Valid.l1 (n + 1 + M) (i : Int) fs ls = some (allFrom (goodL ls) i n && (decide (fs.length ≤ 32) && decide (ls.length ≤ 16)))
 | 0, i, h => by
  rw [show 0 + 1 + M = M + 1 from by omega]
  simp only [cutroomref36_Valid.l1]
  rw [if_neg (by omega), allFrom, Bool.true_and]
  by_cases h1 : fs.length ≤ 32
  ·rw [if_pos (by omega), decide_eq_true h1, Bool.true_and]
   by_cases h2 : ls.length ≤ 16
   ·rw [decide_eq_true h2, decide_eq_true (by omega)]
   ·rw [decide_eq_false h2, decide_eq_false (by omega)]
  ·rw [if_neg (by omega), decide_eq_false h1, Bool.false_and]
 | n + 1, i, h => by
  have hi : i < ls.length := by omega
  have hx := hs _ (List.getElem_mem hi)
  rw [← rdLink ls i hi] at hx
  rw [show n + 1 + 1 + M = (n + 1 + M) + 1 from by omega]
  simp only [cutroomref36_Valid.l1]
  rw [if_pos (by omega), if_pos (by omega), refName_k _ (by omega) _ (by omega), Option.bind_some, refName_k _ (by omega) _ (by omega), Option.bind_some, refLink_k fs ls _ hl _ (by omega), Option.bind_some, refName_k _ (by omega) _ (by omega), Option.bind_some, wrap_nat i ls.length hi hl, refValid_l1 fs ls B hB hl hs M hM n (i + 1) (by omega), allFrom, goodL]
  cases h1 : vName (rd_T39 ls i).f0
  ·simp
  cases h2 : vName (rd_T39 ls i).f1
  ·simp
  by_cases h3 : linkV ls (rd_T39 ls i).f0 = (i : Int)
  ·cases h4 : (rd_T39 ls i).f3.toList with
   | nil => simp [h3]
   | cons a t =>
    cases h5 : vName (rd_T39 ls i).f3
    ·simp [h3]
    ·by_cases h6 : a :: t = (rd_T39 ls i).f0.toList
     ·simp [h3, ← h6]
     ·have h7 : (a :: t == (rd_T39 ls i).f0.toList) = false := beq_eq_false_iff_ne.2 h6
      simp [h3, h6, h7]
  ·have h7 : (linkV ls (rd_T39 ls i).f0 == (i : Int)) = false := beq_eq_false_iff_ne.2 h3
   simp [h3]
theorem refValid_l0 (fs : List S37) (ls : List S39) (B : Nat) (hB : B ≤ 140737488351232) (hf : fs.length ≤ 9223372036854775807) (hl : ls.length ≤ 9223372036854775807)
  (hs0 : ∀ x ∈ fs, x.f0.size ≤ B) (hs : ∀ x ∈ ls, x.f0.size ≤ B ∧ x.f1.size ≤ B ∧ x.f3.size ≤ B) (M : Nat) (hM : B < M ∧ ls.length < M ∧ fs.length < M) : ∀ n i : Nat, i + n = fs.length →
  cutroomref36_Valid.l0 (n + 1 + (ls.length + 1 + M)) (i : Int) fs ls = some (allFrom (goodF fs) i n && (allFrom (goodL ls) 0 ls.length && (decide (fs.length ≤ 32) && decide (ls.length ≤ 16))))
 | 0, i, h => by
  rw [show 0 + 1 + (ls.length + 1 + M) = (ls.length + 1 + M) + 1 from by omega]
  simp only [cutroomref36_Valid.l0]
  have h1 := refValid_l1 fs ls B hB hl hs M ⟨hM.1, hM.2.1⟩ ls.length 0 (by omega)
  rw [if_neg (by omega), allFrom, Bool.true_and, ← h1]
  rfl
 | n + 1, i, h => by
  have hi : i < fs.length := by omega
  have hx := hs0 _ (List.getElem_mem hi)
  rw [← rdFile fs i hi] at hx
  rw [show n + 1 + 1 + (ls.length + 1 + M) = (n + 1 + (ls.length + 1 + M)) + 1 from by omega]
  simp only [cutroomref36_Valid.l0]
  rw [if_pos (by omega), if_pos (by omega), refName_k _ (by omega) _ (by omega), Option.bind_some, refFile_k fs ls _ hf _ (by omega), Option.bind_some, wrap_nat i fs.length hi hf, refValid_l0 fs ls B hB hf hl hs0 hs M hM n (i + 1) (by omega), allFrom, goodF]
  cases h1 : vName (rd_T37 fs i).f0
  ·simp
  by_cases h3 : fileV fs (rd_T37 fs i).f0 = (i : Int)
  ·simp [h3]
  ·have h7 : (fileV fs (rd_T37 fs i).f0 == (i : Int)) = false := beq_eq_false_iff_ne.2 h3
   simp [h3]
def validB (fs : List S37) (ls : List S39) : Bool :=
 fs.all (fun x => vName x.f0) && ls.all linkOk && decide (fs.length ≤ 32) && decide (ls.length ≤ 16) && decide (fs.map (·.f0)).Nodup && decide (ls.map (·.f0)).Nodup
theorem good_eq (fs : List S37) (ls : List S39) : (allFrom (goodF fs) 0 fs.length && (allFrom (goodL ls) 0 ls.length && (decide (fs.length ≤ 32) && decide (ls.length ≤ 16)))) = validB fs ls := by
 have e0 := nodup_first (fun x : S37 => x.f0) fs
 have e1 := nodup_first (fun x : S39 => x.f0) ls
 rw [Bool.eq_iff_iff]
 unfold validB
 simp only [Bool.and_eq_true, decide_eq_true_eq, allFrom_iff, List.all_eq_true]
 constructor
 ·rintro ⟨h1, h2, h3, h4⟩
  have g1 : ∀ i (hi : i < fs.length), vName (fs[i]'hi).f0 = true ∧ fileV fs (fs[i]'hi).f0 = (i : Int) := fun i hi => by
   have h := h1 i (Nat.zero_le _) (by omega)
   unfold goodF at h
   rw [rdFile fs i hi] at h
   simpa using h
  have g2 : ∀ i (hi : i < ls.length), linkOk (ls[i]'hi) = true ∧ linkV ls (ls[i]'hi).f0 = (i : Int) := fun i hi => by
   have h := h2 i (Nat.zero_le _) (by omega)
   unfold goodL at h
   rw [rdLink ls i hi] at h
   simp only [Bool.and_eq_true, beq_iff_eq] at h
   obtain ⟨q1, q2, q3, q4⟩ := h
   refine ⟨?_, q3⟩
   unfold linkOk
   rw [q1, q2]
   rcases Bool.or_eq_true_iff.1 q4 with q5 | q5
   ·have hne : (ls[i]'hi).f0.toList.isEmpty = false := by
     cases hh : (ls[i]'hi).f0.toList.isEmpty
     ·rfl
     ·rw [vName_nil _ hh] at q1; cases q1
    have : ((ls[i]'hi).f3.toList == (ls[i]'hi).f0.toList) = false := by
     rw [List.isEmpty_iff.1 q5]
     cases hh : (ls[i]'hi).f0.toList with
     | nil => rw [hh] at hne; cases hne
     | cons a t => rfl
    rw [q5, this]; rfl
   ·rw [Bool.and_eq_true] at q5
    rw [q5.1, q5.2]; simp
  refine ⟨⟨⟨⟨⟨fun x hx => ?_, fun x hx => ?_⟩, h3⟩, h4⟩, e0.2 fun i hi => (g1 i hi).2⟩, e1.2 fun i hi => (g2 i hi).2⟩
  ·obtain ⟨j, hj, rfl⟩ := List.getElem_of_mem hx
   exact (g1 j hj).1
  ·obtain ⟨j, hj, rfl⟩ := List.getElem_of_mem hx
   exact (g2 j hj).1
 ·rintro ⟨⟨⟨⟨⟨h1, h2⟩, h3⟩, h4⟩, h5⟩, h6⟩
  refine ⟨fun j _ hj => ?_, fun j _ hj => ?_, h3, h4⟩
  ·have hj' : j < fs.length := by omega
   unfold goodF
   rw [rdFile fs j hj', h1 _ (List.getElem_mem hj'), Bool.true_and, beq_iff_eq]
   exact e0.1 h5 j hj'
  ·have hj' : j < ls.length := by omega
   have hk := h2 _ (List.getElem_mem hj')
   have hq : linkV ls (ls[j]'hj').f0 = (j : Int) := e1.1 h6 j hj'
   unfold goodL
   rw [rdLink ls j hj']
   unfold linkOk at hk
   simp only [Bool.and_eq_true] at hk
   obtain ⟨⟨⟨q1, q2⟩, q3⟩, q4⟩ := hk
   rw [q1, q2, hq, q4]
   rcases Bool.or_eq_true_iff.1 q3 with q5 | q5
   ·rw [q5]; simp
   ·rw [q5]; simp
theorem refValid_k (fs : List S37) (ls : List S39) (B : Nat) (hB : B ≤ 140737488351232) (hf : fs.length ≤ 9223372036854775807) (hl : ls.length ≤ 9223372036854775807)
  (hs0 : ∀ x ∈ fs, x.f0.size ≤ B) (hs : ∀ x ∈ ls, x.f0.size ≤ B ∧ x.f1.size ≤ B ∧ x.f3.size ≤ B) (K : Nat) (hK : 2 * fs.length + 2 * ls.length + B + 3 ≤ K) : cutroomref36_Valid.f K fs ls = some (validB fs ls) := by
 have h := refValid_l0 fs ls B hB hf hl hs0 hs (fs.length + ls.length + B + 1) ⟨by omega, by omega, by omega⟩ fs.length 0 (by omega)
 rw [good_eq] at h
 exact mono_le (f := fun k => cutroomref36_Valid.f k fs ls) (fun k => cutroomref36_Valid.mono fs ls k) h (by omega)
theorem valid_k (fs : List S37) (ls : List S39) (hs0 : ∀ x ∈ fs, x.f0.size ≤ 140737488351232) (hs : ∀ x ∈ ls, x.f0.size ≤ 140737488351232 ∧ x.f1.size ≤ 140737488351232 ∧ x.f3.size ≤ 140737488351232) : media_Valid.f fs ls = some (validB fs ls) := by
 unfold media_Valid.f validB
 rw [if_pos ⟨hs0, hs⟩]
def cutroomref36_Step.f (l0_0 : List S37) (l0_1 : List S39) (a1_0 : Int) (a1_1 a1_2 a1_3 : ByteArray) (a1_4 : Int) : Option (List S37 × List S39 × List S61 × Int) :=
 if (∀ x ∈ l0_0, x.f0.size ≤ 140737488351232) ∧ (∀ x ∈ l0_1, x.f0.size ≤ 140737488351232 ∧ x.f1.size ≤ 140737488351232 ∧ x.f3.size ≤ 140737488351232) ∧ a1_1.size ≤ 140737488351232 ∧ a1_2.size ≤ 140737488351232 ∧ a1_3.size ≤ 140737488351232 then media_Step.f l0_0 l0_1 a1_0 a1_1 a1_2 a1_3 a1_4 else none
set_option maxHeartbeats 4000000 in
set_option maxRecDepth 100000 in
theorem cutroomref36_Step.calls (A0_0 : Option Addr) (c0_0 : Nat) (l0_0 : List (S37)) (A0_1 : Option Addr) (c0_1 : Nat) (l0_1 : List (S39)) (a1_0 : Int) (a1_1 : ByteArray) (a1_2 : ByteArray) (a1_3 : ByteArray) (a1_4 : Int) (r1 : List (S37)) (r2 : List (S39)) (r3 : List (S61)) (r4 : Int) (w : World) (hr0_0 : Kd.C k37 w A0_0 l0_0.length l0_0) (hc0_0 : l0_0.length ≤ c0_0) (hr0_1 : Kd.C k39 w A0_1 l0_1.length l0_1) (hc0_1 : l0_1.length ≤ c0_1) (h : cutroomref36_Step.f l0_0 l0_1 a1_0 a1_1 a1_2 a1_3 a1_4 = some (r1, r2, r3, r4)) :
  Calls Try.prog 19 #[.agg #[.slice A0_0 l0_0.length c0_0, .slice A0_1 l0_1.length c0_1], .agg #[.int .i64 a1_0, .string a1_1, .string a1_2, .string a1_3, .int .u64 a1_4]] w fun e w' => ∃ v0_ v1_ v2_ : Value, e = .returned (.tuple #[.agg #[v0_, v1_], v2_, .int .i64 r4]) ∧ Kd.R k37 37 w' w.heap.size (fun _ => True) v0_ r1 ∧ Kd.R k39 39 w' w.heap.size (fun _ => True) v1_ r2 ∧ Kd.R k61 61 w' w.heap.size (fun _ => True) v2_ r3 ∧ Below w.heap.size w w' := by
 have hu30 := Try.underlying30
 have hu45 := Try.underlying45
 have hu39 := Try.underlying39
 have hr0_0' := hr0_0
 have hr0_1' := hr0_1
 have HRA := Aside0.mk hr0_0
 have HL0 := Aside0.mk hc0_0
 have HRB := Aside0.mk hr0_1
 have HL1 := Aside0.mk hc0_1
 clear hr0_0 hc0_0 hr0_1 hc0_1
 unfold cutroomref36_Step.f at h
 split at h
 case isFalse => cases h
 rename_i hsz
 have HSZ := Aside0.mk hsz
 have HLN0 := Aside0.mk (show l0_0.length ≤ 9223372036854775807 from hr0_0'.2.1)
 have HLN1 := Aside0.mk (show l0_1.length ≤ 9223372036854775807 from hr0_1'.2.1)
 clear hsz hr0_0' hr0_1'
 unfold media_Step.f at h
 obtain ⟨v, hv, h2⟩ := Option.bind_eq_some_iff.1 h
 have H := Aside0.mk h2
 have HV := Aside0.mk hv
 clear h hv h2
 go_enter Try.func19, Try.ntmps19
 go_wp2_with fail
 obtain ⟨w1, hw1⟩ : ∃ w', w' = ((w.alloc (.cells #[.slice A0_0 l0_0.length c0_0, .slice A0_1 l0_1.length c0_1] 30)).alloc (.cells #[.int .i64 a1_0, .string a1_1, .string a1_2, .string a1_3, .int .u64 a1_4] 45)).alloc (.cells #[.slice none 0 0, .slice none 0 0] 30) := ⟨_, rfl⟩
 obtain ⟨br, hbr⟩ : ∃ b, b = w.heap.size + 1 + 1 := ⟨_, rfl⟩
 obtain ⟨be, hbe⟩ : ∃ b, b = w.heap.size + 1 := ⟨_, rfl⟩
 obtain ⟨bs, hbs⟩ : ∃ b, b = w.heap.size := ⟨_, rfl⟩
 have HK1 := Aside0.mk (show Bks w w1 bs be br #[.slice A0_0 l0_0.length c0_0, .slice A0_1 l0_1.length c0_1] #[.int .i64 a1_0, .string a1_1, .string a1_2, .string a1_3, .int .u64 a1_4] by
  rw [hw1, hbs, hbe, hbr]
  refine ⟨blk_alloc (blk_alloc (blk_new _ _) _) _, blk_alloc ?_ _, ?_, below_alloc (below_alloc (below_alloc (Below.refl _ _) _) _) _, by omega⟩
  ·have h := blk_new (w.alloc (.cells #[.slice A0_0 l0_0.length c0_0, .slice A0_1 l0_1.length c0_1] 30)) (.cells #[.int .i64 a1_0, .string a1_1, .string a1_2, .string a1_3, .int .u64 a1_4] 45)
   simpa using h
  ·have h := blk_new ((w.alloc (.cells #[.slice A0_0 l0_0.length c0_0, .slice A0_1 l0_1.length c0_1] 30)).alloc (.cells #[.int .i64 a1_0, .string a1_1, .string a1_2, .string a1_3, .int .u64 a1_4] 45)) (.cells #[.slice none 0 0, .slice none 0 0] 30)
   simpa using h)
 rw [← hw1, ← hbr, ← hbe, ← hbs]
 clear hw1 hbr hbe hbs
 refine (cutroomref36_Valid.calls (2 * l0_0.length + 2 * l0_1.length + 140737488351232 + 3) _ _ _ _ _ _ v _ (Kd.C_below HRA.out HK1.out.2.2.2.1) HL0.out (Kd.C_below HRB.out HK1.out.2.2.2.1) HL1.out (by rw [← HV.out, valid_k _ _ HSZ.out.1 HSZ.out.2.1]; exact refValid_k l0_0 l0_1 140737488351232 (Nat.le_refl _) HLN0.out HLN1.out HSZ.out.1 HSZ.out.2.1 _ (Nat.le_refl _))).mono ?_
 rintro e w1a ⟨rfl, hb⟩
 have HKE := Aside0.mk (HK1.out.below hb)
 clear hb HK1
 cases v with
 | false =>
  have H2 := Aside0.mk ((if_neg (by simp)).symm.trans H.out)
  obtain ⟨rfl, rfl, rfl, rfl⟩ : [] = r1 ∧ [] = r2 ∧ [] = r3 ∧ 1 = r4 := by simpa using H2.out
  have he0 : w1a.cell? ⟨br, 0, none⟩ = some (.slice none 0 0) := (blk_cell HKE.out.2.2.1 0).trans rfl
  have he1 : w1a.cell? ⟨br, 1, none⟩ = some (.slice none 0 0) := (blk_cell HKE.out.2.2.1 1).trans rfl
  have hef0 := blk_frozen HKE.out.2.2.1 0
  have hef1 := blk_frozen HKE.out.2.2.1 1
  go_wp2
  refine bodyPost_ret (results_ctt rfl _ _ br 30 #[.slice none 0 0, .slice none 0 0] (0, 0) _ rfl (blk_put (blk_put HKE.out.2.2.1 0 _ rfl) 1 _ rfl) Try.underlying30 rfl (by kernel_rfl)) rfl ?_
  exact ⟨_, _, _, rfl, Kd.R_nil _ _ _ _ _, Kd.R_nil _ _ _ _ _, Kd.R_nil _ _ _ _ _, below_set (below_set HKE.out.2.2.2.1 HKE.out.2.2.2.2) HKE.out.2.2.2.2⟩
 | true =>
  have H2 := (if_pos rfl).symm.trans H.out
  obtain ⟨o, ho, h3⟩ := Option.bind_eq_some_iff.1 H2
  have HO := Aside0.mk ho
  have H3 := Aside0.mk h3
  clear ho h3 H2 H
  have hx0 : w1a.cell? ⟨be, 0, none⟩ = some (.int .i64 a1_0) := (blk_cell HKE.out.2.1 0).trans rfl
  have hx1 : w1a.cell? ⟨be, 1, none⟩ = some (.string a1_1) := (blk_cell HKE.out.2.1 1).trans rfl
  have hx2 : w1a.cell? ⟨be, 2, none⟩ = some (.string a1_2) := (blk_cell HKE.out.2.1 2).trans rfl
  have hx3 : w1a.cell? ⟨be, 3, none⟩ = some (.string a1_3) := (blk_cell HKE.out.2.1 3).trans rfl
  have hx4 : w1a.cell? ⟨be, 4, none⟩ = some (.int .u64 a1_4) := (blk_cell HKE.out.2.1 4).trans rfl
  go_wp2_with fail
  refine (cutroomref36_event.calls a1_0 a1_1 a1_2 a1_3 a1_4 o _ (by rw [← HO.out, valid_f _ _ _ _ _ HSZ.out.2.2.1 HSZ.out.2.2.2.1 HSZ.out.2.2.2.2]; unfold cutroomref36_event.f; rw [if_pos ⟨HSZ.out.2.2.1, HSZ.out.2.2.2.1, HSZ.out.2.2.2.2⟩])).mono ?_
  rintro e w2 ⟨rfl, hb⟩
  have HK2 := Aside0.mk (HKE.out.below hb)
  clear hb HKE hx0 hx1 hx2 hx3 hx4
  cases o with
  | false =>
   have HKE := HK2
   obtain ⟨rfl, rfl, rfl, rfl⟩ : [] = r1 ∧ [] = r2 ∧ [] = r3 ∧ 1 = r4 := by have h := (if_neg (by simp)).symm.trans H3.out; simpa using h
   have he0 : w2.cell? ⟨br, 0, none⟩ = some (.slice none 0 0) := (blk_cell HKE.out.2.2.1 0).trans rfl
   have he1 : w2.cell? ⟨br, 1, none⟩ = some (.slice none 0 0) := (blk_cell HKE.out.2.2.1 1).trans rfl
   have hef0 := blk_frozen HKE.out.2.2.1 0
   have hef1 := blk_frozen HKE.out.2.2.1 1
   go_wp2
   refine bodyPost_ret (results_ctt rfl _ _ br 30 #[.slice none 0 0, .slice none 0 0] (0, 0) _ rfl (blk_put (blk_put HKE.out.2.2.1 0 _ rfl) 1 _ rfl) Try.underlying30 rfl (by kernel_rfl)) rfl ?_
   exact ⟨_, _, _, rfl, Kd.R_nil _ _ _ _ _, Kd.R_nil _ _ _ _ _, Kd.R_nil _ _ _ _ _, below_set (below_set HKE.out.2.2.2.1 HKE.out.2.2.2.2) HKE.out.2.2.2.2⟩
  | true =>
   have H4 := Aside0.mk (Option.some.inj ((if_pos rfl).symm.trans H3.out))
   have HLIM0 := Aside0.mk (show l0_0.length * 32 ≤ 140737488355328 from by have h := valid_len HV.out; omega)
   have HLIM1 := Aside0.mk (show l0_1.length * 56 ≤ 140737488355328 from by have h := valid_len HV.out; omega)
   clear H3
   go_wp2
   refine start_ (n := 11) (S := fun w' => w'.cell? ⟨bs, 0, none⟩ = some (.slice A0_0 l0_0.length c0_0) ∧ w'.cell? ⟨bs, 1, none⟩ = some (.slice A0_1 l0_1.length c0_1)) (ds := [10]) #[false, false, false, false, false, false, false, false, false, false, false] (by kernel_rfl) rfl rfl ⟨((blk_cell HK2.out.1 0).trans rfl), ((blk_cell HK2.out.1 1).trans rfl)⟩ (fun hHeld => ?_)
   generalize hw3 : w2.drew = w3 at hHeld ⊢
   have HK3 := Aside0.mk (show Bks w w3 bs be br #[.slice A0_0 l0_0.length c0_0, .slice A0_1 l0_1.length c0_1] #[.int .i64 a1_0, .string a1_1, .string a1_2, .string a1_3, .int .u64 a1_4] from hw3 ▸ HK2.out.below (below_drew (Below.refl _ _)))
   have HC0 := Aside0.mk (Kd.C_below HRA.out HK3.out.2.2.2.1)
   have HC1 := Aside0.mk (Kd.C_below HRB.out HK3.out.2.2.2.1)
   have HB3 := Aside0.mk (Below.refl w3.heap.size w3)
   clear hw3
   refine plan_ [(1, 22, false), (5, 26, false), (2, 23, true), (6, 27, true)] ?_
   repeat (first
    | (
     refine plan_pure (v := ?_) (a' := ?_) rfl rfl (by kernel_rfl) (Or.inl ⟨by rfl, ?_⟩) ?_ ?_ (fun _ _ _ h => h)
     rotate_left
     ·intro w'
      go_simp
      with_reducible rfl
     rotate_left
     ·simp only [Act.put, List.setIfInBounds_toArray, List.set_cons_zero, List.set_cons_succ, i64_w, i32_w]
      rfl)
    | (
     refine plan_take (v := ?_) (a' := ?_) rfl rfl (by kernel_rfl) (Or.inl ⟨by rfl, ?_⟩) hHeld ?_ ?_ (fun _ _ _ h => h)
     rotate_left
     ·rintro w' ⟨s0, s1⟩
      go_simp
      with_reducible rfl
     rotate_left
     ·simp only [Act.put, List.setIfInBounds_toArray, List.set_cons_zero, List.set_cons_succ, i64_w, i32_w]
      rfl))
   refine plan_end ?_
   refine join_ (σ := Value × Value × Option Addr × Nat × Option Addr × Nat × Nat) 1 #[true, true, true, true, true, true, true, true, true, true, false] (fun s => [(21, s.1), (25, s.2.1), (24, Value.slice s.2.2.1 l0_0.length s.2.2.2.1), (28, Value.slice s.2.2.2.2.1 l0_1.length s.2.2.2.2.2.1), (7, Value.pointer (some ⟨s.2.2.2.2.2.2, 0, none⟩)), (29, Value.agg #[Value.slice s.2.2.1 l0_0.length s.2.2.2.1, Value.slice s.2.2.2.2.1 l0_1.length s.2.2.2.2.2.1])]) (fun s w' => Aside0 (Kd.R k37 37 w' w3.heap.size (fun _ => True) (.slice s.2.2.1 l0_0.length s.2.2.2.1) l0_0) ∧ Aside0 (Kd.R k39 39 w' w3.heap.size (fun _ => True) (.slice s.2.2.2.2.1 l0_1.length s.2.2.2.2.2.1) l0_1) ∧ Aside0 (w'.heap[s.2.2.2.2.2.2]? = some (.cells #[.slice none 0 0, .slice none 0 0] 30 (0, 0))) ∧ Aside0 (Below w3.heap.size w3 w') ∧ Aside0 (w3.heap.size ≤ s.2.2.2.2.2.2)) ?_ ?_
   rotate_left
   ·intro hCont
    refine three_ (i := 0) (j := 4) (k := 9) (Ni := some 21) (Nj := some 25) (Nk := some 7) #[true, true, true, false, false, true, true, false, false, false, false] #[false, true, true, false, true, true, true, false, false, false, false] #[false, true, true, false, false, true, true, false, false, true, false] rfl rfl rfl rfl rfl rfl (by kernel_rfl) (by decide) (by decide) (by decide) (fun K hK => ?_) (fun K hK => ?_) (fun K hK => ?_)
    ·skip
     refine Kd.R_lit_step (w0 := w3) k37 w3.heap.size 37 (by rfl) (N := 21) (by rfl) (xs := []) (inner := []) (ok := fun _ => True) (okp := fun _ => True) ?hr (Reps.none _ _) (fun _ hk => hk) trivial HB3.out HB3.out.size (by simp) ?_
     (case hr => first | (go_simp; done) | (go_simp; rfl))
     intro v0 w4 ho hb1 hg1 hat1
     have hb : Below w3.heap.size w3 w4 := ⟨hg1.os, hg1.tape, hg1.output, hg1.size, fun k hk => hg1.block k hk (by simp)⟩
     have HB4 := Aside0.mk hb1
     have HE04 := Aside0.mk ho
     clear ho hb1 hg1 hat1 hb
     refine hK.out _ _ ⟨((HK3.out.below HB4.out).1 |> fun h => (blk_cell h 0).trans rfl), ((HK3.out.below HB4.out).1 |> fun h => (blk_cell h 1).trans rfl)⟩ (fun hHeld => ?_)
     clear hK K
     refine norm_ (a' := ?_) ?_ ?_
     rotate_left
     ·show Act.put _ (some 21) _ = _
      simp only [Act.put, List.setIfInBounds_toArray, List.set_cons_zero, List.set_cons_succ, i64_w, i32_w]
      rfl
     refine three_ (i := 3) (j := 4) (k := 9) (Ni := some 24) (Nj := some 25) (Nk := some 7) #[true, true, true, true, false, true, true, false, false, false, false] #[true, true, true, false, true, true, true, false, false, false, false] #[true, true, true, false, false, true, true, false, false, true, false] rfl rfl rfl rfl rfl rfl (by kernel_rfl) (by decide) (by decide) (by decide) (fun K hK => ?_) (fun K hK => ?_) (fun K hK => ?_)
     ·skip
      refine Kd.R_append_rows_step (w0 := w3) k37 w3.heap.size (by rfl) (.tmp 21) (.tmp 23) 27 37 (.agg #[.string ⟨#[]⟩, .int .u64 0, .bool false]) 32 rfl Try.underlying27 info37 rfl (by decide) (by omega) v0 [] l0_0 _ _ _ (fun _ => True) (fun _ => False) rfl rfl ?aO ?aR (fun _ _ h => h) (fun _ h => h.elim) (fun _ _ => trivial) ?aB ?aS ?aL ?_
      (case aO => exact HE04.out)
      (case aR => exact Kd.C_below HC0.out HB4.out)
      (case aB => exact HB4.out)
      (case aS => exact HB4.out.size)
      (case aL => have := HLIM0.out; simp only [List.length_nil]; omega)
      intro u0 w5 ho hb1 hg1 hat1
      obtain ⟨A0p, c0p, rfl⟩ := Kd.R_slice ho
      have HB5 := Aside0.mk hb1
      have HR05 := Aside0.mk (show Kd.R k37 37 w5 w3.heap.size (fun _ => True) (.slice A0p l0_0.length c0p) l0_0 by simpa using ho)
      (try simp only [List.nil_append])
      clear ho hb1 hg1 hat1
      refine hK.out _ _ ⟨((HK3.out.below HB5.out).1 |> fun h => (blk_cell h 0).trans rfl), ((HK3.out.below HB5.out).1 |> fun h => (blk_cell h 1).trans rfl)⟩ (fun hHeld => ?_)
      clear hK K
      refine norm_ (a' := ?_) ?_ ?_
      rotate_left
      ·show Act.put _ (some 24) _ = _
       simp only [Act.put, List.setIfInBounds_toArray, List.set_cons_zero, List.set_cons_succ, i64_w, i32_w]
       rfl
      refine two_ (i := 4) (j := 9) (Ni := some 25) (Nj := some 7) #[true, true, true, true, true, true, true, false, false, false, false] #[true, true, true, true, false, true, true, false, false, true, false] rfl rfl rfl rfl (by kernel_rfl) (by decide) (by decide) (fun K hK => ?_) (fun K hK => ?_)
      ·skip
       refine Kd.R_lit_step (w0 := w3) k39 w3.heap.size 39 (by rfl) (N := 25) (by rfl) (xs := []) (inner := []) (ok := fun _ => True) (okp := fun _ => True) ?hr (Reps.none _ _) (fun _ hk => hk) trivial HB5.out HB5.out.size (by simp) ?_
       (case hr => first | (go_simp; done) | (go_simp; rfl))
       intro v1 w6 ho hb1 hg1 hat1
       have hb : Below w5.heap.size w5 w6 := ⟨hg1.os, hg1.tape, hg1.output, hg1.size, fun k hk => hg1.block k hk (by simp)⟩
       have HR06 := Aside0.mk (Kd.R_below HR05.out hb)
       have HB6 := Aside0.mk hb1
       have HE16 := Aside0.mk ho
       clear ho hb1 hg1 hat1 hb
       refine hK.out _ _ ⟨((HK3.out.below HB6.out).1 |> fun h => (blk_cell h 0).trans rfl), ((HK3.out.below HB6.out).1 |> fun h => (blk_cell h 1).trans rfl)⟩ (fun hHeld => ?_)
       clear hK K
       refine norm_ (a' := ?_) ?_ ?_
       rotate_left
       ·show Act.put _ (some 25) _ = _
        simp only [Act.put, List.setIfInBounds_toArray, List.set_cons_zero, List.set_cons_succ, i64_w, i32_w]
        rfl
       refine two_ (i := 7) (j := 9) (Ni := some 28) (Nj := some 7) #[true, true, true, true, true, true, true, true, false, false, false] #[true, true, true, true, true, true, true, false, false, true, false] rfl rfl rfl rfl (by kernel_rfl) (by decide) (by decide) (fun K hK => ?_) (fun K hK => ?_)
       ·skip
        refine Kd.R_append_rows_step (w0 := w3) k39 w3.heap.size (by rfl) (.tmp 25) (.tmp 27) 28 39 (.agg #[.string ⟨#[]⟩, .string ⟨#[]⟩, .int .u64 0, .string ⟨#[]⟩]) 56 rfl Try.underlying28 info39 rfl (by decide) (by omega) v1 [] l0_1 _ _ _ (fun _ => True) (fun _ => False) rfl rfl ?aO ?aR (fun _ _ h => h) (fun _ h => h.elim) (fun _ _ => trivial) ?aB ?aS ?aL ?_
        (case aO => exact HE16.out)
        (case aR => exact Kd.C_below HC1.out HB6.out)
        (case aB => exact HB6.out)
        (case aS => exact HB6.out.size)
        (case aL => have := HLIM1.out; simp only [List.length_nil]; omega)
        intro u1 w7 ho hb1 hg1 hat1
        obtain ⟨A1p, c1p, rfl⟩ := Kd.R_slice ho
        have HR07 := Aside0.mk (Kd.R_over' HR06.out (Kd.R_typed (HE16.out)) (by decide) hg1)
        have HB7 := Aside0.mk hb1
        have HR17 := Aside0.mk (show Kd.R k39 39 w7 w3.heap.size (fun _ => True) (.slice A1p l0_1.length c1p) l0_1 by simpa using ho)
        (try simp only [List.nil_append])
        clear ho hb1 hg1 hat1
        refine hK.out _ _ ⟨((HK3.out.below HB7.out).1 |> fun h => (blk_cell h 0).trans rfl), ((HK3.out.below HB7.out).1 |> fun h => (blk_cell h 1).trans rfl)⟩ (fun hHeld => ?_)
        clear hK K
        refine norm_ (a' := ?_) ?_ ?_
        rotate_left
        ·show Act.put _ (some 28) _ = _
         simp only [Act.put, List.setIfInBounds_toArray, List.set_cons_zero, List.set_cons_succ, i64_w, i32_w]
         rfl
        refine pure_ (i := 8) (N := some 29) (v := ?_) (a' := ?_) #[true, true, true, true, true, true, true, true, true, false, false] rfl rfl (by kernel_rfl) (fun _ _ _ h => h) (Or.inl ⟨by rfl, ?_⟩) ?_ ?_
        rotate_left
        ·intro w'
         go_simp
         with_reducible rfl
        rotate_left
        ·simp only [Act.put, List.setIfInBounds_toArray, List.set_cons_zero, List.set_cons_succ, i64_w, i32_w]
         rfl
        refine one_ (i := 9) (N := some 7) #[true, true, true, true, true, true, true, true, true, true, false] rfl rfl (by kernel_rfl) (by decide) (fun K hK => ?_)
        refine value_ (w1 := ?_) (v := ?_) (by rfl) rfl ?_ ?_
        rotate_left 2
        ·go_simp
         constructor
         ·rfl
         ·rfl
        obtain ⟨w8, hw⟩ : ∃ w', w' = w7.alloc (.cells #[.slice none 0 0, .slice none 0 0] 30) := ⟨_, rfl⟩
        rw [← hw]
        have hb : Below w7.heap.size w7 w8 := hw ▸ below_alloc (Below.refl _ _) _
        have HN8 := Aside0.mk (show w8.heap[w7.heap.size]? = some (.cells #[.slice none 0 0, .slice none 0 0] 30 (0, 0)) from hw ▸ blk_new _ _)
        have HR08 := Aside0.mk (Kd.R_below HR07.out hb)
        have HR18 := Aside0.mk (Kd.R_below HR17.out hb)
        have HB8 := Aside0.mk (below_step HB7.out hb)
        clear hb hw
        refine hK.out _ _ ⟨((HK3.out.below HB8.out).1 |> fun h => (blk_cell h 0).trans rfl), ((HK3.out.below HB8.out).1 |> fun h => (blk_cell h 1).trans rfl)⟩ (fun hHeld => ?_)
        clear hK K
        refine norm_ (a' := ?_) ?_ ?_
        rotate_left
        ·show Act.put _ (some 7) _ = _
         simp only [Act.put, List.setIfInBounds_toArray, List.set_cons_zero, List.set_cons_succ, i64_w, i32_w]
         rfl
        exact norm_ (by simp only [putAll, Act.put, List.setIfInBounds_toArray, List.set_cons_zero, List.set_cons_succ]) (hCont (v0, v1, A0p, c0p, A1p, c1p, w7.heap.size) _ ⟨HR08, HR18, HN8, HB8, ⟨HB7.out.size⟩⟩)
       ·skip
        refine value_ (w1 := ?_) (v := ?_) (by rfl) rfl ?_ ?_
        rotate_left 2
        ·go_simp
         constructor
         ·rfl
         ·rfl
        obtain ⟨w7, hw⟩ : ∃ w', w' = w6.alloc (.cells #[.slice none 0 0, .slice none 0 0] 30) := ⟨_, rfl⟩
        rw [← hw]
        have hb : Below w6.heap.size w6 w7 := hw ▸ below_alloc (Below.refl _ _) _
        have HN7 := Aside0.mk (show w7.heap[w6.heap.size]? = some (.cells #[.slice none 0 0, .slice none 0 0] 30 (0, 0)) from hw ▸ blk_new _ _)
        have HR07 := Aside0.mk (Kd.R_below HR06.out hb)
        have HE17 := Aside0.mk (Kd.R_below HE16.out hb)
        have HB7 := Aside0.mk (below_step HB6.out hb)
        clear hb hw
        refine hK.out _ _ ⟨((HK3.out.below HB7.out).1 |> fun h => (blk_cell h 0).trans rfl), ((HK3.out.below HB7.out).1 |> fun h => (blk_cell h 1).trans rfl)⟩ (fun hHeld => ?_)
        clear hK K
        refine norm_ (a' := ?_) ?_ ?_
        rotate_left
        ·show Act.put _ (some 7) _ = _
         simp only [Act.put, List.setIfInBounds_toArray, List.set_cons_zero, List.set_cons_succ, i64_w, i32_w]
         rfl
        refine one_ (i := 7) (N := some 28) #[true, true, true, true, true, true, true, true, false, true, false] rfl rfl (by kernel_rfl) (by decide) (fun K hK => ?_)
        refine Kd.R_append_rows_step (w0 := w3) k39 w3.heap.size (by rfl) (.tmp 25) (.tmp 27) 28 39 (.agg #[.string ⟨#[]⟩, .string ⟨#[]⟩, .int .u64 0, .string ⟨#[]⟩]) 56 rfl Try.underlying28 info39 rfl (by decide) (by omega) v1 [] l0_1 _ _ _ (fun _ => True) (fun _ => False) rfl rfl ?aO ?aR (fun _ _ h => h) (fun _ h => h.elim) (fun _ _ => trivial) ?aB ?aS ?aL ?_
        (case aO => exact HE17.out)
        (case aR => exact Kd.C_below HC1.out HB7.out)
        (case aB => exact HB7.out)
        (case aS => exact HB7.out.size)
        (case aL => have := HLIM1.out; simp only [List.length_nil]; omega)
        intro u1 w8 ho hb1 hg1 hat1
        obtain ⟨A1p, c1p, rfl⟩ := Kd.R_slice ho
        have HR08 := Aside0.mk (Kd.R_over' HR07.out (Kd.R_typed (HE17.out)) (by decide) hg1)
        have HN8 := Aside0.mk (blk_grown HN7.out hg1 (Kd.R_ne HE17.out HN7.out (by decide)))
        have HB8 := Aside0.mk hb1
        have HR18 := Aside0.mk (show Kd.R k39 39 w8 w3.heap.size (fun _ => True) (.slice A1p l0_1.length c1p) l0_1 by simpa using ho)
        (try simp only [List.nil_append])
        clear ho hb1 hg1 hat1
        refine hK.out _ _ ⟨((HK3.out.below HB8.out).1 |> fun h => (blk_cell h 0).trans rfl), ((HK3.out.below HB8.out).1 |> fun h => (blk_cell h 1).trans rfl)⟩ (fun hHeld => ?_)
        clear hK K
        refine norm_ (a' := ?_) ?_ ?_
        rotate_left
        ·show Act.put _ (some 28) _ = _
         simp only [Act.put, List.setIfInBounds_toArray, List.set_cons_zero, List.set_cons_succ, i64_w, i32_w]
         rfl
        refine pure_ (i := 8) (N := some 29) (v := ?_) (a' := ?_) #[true, true, true, true, true, true, true, true, true, true, false] rfl rfl (by kernel_rfl) (fun _ _ _ h => h) (Or.inl ⟨by rfl, ?_⟩) ?_ ?_
        rotate_left
        ·intro w'
         go_simp
         with_reducible rfl
        rotate_left
        ·simp only [Act.put, List.setIfInBounds_toArray, List.set_cons_zero, List.set_cons_succ, i64_w, i32_w]
         rfl
        exact norm_ (by simp only [putAll, Act.put, List.setIfInBounds_toArray, List.set_cons_zero, List.set_cons_succ]) (hCont (v0, v1, A0p, c0p, A1p, c1p, w6.heap.size) _ ⟨HR08, HR18, HN8, HB8, ⟨HB6.out.size⟩⟩)
      ·skip
       refine value_ (w1 := ?_) (v := ?_) (by rfl) rfl ?_ ?_
       rotate_left 2
       ·go_simp
        constructor
        ·rfl
        ·rfl
       obtain ⟨w6, hw⟩ : ∃ w', w' = w5.alloc (.cells #[.slice none 0 0, .slice none 0 0] 30) := ⟨_, rfl⟩
       rw [← hw]
       have hb : Below w5.heap.size w5 w6 := hw ▸ below_alloc (Below.refl _ _) _
       have HN6 := Aside0.mk (show w6.heap[w5.heap.size]? = some (.cells #[.slice none 0 0, .slice none 0 0] 30 (0, 0)) from hw ▸ blk_new _ _)
       have HR06 := Aside0.mk (Kd.R_below HR05.out hb)
       have HB6 := Aside0.mk (below_step HB5.out hb)
       clear hb hw
       refine hK.out _ _ ⟨((HK3.out.below HB6.out).1 |> fun h => (blk_cell h 0).trans rfl), ((HK3.out.below HB6.out).1 |> fun h => (blk_cell h 1).trans rfl)⟩ (fun hHeld => ?_)
       clear hK K
       refine norm_ (a' := ?_) ?_ ?_
       rotate_left
       ·show Act.put _ (some 7) _ = _
        simp only [Act.put, List.setIfInBounds_toArray, List.set_cons_zero, List.set_cons_succ, i64_w, i32_w]
        rfl
       refine one_ (i := 4) (N := some 25) #[true, true, true, true, true, true, true, false, false, true, false] rfl rfl (by kernel_rfl) (by decide) (fun K hK => ?_)
       refine Kd.R_lit_step (w0 := w3) k39 w3.heap.size 39 (by rfl) (N := 25) (by rfl) (xs := []) (inner := []) (ok := fun _ => True) (okp := fun _ => True) ?hr (Reps.none _ _) (fun _ hk => hk) trivial HB6.out HB6.out.size (by simp) ?_
       (case hr => first | (go_simp; done) | (go_simp; rfl))
       intro v1 w7 ho hb1 hg1 hat1
       have hb : Below w6.heap.size w6 w7 := ⟨hg1.os, hg1.tape, hg1.output, hg1.size, fun k hk => hg1.block k hk (by simp)⟩
       have HR07 := Aside0.mk (Kd.R_below HR06.out hb)
       have HN7 := Aside0.mk (blk_below HN6.out hb)
       have HB7 := Aside0.mk hb1
       have HE17 := Aside0.mk ho
       clear ho hb1 hg1 hat1 hb
       refine hK.out _ _ ⟨((HK3.out.below HB7.out).1 |> fun h => (blk_cell h 0).trans rfl), ((HK3.out.below HB7.out).1 |> fun h => (blk_cell h 1).trans rfl)⟩ (fun hHeld => ?_)
       clear hK K
       refine norm_ (a' := ?_) ?_ ?_
       rotate_left
       ·show Act.put _ (some 25) _ = _
        simp only [Act.put, List.setIfInBounds_toArray, List.set_cons_zero, List.set_cons_succ, i64_w, i32_w]
        rfl
       refine one_ (i := 7) (N := some 28) #[true, true, true, true, true, true, true, true, false, true, false] rfl rfl (by kernel_rfl) (by decide) (fun K hK => ?_)
       refine Kd.R_append_rows_step (w0 := w3) k39 w3.heap.size (by rfl) (.tmp 25) (.tmp 27) 28 39 (.agg #[.string ⟨#[]⟩, .string ⟨#[]⟩, .int .u64 0, .string ⟨#[]⟩]) 56 rfl Try.underlying28 info39 rfl (by decide) (by omega) v1 [] l0_1 _ _ _ (fun _ => True) (fun _ => False) rfl rfl ?aO ?aR (fun _ _ h => h) (fun _ h => h.elim) (fun _ _ => trivial) ?aB ?aS ?aL ?_
       (case aO => exact HE17.out)
       (case aR => exact Kd.C_below HC1.out HB7.out)
       (case aB => exact HB7.out)
       (case aS => exact HB7.out.size)
       (case aL => have := HLIM1.out; simp only [List.length_nil]; omega)
       intro u1 w8 ho hb1 hg1 hat1
       obtain ⟨A1p, c1p, rfl⟩ := Kd.R_slice ho
       have HR08 := Aside0.mk (Kd.R_over' HR07.out (Kd.R_typed (HE17.out)) (by decide) hg1)
       have HN8 := Aside0.mk (blk_grown HN7.out hg1 (Kd.R_ne HE17.out HN7.out (by decide)))
       have HB8 := Aside0.mk hb1
       have HR18 := Aside0.mk (show Kd.R k39 39 w8 w3.heap.size (fun _ => True) (.slice A1p l0_1.length c1p) l0_1 by simpa using ho)
       (try simp only [List.nil_append])
       clear ho hb1 hg1 hat1
       refine hK.out _ _ ⟨((HK3.out.below HB8.out).1 |> fun h => (blk_cell h 0).trans rfl), ((HK3.out.below HB8.out).1 |> fun h => (blk_cell h 1).trans rfl)⟩ (fun hHeld => ?_)
       clear hK K
       refine norm_ (a' := ?_) ?_ ?_
       rotate_left
       ·show Act.put _ (some 28) _ = _
        simp only [Act.put, List.setIfInBounds_toArray, List.set_cons_zero, List.set_cons_succ, i64_w, i32_w]
        rfl
       refine pure_ (i := 8) (N := some 29) (v := ?_) (a' := ?_) #[true, true, true, true, true, true, true, true, true, true, false] rfl rfl (by kernel_rfl) (fun _ _ _ h => h) (Or.inl ⟨by rfl, ?_⟩) ?_ ?_
       rotate_left
       ·intro w'
        go_simp
        with_reducible rfl
       rotate_left
       ·simp only [Act.put, List.setIfInBounds_toArray, List.set_cons_zero, List.set_cons_succ, i64_w, i32_w]
        rfl
       exact norm_ (by simp only [putAll, Act.put, List.setIfInBounds_toArray, List.set_cons_zero, List.set_cons_succ]) (hCont (v0, v1, A0p, c0p, A1p, c1p, w5.heap.size) _ ⟨HR08, HR18, HN8, HB8, ⟨HB5.out.size⟩⟩)
     ·skip
      refine Kd.R_lit_step (w0 := w3) k39 w3.heap.size 39 (by rfl) (N := 25) (by rfl) (xs := []) (inner := []) (ok := fun _ => True) (okp := fun _ => True) ?hr (Reps.none _ _) (fun _ hk => hk) trivial HB4.out HB4.out.size (by simp) ?_
      (case hr => first | (go_simp; done) | (go_simp; rfl))
      intro v1 w5 ho hb1 hg1 hat1
      have hb : Below w4.heap.size w4 w5 := ⟨hg1.os, hg1.tape, hg1.output, hg1.size, fun k hk => hg1.block k hk (by simp)⟩
      have HE05 := Aside0.mk (Kd.R_below HE04.out hb)
      have HB5 := Aside0.mk hb1
      have HE15 := Aside0.mk ho
      clear ho hb1 hg1 hat1 hb
      refine hK.out _ _ ⟨((HK3.out.below HB5.out).1 |> fun h => (blk_cell h 0).trans rfl), ((HK3.out.below HB5.out).1 |> fun h => (blk_cell h 1).trans rfl)⟩ (fun hHeld => ?_)
      clear hK K
      refine norm_ (a' := ?_) ?_ ?_
      rotate_left
      ·show Act.put _ (some 25) _ = _
       simp only [Act.put, List.setIfInBounds_toArray, List.set_cons_zero, List.set_cons_succ, i64_w, i32_w]
       rfl
      refine two_ (i := 3) (j := 9) (Ni := some 24) (Nj := some 7) #[true, true, true, true, true, true, true, false, false, false, false] #[true, true, true, false, true, true, true, false, false, true, false] rfl rfl rfl rfl (by kernel_rfl) (by decide) (by decide) (fun K hK => ?_) (fun K hK => ?_)
      ·skip
       refine Kd.R_append_rows_step (w0 := w3) k37 w3.heap.size (by rfl) (.tmp 21) (.tmp 23) 27 37 (.agg #[.string ⟨#[]⟩, .int .u64 0, .bool false]) 32 rfl Try.underlying27 info37 rfl (by decide) (by omega) v0 [] l0_0 _ _ _ (fun _ => True) (fun _ => False) rfl rfl ?aO ?aR (fun _ _ h => h) (fun _ h => h.elim) (fun _ _ => trivial) ?aB ?aS ?aL ?_
       (case aO => exact HE05.out)
       (case aR => exact Kd.C_below HC0.out HB5.out)
       (case aB => exact HB5.out)
       (case aS => exact HB5.out.size)
       (case aL => have := HLIM0.out; simp only [List.length_nil]; omega)
       intro u0 w6 ho hb1 hg1 hat1
       obtain ⟨A0p, c0p, rfl⟩ := Kd.R_slice ho
       have HE16 := Aside0.mk (Kd.R_over' HE15.out (Kd.R_typed (HE05.out)) (by decide) hg1)
       have HB6 := Aside0.mk hb1
       have HR06 := Aside0.mk (show Kd.R k37 37 w6 w3.heap.size (fun _ => True) (.slice A0p l0_0.length c0p) l0_0 by simpa using ho)
       (try simp only [List.nil_append])
       clear ho hb1 hg1 hat1
       refine hK.out _ _ ⟨((HK3.out.below HB6.out).1 |> fun h => (blk_cell h 0).trans rfl), ((HK3.out.below HB6.out).1 |> fun h => (blk_cell h 1).trans rfl)⟩ (fun hHeld => ?_)
       clear hK K
       refine norm_ (a' := ?_) ?_ ?_
       rotate_left
       ·show Act.put _ (some 24) _ = _
        simp only [Act.put, List.setIfInBounds_toArray, List.set_cons_zero, List.set_cons_succ, i64_w, i32_w]
        rfl
       refine two_ (i := 7) (j := 9) (Ni := some 28) (Nj := some 7) #[true, true, true, true, true, true, true, true, false, false, false] #[true, true, true, true, true, true, true, false, false, true, false] rfl rfl rfl rfl (by kernel_rfl) (by decide) (by decide) (fun K hK => ?_) (fun K hK => ?_)
       ·skip
        refine Kd.R_append_rows_step (w0 := w3) k39 w3.heap.size (by rfl) (.tmp 25) (.tmp 27) 28 39 (.agg #[.string ⟨#[]⟩, .string ⟨#[]⟩, .int .u64 0, .string ⟨#[]⟩]) 56 rfl Try.underlying28 info39 rfl (by decide) (by omega) v1 [] l0_1 _ _ _ (fun _ => True) (fun _ => False) rfl rfl ?aO ?aR (fun _ _ h => h) (fun _ h => h.elim) (fun _ _ => trivial) ?aB ?aS ?aL ?_
        (case aO => exact HE16.out)
        (case aR => exact Kd.C_below HC1.out HB6.out)
        (case aB => exact HB6.out)
        (case aS => exact HB6.out.size)
        (case aL => have := HLIM1.out; simp only [List.length_nil]; omega)
        intro u1 w7 ho hb1 hg1 hat1
        obtain ⟨A1p, c1p, rfl⟩ := Kd.R_slice ho
        have HR07 := Aside0.mk (Kd.R_over' HR06.out (Kd.R_typed (HE16.out)) (by decide) hg1)
        have HB7 := Aside0.mk hb1
        have HR17 := Aside0.mk (show Kd.R k39 39 w7 w3.heap.size (fun _ => True) (.slice A1p l0_1.length c1p) l0_1 by simpa using ho)
        (try simp only [List.nil_append])
        clear ho hb1 hg1 hat1
        refine hK.out _ _ ⟨((HK3.out.below HB7.out).1 |> fun h => (blk_cell h 0).trans rfl), ((HK3.out.below HB7.out).1 |> fun h => (blk_cell h 1).trans rfl)⟩ (fun hHeld => ?_)
        clear hK K
        refine norm_ (a' := ?_) ?_ ?_
        rotate_left
        ·show Act.put _ (some 28) _ = _
         simp only [Act.put, List.setIfInBounds_toArray, List.set_cons_zero, List.set_cons_succ, i64_w, i32_w]
         rfl
        refine pure_ (i := 8) (N := some 29) (v := ?_) (a' := ?_) #[true, true, true, true, true, true, true, true, true, false, false] rfl rfl (by kernel_rfl) (fun _ _ _ h => h) (Or.inl ⟨by rfl, ?_⟩) ?_ ?_
        rotate_left
        ·intro w'
         go_simp
         with_reducible rfl
        rotate_left
        ·simp only [Act.put, List.setIfInBounds_toArray, List.set_cons_zero, List.set_cons_succ, i64_w, i32_w]
         rfl
        refine one_ (i := 9) (N := some 7) #[true, true, true, true, true, true, true, true, true, true, false] rfl rfl (by kernel_rfl) (by decide) (fun K hK => ?_)
        refine value_ (w1 := ?_) (v := ?_) (by rfl) rfl ?_ ?_
        rotate_left 2
        ·go_simp
         constructor
         ·rfl
         ·rfl
        obtain ⟨w8, hw⟩ : ∃ w', w' = w7.alloc (.cells #[.slice none 0 0, .slice none 0 0] 30) := ⟨_, rfl⟩
        rw [← hw]
        have hb : Below w7.heap.size w7 w8 := hw ▸ below_alloc (Below.refl _ _) _
        have HN8 := Aside0.mk (show w8.heap[w7.heap.size]? = some (.cells #[.slice none 0 0, .slice none 0 0] 30 (0, 0)) from hw ▸ blk_new _ _)
        have HR08 := Aside0.mk (Kd.R_below HR07.out hb)
        have HR18 := Aside0.mk (Kd.R_below HR17.out hb)
        have HB8 := Aside0.mk (below_step HB7.out hb)
        clear hb hw
        refine hK.out _ _ ⟨((HK3.out.below HB8.out).1 |> fun h => (blk_cell h 0).trans rfl), ((HK3.out.below HB8.out).1 |> fun h => (blk_cell h 1).trans rfl)⟩ (fun hHeld => ?_)
        clear hK K
        refine norm_ (a' := ?_) ?_ ?_
        rotate_left
        ·show Act.put _ (some 7) _ = _
         simp only [Act.put, List.setIfInBounds_toArray, List.set_cons_zero, List.set_cons_succ, i64_w, i32_w]
         rfl
        exact norm_ (by simp only [putAll, Act.put, List.setIfInBounds_toArray, List.set_cons_zero, List.set_cons_succ]) (hCont (v0, v1, A0p, c0p, A1p, c1p, w7.heap.size) _ ⟨HR08, HR18, HN8, HB8, ⟨HB7.out.size⟩⟩)
       ·skip
        refine value_ (w1 := ?_) (v := ?_) (by rfl) rfl ?_ ?_
        rotate_left 2
        ·go_simp
         constructor
         ·rfl
         ·rfl
        obtain ⟨w7, hw⟩ : ∃ w', w' = w6.alloc (.cells #[.slice none 0 0, .slice none 0 0] 30) := ⟨_, rfl⟩
        rw [← hw]
        have hb : Below w6.heap.size w6 w7 := hw ▸ below_alloc (Below.refl _ _) _
        have HN7 := Aside0.mk (show w7.heap[w6.heap.size]? = some (.cells #[.slice none 0 0, .slice none 0 0] 30 (0, 0)) from hw ▸ blk_new _ _)
        have HR07 := Aside0.mk (Kd.R_below HR06.out hb)
        have HE17 := Aside0.mk (Kd.R_below HE16.out hb)
        have HB7 := Aside0.mk (below_step HB6.out hb)
        clear hb hw
        refine hK.out _ _ ⟨((HK3.out.below HB7.out).1 |> fun h => (blk_cell h 0).trans rfl), ((HK3.out.below HB7.out).1 |> fun h => (blk_cell h 1).trans rfl)⟩ (fun hHeld => ?_)
        clear hK K
        refine norm_ (a' := ?_) ?_ ?_
        rotate_left
        ·show Act.put _ (some 7) _ = _
         simp only [Act.put, List.setIfInBounds_toArray, List.set_cons_zero, List.set_cons_succ, i64_w, i32_w]
         rfl
        refine one_ (i := 7) (N := some 28) #[true, true, true, true, true, true, true, true, false, true, false] rfl rfl (by kernel_rfl) (by decide) (fun K hK => ?_)
        refine Kd.R_append_rows_step (w0 := w3) k39 w3.heap.size (by rfl) (.tmp 25) (.tmp 27) 28 39 (.agg #[.string ⟨#[]⟩, .string ⟨#[]⟩, .int .u64 0, .string ⟨#[]⟩]) 56 rfl Try.underlying28 info39 rfl (by decide) (by omega) v1 [] l0_1 _ _ _ (fun _ => True) (fun _ => False) rfl rfl ?aO ?aR (fun _ _ h => h) (fun _ h => h.elim) (fun _ _ => trivial) ?aB ?aS ?aL ?_
        (case aO => exact HE17.out)
        (case aR => exact Kd.C_below HC1.out HB7.out)
        (case aB => exact HB7.out)
        (case aS => exact HB7.out.size)
        (case aL => have := HLIM1.out; simp only [List.length_nil]; omega)
        intro u1 w8 ho hb1 hg1 hat1
        obtain ⟨A1p, c1p, rfl⟩ := Kd.R_slice ho
        have HR08 := Aside0.mk (Kd.R_over' HR07.out (Kd.R_typed (HE17.out)) (by decide) hg1)
        have HN8 := Aside0.mk (blk_grown HN7.out hg1 (Kd.R_ne HE17.out HN7.out (by decide)))
        have HB8 := Aside0.mk hb1
        have HR18 := Aside0.mk (show Kd.R k39 39 w8 w3.heap.size (fun _ => True) (.slice A1p l0_1.length c1p) l0_1 by simpa using ho)
        (try simp only [List.nil_append])
        clear ho hb1 hg1 hat1
        refine hK.out _ _ ⟨((HK3.out.below HB8.out).1 |> fun h => (blk_cell h 0).trans rfl), ((HK3.out.below HB8.out).1 |> fun h => (blk_cell h 1).trans rfl)⟩ (fun hHeld => ?_)
        clear hK K
        refine norm_ (a' := ?_) ?_ ?_
        rotate_left
        ·show Act.put _ (some 28) _ = _
         simp only [Act.put, List.setIfInBounds_toArray, List.set_cons_zero, List.set_cons_succ, i64_w, i32_w]
         rfl
        refine pure_ (i := 8) (N := some 29) (v := ?_) (a' := ?_) #[true, true, true, true, true, true, true, true, true, true, false] rfl rfl (by kernel_rfl) (fun _ _ _ h => h) (Or.inl ⟨by rfl, ?_⟩) ?_ ?_
        rotate_left
        ·intro w'
         go_simp
         with_reducible rfl
        rotate_left
        ·simp only [Act.put, List.setIfInBounds_toArray, List.set_cons_zero, List.set_cons_succ, i64_w, i32_w]
         rfl
        exact norm_ (by simp only [putAll, Act.put, List.setIfInBounds_toArray, List.set_cons_zero, List.set_cons_succ]) (hCont (v0, v1, A0p, c0p, A1p, c1p, w6.heap.size) _ ⟨HR08, HR18, HN8, HB8, ⟨HB6.out.size⟩⟩)
      ·skip
       refine value_ (w1 := ?_) (v := ?_) (by rfl) rfl ?_ ?_
       rotate_left 2
       ·go_simp
        constructor
        ·rfl
        ·rfl
       obtain ⟨w6, hw⟩ : ∃ w', w' = w5.alloc (.cells #[.slice none 0 0, .slice none 0 0] 30) := ⟨_, rfl⟩
       rw [← hw]
       have hb : Below w5.heap.size w5 w6 := hw ▸ below_alloc (Below.refl _ _) _
       have HN6 := Aside0.mk (show w6.heap[w5.heap.size]? = some (.cells #[.slice none 0 0, .slice none 0 0] 30 (0, 0)) from hw ▸ blk_new _ _)
       have HE06 := Aside0.mk (Kd.R_below HE05.out hb)
       have HE16 := Aside0.mk (Kd.R_below HE15.out hb)
       have HB6 := Aside0.mk (below_step HB5.out hb)
       clear hb hw
       refine hK.out _ _ ⟨((HK3.out.below HB6.out).1 |> fun h => (blk_cell h 0).trans rfl), ((HK3.out.below HB6.out).1 |> fun h => (blk_cell h 1).trans rfl)⟩ (fun hHeld => ?_)
       clear hK K
       refine norm_ (a' := ?_) ?_ ?_
       rotate_left
       ·show Act.put _ (some 7) _ = _
        simp only [Act.put, List.setIfInBounds_toArray, List.set_cons_zero, List.set_cons_succ, i64_w, i32_w]
        rfl
       refine one_ (i := 3) (N := some 24) #[true, true, true, true, true, true, true, false, false, true, false] rfl rfl (by kernel_rfl) (by decide) (fun K hK => ?_)
       refine Kd.R_append_rows_step (w0 := w3) k37 w3.heap.size (by rfl) (.tmp 21) (.tmp 23) 27 37 (.agg #[.string ⟨#[]⟩, .int .u64 0, .bool false]) 32 rfl Try.underlying27 info37 rfl (by decide) (by omega) v0 [] l0_0 _ _ _ (fun _ => True) (fun _ => False) rfl rfl ?aO ?aR (fun _ _ h => h) (fun _ h => h.elim) (fun _ _ => trivial) ?aB ?aS ?aL ?_
       (case aO => exact HE06.out)
       (case aR => exact Kd.C_below HC0.out HB6.out)
       (case aB => exact HB6.out)
       (case aS => exact HB6.out.size)
       (case aL => have := HLIM0.out; simp only [List.length_nil]; omega)
       intro u0 w7 ho hb1 hg1 hat1
       obtain ⟨A0p, c0p, rfl⟩ := Kd.R_slice ho
       have HE17 := Aside0.mk (Kd.R_over' HE16.out (Kd.R_typed (HE06.out)) (by decide) hg1)
       have HN7 := Aside0.mk (blk_grown HN6.out hg1 (Kd.R_ne HE06.out HN6.out (by decide)))
       have HB7 := Aside0.mk hb1
       have HR07 := Aside0.mk (show Kd.R k37 37 w7 w3.heap.size (fun _ => True) (.slice A0p l0_0.length c0p) l0_0 by simpa using ho)
       (try simp only [List.nil_append])
       clear ho hb1 hg1 hat1
       refine hK.out _ _ ⟨((HK3.out.below HB7.out).1 |> fun h => (blk_cell h 0).trans rfl), ((HK3.out.below HB7.out).1 |> fun h => (blk_cell h 1).trans rfl)⟩ (fun hHeld => ?_)
       clear hK K
       refine norm_ (a' := ?_) ?_ ?_
       rotate_left
       ·show Act.put _ (some 24) _ = _
        simp only [Act.put, List.setIfInBounds_toArray, List.set_cons_zero, List.set_cons_succ, i64_w, i32_w]
        rfl
       refine one_ (i := 7) (N := some 28) #[true, true, true, true, true, true, true, true, false, true, false] rfl rfl (by kernel_rfl) (by decide) (fun K hK => ?_)
       refine Kd.R_append_rows_step (w0 := w3) k39 w3.heap.size (by rfl) (.tmp 25) (.tmp 27) 28 39 (.agg #[.string ⟨#[]⟩, .string ⟨#[]⟩, .int .u64 0, .string ⟨#[]⟩]) 56 rfl Try.underlying28 info39 rfl (by decide) (by omega) v1 [] l0_1 _ _ _ (fun _ => True) (fun _ => False) rfl rfl ?aO ?aR (fun _ _ h => h) (fun _ h => h.elim) (fun _ _ => trivial) ?aB ?aS ?aL ?_
       (case aO => exact HE17.out)
       (case aR => exact Kd.C_below HC1.out HB7.out)
       (case aB => exact HB7.out)
       (case aS => exact HB7.out.size)
       (case aL => have := HLIM1.out; simp only [List.length_nil]; omega)
       intro u1 w8 ho hb1 hg1 hat1
       obtain ⟨A1p, c1p, rfl⟩ := Kd.R_slice ho
       have HR08 := Aside0.mk (Kd.R_over' HR07.out (Kd.R_typed (HE17.out)) (by decide) hg1)
       have HN8 := Aside0.mk (blk_grown HN7.out hg1 (Kd.R_ne HE17.out HN7.out (by decide)))
       have HB8 := Aside0.mk hb1
       have HR18 := Aside0.mk (show Kd.R k39 39 w8 w3.heap.size (fun _ => True) (.slice A1p l0_1.length c1p) l0_1 by simpa using ho)
       (try simp only [List.nil_append])
       clear ho hb1 hg1 hat1
       refine hK.out _ _ ⟨((HK3.out.below HB8.out).1 |> fun h => (blk_cell h 0).trans rfl), ((HK3.out.below HB8.out).1 |> fun h => (blk_cell h 1).trans rfl)⟩ (fun hHeld => ?_)
       clear hK K
       refine norm_ (a' := ?_) ?_ ?_
       rotate_left
       ·show Act.put _ (some 28) _ = _
        simp only [Act.put, List.setIfInBounds_toArray, List.set_cons_zero, List.set_cons_succ, i64_w, i32_w]
        rfl
       refine pure_ (i := 8) (N := some 29) (v := ?_) (a' := ?_) #[true, true, true, true, true, true, true, true, true, true, false] rfl rfl (by kernel_rfl) (fun _ _ _ h => h) (Or.inl ⟨by rfl, ?_⟩) ?_ ?_
       rotate_left
       ·intro w'
        go_simp
        with_reducible rfl
       rotate_left
       ·simp only [Act.put, List.setIfInBounds_toArray, List.set_cons_zero, List.set_cons_succ, i64_w, i32_w]
        rfl
       exact norm_ (by simp only [putAll, Act.put, List.setIfInBounds_toArray, List.set_cons_zero, List.set_cons_succ]) (hCont (v0, v1, A0p, c0p, A1p, c1p, w5.heap.size) _ ⟨HR08, HR18, HN8, HB8, ⟨HB5.out.size⟩⟩)
     ·skip
      refine value_ (w1 := ?_) (v := ?_) (by rfl) rfl ?_ ?_
      rotate_left 2
      ·go_simp
       constructor
       ·rfl
       ·rfl
      obtain ⟨w5, hw⟩ : ∃ w', w' = w4.alloc (.cells #[.slice none 0 0, .slice none 0 0] 30) := ⟨_, rfl⟩
      rw [← hw]
      have hb : Below w4.heap.size w4 w5 := hw ▸ below_alloc (Below.refl _ _) _
      have HN5 := Aside0.mk (show w5.heap[w4.heap.size]? = some (.cells #[.slice none 0 0, .slice none 0 0] 30 (0, 0)) from hw ▸ blk_new _ _)
      have HE05 := Aside0.mk (Kd.R_below HE04.out hb)
      have HB5 := Aside0.mk (below_step HB4.out hb)
      clear hb hw
      refine hK.out _ _ ⟨((HK3.out.below HB5.out).1 |> fun h => (blk_cell h 0).trans rfl), ((HK3.out.below HB5.out).1 |> fun h => (blk_cell h 1).trans rfl)⟩ (fun hHeld => ?_)
      clear hK K
      refine norm_ (a' := ?_) ?_ ?_
      rotate_left
      ·show Act.put _ (some 7) _ = _
       simp only [Act.put, List.setIfInBounds_toArray, List.set_cons_zero, List.set_cons_succ, i64_w, i32_w]
       rfl
      refine two_ (i := 3) (j := 4) (Ni := some 24) (Nj := some 25) #[true, true, true, true, false, true, true, false, false, true, false] #[true, true, true, false, true, true, true, false, false, true, false] rfl rfl rfl rfl (by kernel_rfl) (by decide) (by decide) (fun K hK => ?_) (fun K hK => ?_)
      ·skip
       refine Kd.R_append_rows_step (w0 := w3) k37 w3.heap.size (by rfl) (.tmp 21) (.tmp 23) 27 37 (.agg #[.string ⟨#[]⟩, .int .u64 0, .bool false]) 32 rfl Try.underlying27 info37 rfl (by decide) (by omega) v0 [] l0_0 _ _ _ (fun _ => True) (fun _ => False) rfl rfl ?aO ?aR (fun _ _ h => h) (fun _ h => h.elim) (fun _ _ => trivial) ?aB ?aS ?aL ?_
       (case aO => exact HE05.out)
       (case aR => exact Kd.C_below HC0.out HB5.out)
       (case aB => exact HB5.out)
       (case aS => exact HB5.out.size)
       (case aL => have := HLIM0.out; simp only [List.length_nil]; omega)
       intro u0 w6 ho hb1 hg1 hat1
       obtain ⟨A0p, c0p, rfl⟩ := Kd.R_slice ho
       have HN6 := Aside0.mk (blk_grown HN5.out hg1 (Kd.R_ne HE05.out HN5.out (by decide)))
       have HB6 := Aside0.mk hb1
       have HR06 := Aside0.mk (show Kd.R k37 37 w6 w3.heap.size (fun _ => True) (.slice A0p l0_0.length c0p) l0_0 by simpa using ho)
       (try simp only [List.nil_append])
       clear ho hb1 hg1 hat1
       refine hK.out _ _ ⟨((HK3.out.below HB6.out).1 |> fun h => (blk_cell h 0).trans rfl), ((HK3.out.below HB6.out).1 |> fun h => (blk_cell h 1).trans rfl)⟩ (fun hHeld => ?_)
       clear hK K
       refine norm_ (a' := ?_) ?_ ?_
       rotate_left
       ·show Act.put _ (some 24) _ = _
        simp only [Act.put, List.setIfInBounds_toArray, List.set_cons_zero, List.set_cons_succ, i64_w, i32_w]
        rfl
       refine one_ (i := 4) (N := some 25) #[true, true, true, true, true, true, true, false, false, true, false] rfl rfl (by kernel_rfl) (by decide) (fun K hK => ?_)
       refine Kd.R_lit_step (w0 := w3) k39 w3.heap.size 39 (by rfl) (N := 25) (by rfl) (xs := []) (inner := []) (ok := fun _ => True) (okp := fun _ => True) ?hr (Reps.none _ _) (fun _ hk => hk) trivial HB6.out HB6.out.size (by simp) ?_
       (case hr => first | (go_simp; done) | (go_simp; rfl))
       intro v1 w7 ho hb1 hg1 hat1
       have hb : Below w6.heap.size w6 w7 := ⟨hg1.os, hg1.tape, hg1.output, hg1.size, fun k hk => hg1.block k hk (by simp)⟩
       have HR07 := Aside0.mk (Kd.R_below HR06.out hb)
       have HN7 := Aside0.mk (blk_below HN6.out hb)
       have HB7 := Aside0.mk hb1
       have HE17 := Aside0.mk ho
       clear ho hb1 hg1 hat1 hb
       refine hK.out _ _ ⟨((HK3.out.below HB7.out).1 |> fun h => (blk_cell h 0).trans rfl), ((HK3.out.below HB7.out).1 |> fun h => (blk_cell h 1).trans rfl)⟩ (fun hHeld => ?_)
       clear hK K
       refine norm_ (a' := ?_) ?_ ?_
       rotate_left
       ·show Act.put _ (some 25) _ = _
        simp only [Act.put, List.setIfInBounds_toArray, List.set_cons_zero, List.set_cons_succ, i64_w, i32_w]
        rfl
       refine one_ (i := 7) (N := some 28) #[true, true, true, true, true, true, true, true, false, true, false] rfl rfl (by kernel_rfl) (by decide) (fun K hK => ?_)
       refine Kd.R_append_rows_step (w0 := w3) k39 w3.heap.size (by rfl) (.tmp 25) (.tmp 27) 28 39 (.agg #[.string ⟨#[]⟩, .string ⟨#[]⟩, .int .u64 0, .string ⟨#[]⟩]) 56 rfl Try.underlying28 info39 rfl (by decide) (by omega) v1 [] l0_1 _ _ _ (fun _ => True) (fun _ => False) rfl rfl ?aO ?aR (fun _ _ h => h) (fun _ h => h.elim) (fun _ _ => trivial) ?aB ?aS ?aL ?_
       (case aO => exact HE17.out)
       (case aR => exact Kd.C_below HC1.out HB7.out)
       (case aB => exact HB7.out)
       (case aS => exact HB7.out.size)
       (case aL => have := HLIM1.out; simp only [List.length_nil]; omega)
       intro u1 w8 ho hb1 hg1 hat1
       obtain ⟨A1p, c1p, rfl⟩ := Kd.R_slice ho
       have HR08 := Aside0.mk (Kd.R_over' HR07.out (Kd.R_typed (HE17.out)) (by decide) hg1)
       have HN8 := Aside0.mk (blk_grown HN7.out hg1 (Kd.R_ne HE17.out HN7.out (by decide)))
       have HB8 := Aside0.mk hb1
       have HR18 := Aside0.mk (show Kd.R k39 39 w8 w3.heap.size (fun _ => True) (.slice A1p l0_1.length c1p) l0_1 by simpa using ho)
       (try simp only [List.nil_append])
       clear ho hb1 hg1 hat1
       refine hK.out _ _ ⟨((HK3.out.below HB8.out).1 |> fun h => (blk_cell h 0).trans rfl), ((HK3.out.below HB8.out).1 |> fun h => (blk_cell h 1).trans rfl)⟩ (fun hHeld => ?_)
       clear hK K
       refine norm_ (a' := ?_) ?_ ?_
       rotate_left
       ·show Act.put _ (some 28) _ = _
        simp only [Act.put, List.setIfInBounds_toArray, List.set_cons_zero, List.set_cons_succ, i64_w, i32_w]
        rfl
       refine pure_ (i := 8) (N := some 29) (v := ?_) (a' := ?_) #[true, true, true, true, true, true, true, true, true, true, false] rfl rfl (by kernel_rfl) (fun _ _ _ h => h) (Or.inl ⟨by rfl, ?_⟩) ?_ ?_
       rotate_left
       ·intro w'
        go_simp
        with_reducible rfl
       rotate_left
       ·simp only [Act.put, List.setIfInBounds_toArray, List.set_cons_zero, List.set_cons_succ, i64_w, i32_w]
        rfl
       exact norm_ (by simp only [putAll, Act.put, List.setIfInBounds_toArray, List.set_cons_zero, List.set_cons_succ]) (hCont (v0, v1, A0p, c0p, A1p, c1p, w4.heap.size) _ ⟨HR08, HR18, HN8, HB8, ⟨HB4.out.size⟩⟩)
      ·skip
       refine Kd.R_lit_step (w0 := w3) k39 w3.heap.size 39 (by rfl) (N := 25) (by rfl) (xs := []) (inner := []) (ok := fun _ => True) (okp := fun _ => True) ?hr (Reps.none _ _) (fun _ hk => hk) trivial HB5.out HB5.out.size (by simp) ?_
       (case hr => first | (go_simp; done) | (go_simp; rfl))
       intro v1 w6 ho hb1 hg1 hat1
       have hb : Below w5.heap.size w5 w6 := ⟨hg1.os, hg1.tape, hg1.output, hg1.size, fun k hk => hg1.block k hk (by simp)⟩
       have HE06 := Aside0.mk (Kd.R_below HE05.out hb)
       have HN6 := Aside0.mk (blk_below HN5.out hb)
       have HB6 := Aside0.mk hb1
       have HE16 := Aside0.mk ho
       clear ho hb1 hg1 hat1 hb
       refine hK.out _ _ ⟨((HK3.out.below HB6.out).1 |> fun h => (blk_cell h 0).trans rfl), ((HK3.out.below HB6.out).1 |> fun h => (blk_cell h 1).trans rfl)⟩ (fun hHeld => ?_)
       clear hK K
       refine norm_ (a' := ?_) ?_ ?_
       rotate_left
       ·show Act.put _ (some 25) _ = _
        simp only [Act.put, List.setIfInBounds_toArray, List.set_cons_zero, List.set_cons_succ, i64_w, i32_w]
        rfl
       refine one_ (i := 3) (N := some 24) #[true, true, true, true, true, true, true, false, false, true, false] rfl rfl (by kernel_rfl) (by decide) (fun K hK => ?_)
       refine Kd.R_append_rows_step (w0 := w3) k37 w3.heap.size (by rfl) (.tmp 21) (.tmp 23) 27 37 (.agg #[.string ⟨#[]⟩, .int .u64 0, .bool false]) 32 rfl Try.underlying27 info37 rfl (by decide) (by omega) v0 [] l0_0 _ _ _ (fun _ => True) (fun _ => False) rfl rfl ?aO ?aR (fun _ _ h => h) (fun _ h => h.elim) (fun _ _ => trivial) ?aB ?aS ?aL ?_
       (case aO => exact HE06.out)
       (case aR => exact Kd.C_below HC0.out HB6.out)
       (case aB => exact HB6.out)
       (case aS => exact HB6.out.size)
       (case aL => have := HLIM0.out; simp only [List.length_nil]; omega)
       intro u0 w7 ho hb1 hg1 hat1
       obtain ⟨A0p, c0p, rfl⟩ := Kd.R_slice ho
       have HE17 := Aside0.mk (Kd.R_over' HE16.out (Kd.R_typed (HE06.out)) (by decide) hg1)
       have HN7 := Aside0.mk (blk_grown HN6.out hg1 (Kd.R_ne HE06.out HN6.out (by decide)))
       have HB7 := Aside0.mk hb1
       have HR07 := Aside0.mk (show Kd.R k37 37 w7 w3.heap.size (fun _ => True) (.slice A0p l0_0.length c0p) l0_0 by simpa using ho)
       (try simp only [List.nil_append])
       clear ho hb1 hg1 hat1
       refine hK.out _ _ ⟨((HK3.out.below HB7.out).1 |> fun h => (blk_cell h 0).trans rfl), ((HK3.out.below HB7.out).1 |> fun h => (blk_cell h 1).trans rfl)⟩ (fun hHeld => ?_)
       clear hK K
       refine norm_ (a' := ?_) ?_ ?_
       rotate_left
       ·show Act.put _ (some 24) _ = _
        simp only [Act.put, List.setIfInBounds_toArray, List.set_cons_zero, List.set_cons_succ, i64_w, i32_w]
        rfl
       refine one_ (i := 7) (N := some 28) #[true, true, true, true, true, true, true, true, false, true, false] rfl rfl (by kernel_rfl) (by decide) (fun K hK => ?_)
       refine Kd.R_append_rows_step (w0 := w3) k39 w3.heap.size (by rfl) (.tmp 25) (.tmp 27) 28 39 (.agg #[.string ⟨#[]⟩, .string ⟨#[]⟩, .int .u64 0, .string ⟨#[]⟩]) 56 rfl Try.underlying28 info39 rfl (by decide) (by omega) v1 [] l0_1 _ _ _ (fun _ => True) (fun _ => False) rfl rfl ?aO ?aR (fun _ _ h => h) (fun _ h => h.elim) (fun _ _ => trivial) ?aB ?aS ?aL ?_
       (case aO => exact HE17.out)
       (case aR => exact Kd.C_below HC1.out HB7.out)
       (case aB => exact HB7.out)
       (case aS => exact HB7.out.size)
       (case aL => have := HLIM1.out; simp only [List.length_nil]; omega)
       intro u1 w8 ho hb1 hg1 hat1
       obtain ⟨A1p, c1p, rfl⟩ := Kd.R_slice ho
       have HR08 := Aside0.mk (Kd.R_over' HR07.out (Kd.R_typed (HE17.out)) (by decide) hg1)
       have HN8 := Aside0.mk (blk_grown HN7.out hg1 (Kd.R_ne HE17.out HN7.out (by decide)))
       have HB8 := Aside0.mk hb1
       have HR18 := Aside0.mk (show Kd.R k39 39 w8 w3.heap.size (fun _ => True) (.slice A1p l0_1.length c1p) l0_1 by simpa using ho)
       (try simp only [List.nil_append])
       clear ho hb1 hg1 hat1
       refine hK.out _ _ ⟨((HK3.out.below HB8.out).1 |> fun h => (blk_cell h 0).trans rfl), ((HK3.out.below HB8.out).1 |> fun h => (blk_cell h 1).trans rfl)⟩ (fun hHeld => ?_)
       clear hK K
       refine norm_ (a' := ?_) ?_ ?_
       rotate_left
       ·show Act.put _ (some 28) _ = _
        simp only [Act.put, List.setIfInBounds_toArray, List.set_cons_zero, List.set_cons_succ, i64_w, i32_w]
        rfl
       refine pure_ (i := 8) (N := some 29) (v := ?_) (a' := ?_) #[true, true, true, true, true, true, true, true, true, true, false] rfl rfl (by kernel_rfl) (fun _ _ _ h => h) (Or.inl ⟨by rfl, ?_⟩) ?_ ?_
       rotate_left
       ·intro w'
        go_simp
        with_reducible rfl
       rotate_left
       ·simp only [Act.put, List.setIfInBounds_toArray, List.set_cons_zero, List.set_cons_succ, i64_w, i32_w]
        rfl
       exact norm_ (by simp only [putAll, Act.put, List.setIfInBounds_toArray, List.set_cons_zero, List.set_cons_succ]) (hCont (v0, v1, A0p, c0p, A1p, c1p, w4.heap.size) _ ⟨HR08, HR18, HN8, HB8, ⟨HB4.out.size⟩⟩)
    ·skip
     refine Kd.R_lit_step (w0 := w3) k39 w3.heap.size 39 (by rfl) (N := 25) (by rfl) (xs := []) (inner := []) (ok := fun _ => True) (okp := fun _ => True) ?hr (Reps.none _ _) (fun _ hk => hk) trivial HB3.out HB3.out.size (by simp) ?_
     (case hr => first | (go_simp; done) | (go_simp; rfl))
     intro v1 w4 ho hb1 hg1 hat1
     have hb : Below w3.heap.size w3 w4 := ⟨hg1.os, hg1.tape, hg1.output, hg1.size, fun k hk => hg1.block k hk (by simp)⟩
     have HB4 := Aside0.mk hb1
     have HE14 := Aside0.mk ho
     clear ho hb1 hg1 hat1 hb
     refine hK.out _ _ ⟨((HK3.out.below HB4.out).1 |> fun h => (blk_cell h 0).trans rfl), ((HK3.out.below HB4.out).1 |> fun h => (blk_cell h 1).trans rfl)⟩ (fun hHeld => ?_)
     clear hK K
     refine norm_ (a' := ?_) ?_ ?_
     rotate_left
     ·show Act.put _ (some 25) _ = _
      simp only [Act.put, List.setIfInBounds_toArray, List.set_cons_zero, List.set_cons_succ, i64_w, i32_w]
      rfl
     refine two_ (i := 0) (j := 9) (Ni := some 21) (Nj := some 7) #[true, true, true, false, true, true, true, false, false, false, false] #[false, true, true, false, true, true, true, false, false, true, false] rfl rfl rfl rfl (by kernel_rfl) (by decide) (by decide) (fun K hK => ?_) (fun K hK => ?_)
     ·skip
      refine Kd.R_lit_step (w0 := w3) k37 w3.heap.size 37 (by rfl) (N := 21) (by rfl) (xs := []) (inner := []) (ok := fun _ => True) (okp := fun _ => True) ?hr (Reps.none _ _) (fun _ hk => hk) trivial HB4.out HB4.out.size (by simp) ?_
      (case hr => first | (go_simp; done) | (go_simp; rfl))
      intro v0 w5 ho hb1 hg1 hat1
      have hb : Below w4.heap.size w4 w5 := ⟨hg1.os, hg1.tape, hg1.output, hg1.size, fun k hk => hg1.block k hk (by simp)⟩
      have HE15 := Aside0.mk (Kd.R_below HE14.out hb)
      have HB5 := Aside0.mk hb1
      have HE05 := Aside0.mk ho
      clear ho hb1 hg1 hat1 hb
      refine hK.out _ _ ⟨((HK3.out.below HB5.out).1 |> fun h => (blk_cell h 0).trans rfl), ((HK3.out.below HB5.out).1 |> fun h => (blk_cell h 1).trans rfl)⟩ (fun hHeld => ?_)
      clear hK K
      refine norm_ (a' := ?_) ?_ ?_
      rotate_left
      ·show Act.put _ (some 21) _ = _
       simp only [Act.put, List.setIfInBounds_toArray, List.set_cons_zero, List.set_cons_succ, i64_w, i32_w]
       rfl
      refine two_ (i := 3) (j := 9) (Ni := some 24) (Nj := some 7) #[true, true, true, true, true, true, true, false, false, false, false] #[true, true, true, false, true, true, true, false, false, true, false] rfl rfl rfl rfl (by kernel_rfl) (by decide) (by decide) (fun K hK => ?_) (fun K hK => ?_)
      ·skip
       refine Kd.R_append_rows_step (w0 := w3) k37 w3.heap.size (by rfl) (.tmp 21) (.tmp 23) 27 37 (.agg #[.string ⟨#[]⟩, .int .u64 0, .bool false]) 32 rfl Try.underlying27 info37 rfl (by decide) (by omega) v0 [] l0_0 _ _ _ (fun _ => True) (fun _ => False) rfl rfl ?aO ?aR (fun _ _ h => h) (fun _ h => h.elim) (fun _ _ => trivial) ?aB ?aS ?aL ?_
       (case aO => exact HE05.out)
       (case aR => exact Kd.C_below HC0.out HB5.out)
       (case aB => exact HB5.out)
       (case aS => exact HB5.out.size)
       (case aL => have := HLIM0.out; simp only [List.length_nil]; omega)
       intro u0 w6 ho hb1 hg1 hat1
       obtain ⟨A0p, c0p, rfl⟩ := Kd.R_slice ho
       have HE16 := Aside0.mk (Kd.R_over' HE15.out (Kd.R_typed (HE05.out)) (by decide) hg1)
       have HB6 := Aside0.mk hb1
       have HR06 := Aside0.mk (show Kd.R k37 37 w6 w3.heap.size (fun _ => True) (.slice A0p l0_0.length c0p) l0_0 by simpa using ho)
       (try simp only [List.nil_append])
       clear ho hb1 hg1 hat1
       refine hK.out _ _ ⟨((HK3.out.below HB6.out).1 |> fun h => (blk_cell h 0).trans rfl), ((HK3.out.below HB6.out).1 |> fun h => (blk_cell h 1).trans rfl)⟩ (fun hHeld => ?_)
       clear hK K
       refine norm_ (a' := ?_) ?_ ?_
       rotate_left
       ·show Act.put _ (some 24) _ = _
        simp only [Act.put, List.setIfInBounds_toArray, List.set_cons_zero, List.set_cons_succ, i64_w, i32_w]
        rfl
       refine two_ (i := 7) (j := 9) (Ni := some 28) (Nj := some 7) #[true, true, true, true, true, true, true, true, false, false, false] #[true, true, true, true, true, true, true, false, false, true, false] rfl rfl rfl rfl (by kernel_rfl) (by decide) (by decide) (fun K hK => ?_) (fun K hK => ?_)
       ·skip
        refine Kd.R_append_rows_step (w0 := w3) k39 w3.heap.size (by rfl) (.tmp 25) (.tmp 27) 28 39 (.agg #[.string ⟨#[]⟩, .string ⟨#[]⟩, .int .u64 0, .string ⟨#[]⟩]) 56 rfl Try.underlying28 info39 rfl (by decide) (by omega) v1 [] l0_1 _ _ _ (fun _ => True) (fun _ => False) rfl rfl ?aO ?aR (fun _ _ h => h) (fun _ h => h.elim) (fun _ _ => trivial) ?aB ?aS ?aL ?_
        (case aO => exact HE16.out)
        (case aR => exact Kd.C_below HC1.out HB6.out)
        (case aB => exact HB6.out)
        (case aS => exact HB6.out.size)
        (case aL => have := HLIM1.out; simp only [List.length_nil]; omega)
        intro u1 w7 ho hb1 hg1 hat1
        obtain ⟨A1p, c1p, rfl⟩ := Kd.R_slice ho
        have HR07 := Aside0.mk (Kd.R_over' HR06.out (Kd.R_typed (HE16.out)) (by decide) hg1)
        have HB7 := Aside0.mk hb1
        have HR17 := Aside0.mk (show Kd.R k39 39 w7 w3.heap.size (fun _ => True) (.slice A1p l0_1.length c1p) l0_1 by simpa using ho)
        (try simp only [List.nil_append])
        clear ho hb1 hg1 hat1
        refine hK.out _ _ ⟨((HK3.out.below HB7.out).1 |> fun h => (blk_cell h 0).trans rfl), ((HK3.out.below HB7.out).1 |> fun h => (blk_cell h 1).trans rfl)⟩ (fun hHeld => ?_)
        clear hK K
        refine norm_ (a' := ?_) ?_ ?_
        rotate_left
        ·show Act.put _ (some 28) _ = _
         simp only [Act.put, List.setIfInBounds_toArray, List.set_cons_zero, List.set_cons_succ, i64_w, i32_w]
         rfl
        refine pure_ (i := 8) (N := some 29) (v := ?_) (a' := ?_) #[true, true, true, true, true, true, true, true, true, false, false] rfl rfl (by kernel_rfl) (fun _ _ _ h => h) (Or.inl ⟨by rfl, ?_⟩) ?_ ?_
        rotate_left
        ·intro w'
         go_simp
         with_reducible rfl
        rotate_left
        ·simp only [Act.put, List.setIfInBounds_toArray, List.set_cons_zero, List.set_cons_succ, i64_w, i32_w]
         rfl
        refine one_ (i := 9) (N := some 7) #[true, true, true, true, true, true, true, true, true, true, false] rfl rfl (by kernel_rfl) (by decide) (fun K hK => ?_)
        refine value_ (w1 := ?_) (v := ?_) (by rfl) rfl ?_ ?_
        rotate_left 2
        ·go_simp
         constructor
         ·rfl
         ·rfl
        obtain ⟨w8, hw⟩ : ∃ w', w' = w7.alloc (.cells #[.slice none 0 0, .slice none 0 0] 30) := ⟨_, rfl⟩
        rw [← hw]
        have hb : Below w7.heap.size w7 w8 := hw ▸ below_alloc (Below.refl _ _) _
        have HN8 := Aside0.mk (show w8.heap[w7.heap.size]? = some (.cells #[.slice none 0 0, .slice none 0 0] 30 (0, 0)) from hw ▸ blk_new _ _)
        have HR08 := Aside0.mk (Kd.R_below HR07.out hb)
        have HR18 := Aside0.mk (Kd.R_below HR17.out hb)
        have HB8 := Aside0.mk (below_step HB7.out hb)
        clear hb hw
        refine hK.out _ _ ⟨((HK3.out.below HB8.out).1 |> fun h => (blk_cell h 0).trans rfl), ((HK3.out.below HB8.out).1 |> fun h => (blk_cell h 1).trans rfl)⟩ (fun hHeld => ?_)
        clear hK K
        refine norm_ (a' := ?_) ?_ ?_
        rotate_left
        ·show Act.put _ (some 7) _ = _
         simp only [Act.put, List.setIfInBounds_toArray, List.set_cons_zero, List.set_cons_succ, i64_w, i32_w]
         rfl
        exact norm_ (by simp only [putAll, Act.put, List.setIfInBounds_toArray, List.set_cons_zero, List.set_cons_succ]) (hCont (v0, v1, A0p, c0p, A1p, c1p, w7.heap.size) _ ⟨HR08, HR18, HN8, HB8, ⟨HB7.out.size⟩⟩)
       ·skip
        refine value_ (w1 := ?_) (v := ?_) (by rfl) rfl ?_ ?_
        rotate_left 2
        ·go_simp
         constructor
         ·rfl
         ·rfl
        obtain ⟨w7, hw⟩ : ∃ w', w' = w6.alloc (.cells #[.slice none 0 0, .slice none 0 0] 30) := ⟨_, rfl⟩
        rw [← hw]
        have hb : Below w6.heap.size w6 w7 := hw ▸ below_alloc (Below.refl _ _) _
        have HN7 := Aside0.mk (show w7.heap[w6.heap.size]? = some (.cells #[.slice none 0 0, .slice none 0 0] 30 (0, 0)) from hw ▸ blk_new _ _)
        have HR07 := Aside0.mk (Kd.R_below HR06.out hb)
        have HE17 := Aside0.mk (Kd.R_below HE16.out hb)
        have HB7 := Aside0.mk (below_step HB6.out hb)
        clear hb hw
        refine hK.out _ _ ⟨((HK3.out.below HB7.out).1 |> fun h => (blk_cell h 0).trans rfl), ((HK3.out.below HB7.out).1 |> fun h => (blk_cell h 1).trans rfl)⟩ (fun hHeld => ?_)
        clear hK K
        refine norm_ (a' := ?_) ?_ ?_
        rotate_left
        ·show Act.put _ (some 7) _ = _
         simp only [Act.put, List.setIfInBounds_toArray, List.set_cons_zero, List.set_cons_succ, i64_w, i32_w]
         rfl
        refine one_ (i := 7) (N := some 28) #[true, true, true, true, true, true, true, true, false, true, false] rfl rfl (by kernel_rfl) (by decide) (fun K hK => ?_)
        refine Kd.R_append_rows_step (w0 := w3) k39 w3.heap.size (by rfl) (.tmp 25) (.tmp 27) 28 39 (.agg #[.string ⟨#[]⟩, .string ⟨#[]⟩, .int .u64 0, .string ⟨#[]⟩]) 56 rfl Try.underlying28 info39 rfl (by decide) (by omega) v1 [] l0_1 _ _ _ (fun _ => True) (fun _ => False) rfl rfl ?aO ?aR (fun _ _ h => h) (fun _ h => h.elim) (fun _ _ => trivial) ?aB ?aS ?aL ?_
        (case aO => exact HE17.out)
        (case aR => exact Kd.C_below HC1.out HB7.out)
        (case aB => exact HB7.out)
        (case aS => exact HB7.out.size)
        (case aL => have := HLIM1.out; simp only [List.length_nil]; omega)
        intro u1 w8 ho hb1 hg1 hat1
        obtain ⟨A1p, c1p, rfl⟩ := Kd.R_slice ho
        have HR08 := Aside0.mk (Kd.R_over' HR07.out (Kd.R_typed (HE17.out)) (by decide) hg1)
        have HN8 := Aside0.mk (blk_grown HN7.out hg1 (Kd.R_ne HE17.out HN7.out (by decide)))
        have HB8 := Aside0.mk hb1
        have HR18 := Aside0.mk (show Kd.R k39 39 w8 w3.heap.size (fun _ => True) (.slice A1p l0_1.length c1p) l0_1 by simpa using ho)
        (try simp only [List.nil_append])
        clear ho hb1 hg1 hat1
        refine hK.out _ _ ⟨((HK3.out.below HB8.out).1 |> fun h => (blk_cell h 0).trans rfl), ((HK3.out.below HB8.out).1 |> fun h => (blk_cell h 1).trans rfl)⟩ (fun hHeld => ?_)
        clear hK K
        refine norm_ (a' := ?_) ?_ ?_
        rotate_left
        ·show Act.put _ (some 28) _ = _
         simp only [Act.put, List.setIfInBounds_toArray, List.set_cons_zero, List.set_cons_succ, i64_w, i32_w]
         rfl
        refine pure_ (i := 8) (N := some 29) (v := ?_) (a' := ?_) #[true, true, true, true, true, true, true, true, true, true, false] rfl rfl (by kernel_rfl) (fun _ _ _ h => h) (Or.inl ⟨by rfl, ?_⟩) ?_ ?_
        rotate_left
        ·intro w'
         go_simp
         with_reducible rfl
        rotate_left
        ·simp only [Act.put, List.setIfInBounds_toArray, List.set_cons_zero, List.set_cons_succ, i64_w, i32_w]
         rfl
        exact norm_ (by simp only [putAll, Act.put, List.setIfInBounds_toArray, List.set_cons_zero, List.set_cons_succ]) (hCont (v0, v1, A0p, c0p, A1p, c1p, w6.heap.size) _ ⟨HR08, HR18, HN8, HB8, ⟨HB6.out.size⟩⟩)
      ·skip
       refine value_ (w1 := ?_) (v := ?_) (by rfl) rfl ?_ ?_
       rotate_left 2
       ·go_simp
        constructor
        ·rfl
        ·rfl
       obtain ⟨w6, hw⟩ : ∃ w', w' = w5.alloc (.cells #[.slice none 0 0, .slice none 0 0] 30) := ⟨_, rfl⟩
       rw [← hw]
       have hb : Below w5.heap.size w5 w6 := hw ▸ below_alloc (Below.refl _ _) _
       have HN6 := Aside0.mk (show w6.heap[w5.heap.size]? = some (.cells #[.slice none 0 0, .slice none 0 0] 30 (0, 0)) from hw ▸ blk_new _ _)
       have HE06 := Aside0.mk (Kd.R_below HE05.out hb)
       have HE16 := Aside0.mk (Kd.R_below HE15.out hb)
       have HB6 := Aside0.mk (below_step HB5.out hb)
       clear hb hw
       refine hK.out _ _ ⟨((HK3.out.below HB6.out).1 |> fun h => (blk_cell h 0).trans rfl), ((HK3.out.below HB6.out).1 |> fun h => (blk_cell h 1).trans rfl)⟩ (fun hHeld => ?_)
       clear hK K
       refine norm_ (a' := ?_) ?_ ?_
       rotate_left
       ·show Act.put _ (some 7) _ = _
        simp only [Act.put, List.setIfInBounds_toArray, List.set_cons_zero, List.set_cons_succ, i64_w, i32_w]
        rfl
       refine one_ (i := 3) (N := some 24) #[true, true, true, true, true, true, true, false, false, true, false] rfl rfl (by kernel_rfl) (by decide) (fun K hK => ?_)
       refine Kd.R_append_rows_step (w0 := w3) k37 w3.heap.size (by rfl) (.tmp 21) (.tmp 23) 27 37 (.agg #[.string ⟨#[]⟩, .int .u64 0, .bool false]) 32 rfl Try.underlying27 info37 rfl (by decide) (by omega) v0 [] l0_0 _ _ _ (fun _ => True) (fun _ => False) rfl rfl ?aO ?aR (fun _ _ h => h) (fun _ h => h.elim) (fun _ _ => trivial) ?aB ?aS ?aL ?_
       (case aO => exact HE06.out)
       (case aR => exact Kd.C_below HC0.out HB6.out)
       (case aB => exact HB6.out)
       (case aS => exact HB6.out.size)
       (case aL => have := HLIM0.out; simp only [List.length_nil]; omega)
       intro u0 w7 ho hb1 hg1 hat1
       obtain ⟨A0p, c0p, rfl⟩ := Kd.R_slice ho
       have HE17 := Aside0.mk (Kd.R_over' HE16.out (Kd.R_typed (HE06.out)) (by decide) hg1)
       have HN7 := Aside0.mk (blk_grown HN6.out hg1 (Kd.R_ne HE06.out HN6.out (by decide)))
       have HB7 := Aside0.mk hb1
       have HR07 := Aside0.mk (show Kd.R k37 37 w7 w3.heap.size (fun _ => True) (.slice A0p l0_0.length c0p) l0_0 by simpa using ho)
       (try simp only [List.nil_append])
       clear ho hb1 hg1 hat1
       refine hK.out _ _ ⟨((HK3.out.below HB7.out).1 |> fun h => (blk_cell h 0).trans rfl), ((HK3.out.below HB7.out).1 |> fun h => (blk_cell h 1).trans rfl)⟩ (fun hHeld => ?_)
       clear hK K
       refine norm_ (a' := ?_) ?_ ?_
       rotate_left
       ·show Act.put _ (some 24) _ = _
        simp only [Act.put, List.setIfInBounds_toArray, List.set_cons_zero, List.set_cons_succ, i64_w, i32_w]
        rfl
       refine one_ (i := 7) (N := some 28) #[true, true, true, true, true, true, true, true, false, true, false] rfl rfl (by kernel_rfl) (by decide) (fun K hK => ?_)
       refine Kd.R_append_rows_step (w0 := w3) k39 w3.heap.size (by rfl) (.tmp 25) (.tmp 27) 28 39 (.agg #[.string ⟨#[]⟩, .string ⟨#[]⟩, .int .u64 0, .string ⟨#[]⟩]) 56 rfl Try.underlying28 info39 rfl (by decide) (by omega) v1 [] l0_1 _ _ _ (fun _ => True) (fun _ => False) rfl rfl ?aO ?aR (fun _ _ h => h) (fun _ h => h.elim) (fun _ _ => trivial) ?aB ?aS ?aL ?_
       (case aO => exact HE17.out)
       (case aR => exact Kd.C_below HC1.out HB7.out)
       (case aB => exact HB7.out)
       (case aS => exact HB7.out.size)
       (case aL => have := HLIM1.out; simp only [List.length_nil]; omega)
       intro u1 w8 ho hb1 hg1 hat1
       obtain ⟨A1p, c1p, rfl⟩ := Kd.R_slice ho
       have HR08 := Aside0.mk (Kd.R_over' HR07.out (Kd.R_typed (HE17.out)) (by decide) hg1)
       have HN8 := Aside0.mk (blk_grown HN7.out hg1 (Kd.R_ne HE17.out HN7.out (by decide)))
       have HB8 := Aside0.mk hb1
       have HR18 := Aside0.mk (show Kd.R k39 39 w8 w3.heap.size (fun _ => True) (.slice A1p l0_1.length c1p) l0_1 by simpa using ho)
       (try simp only [List.nil_append])
       clear ho hb1 hg1 hat1
       refine hK.out _ _ ⟨((HK3.out.below HB8.out).1 |> fun h => (blk_cell h 0).trans rfl), ((HK3.out.below HB8.out).1 |> fun h => (blk_cell h 1).trans rfl)⟩ (fun hHeld => ?_)
       clear hK K
       refine norm_ (a' := ?_) ?_ ?_
       rotate_left
       ·show Act.put _ (some 28) _ = _
        simp only [Act.put, List.setIfInBounds_toArray, List.set_cons_zero, List.set_cons_succ, i64_w, i32_w]
        rfl
       refine pure_ (i := 8) (N := some 29) (v := ?_) (a' := ?_) #[true, true, true, true, true, true, true, true, true, true, false] rfl rfl (by kernel_rfl) (fun _ _ _ h => h) (Or.inl ⟨by rfl, ?_⟩) ?_ ?_
       rotate_left
       ·intro w'
        go_simp
        with_reducible rfl
       rotate_left
       ·simp only [Act.put, List.setIfInBounds_toArray, List.set_cons_zero, List.set_cons_succ, i64_w, i32_w]
        rfl
       exact norm_ (by simp only [putAll, Act.put, List.setIfInBounds_toArray, List.set_cons_zero, List.set_cons_succ]) (hCont (v0, v1, A0p, c0p, A1p, c1p, w5.heap.size) _ ⟨HR08, HR18, HN8, HB8, ⟨HB5.out.size⟩⟩)
     ·skip
      refine value_ (w1 := ?_) (v := ?_) (by rfl) rfl ?_ ?_
      rotate_left 2
      ·go_simp
       constructor
       ·rfl
       ·rfl
      obtain ⟨w5, hw⟩ : ∃ w', w' = w4.alloc (.cells #[.slice none 0 0, .slice none 0 0] 30) := ⟨_, rfl⟩
      rw [← hw]
      have hb : Below w4.heap.size w4 w5 := hw ▸ below_alloc (Below.refl _ _) _
      have HN5 := Aside0.mk (show w5.heap[w4.heap.size]? = some (.cells #[.slice none 0 0, .slice none 0 0] 30 (0, 0)) from hw ▸ blk_new _ _)
      have HE15 := Aside0.mk (Kd.R_below HE14.out hb)
      have HB5 := Aside0.mk (below_step HB4.out hb)
      clear hb hw
      refine hK.out _ _ ⟨((HK3.out.below HB5.out).1 |> fun h => (blk_cell h 0).trans rfl), ((HK3.out.below HB5.out).1 |> fun h => (blk_cell h 1).trans rfl)⟩ (fun hHeld => ?_)
      clear hK K
      refine norm_ (a' := ?_) ?_ ?_
      rotate_left
      ·show Act.put _ (some 7) _ = _
       simp only [Act.put, List.setIfInBounds_toArray, List.set_cons_zero, List.set_cons_succ, i64_w, i32_w]
       rfl
      refine one_ (i := 0) (N := some 21) #[true, true, true, false, true, true, true, false, false, true, false] rfl rfl (by kernel_rfl) (by decide) (fun K hK => ?_)
      refine Kd.R_lit_step (w0 := w3) k37 w3.heap.size 37 (by rfl) (N := 21) (by rfl) (xs := []) (inner := []) (ok := fun _ => True) (okp := fun _ => True) ?hr (Reps.none _ _) (fun _ hk => hk) trivial HB5.out HB5.out.size (by simp) ?_
      (case hr => first | (go_simp; done) | (go_simp; rfl))
      intro v0 w6 ho hb1 hg1 hat1
      have hb : Below w5.heap.size w5 w6 := ⟨hg1.os, hg1.tape, hg1.output, hg1.size, fun k hk => hg1.block k hk (by simp)⟩
      have HE16 := Aside0.mk (Kd.R_below HE15.out hb)
      have HN6 := Aside0.mk (blk_below HN5.out hb)
      have HB6 := Aside0.mk hb1
      have HE06 := Aside0.mk ho
      clear ho hb1 hg1 hat1 hb
      refine hK.out _ _ ⟨((HK3.out.below HB6.out).1 |> fun h => (blk_cell h 0).trans rfl), ((HK3.out.below HB6.out).1 |> fun h => (blk_cell h 1).trans rfl)⟩ (fun hHeld => ?_)
      clear hK K
      refine norm_ (a' := ?_) ?_ ?_
      rotate_left
      ·show Act.put _ (some 21) _ = _
       simp only [Act.put, List.setIfInBounds_toArray, List.set_cons_zero, List.set_cons_succ, i64_w, i32_w]
       rfl
      refine one_ (i := 3) (N := some 24) #[true, true, true, true, true, true, true, false, false, true, false] rfl rfl (by kernel_rfl) (by decide) (fun K hK => ?_)
      refine Kd.R_append_rows_step (w0 := w3) k37 w3.heap.size (by rfl) (.tmp 21) (.tmp 23) 27 37 (.agg #[.string ⟨#[]⟩, .int .u64 0, .bool false]) 32 rfl Try.underlying27 info37 rfl (by decide) (by omega) v0 [] l0_0 _ _ _ (fun _ => True) (fun _ => False) rfl rfl ?aO ?aR (fun _ _ h => h) (fun _ h => h.elim) (fun _ _ => trivial) ?aB ?aS ?aL ?_
      (case aO => exact HE06.out)
      (case aR => exact Kd.C_below HC0.out HB6.out)
      (case aB => exact HB6.out)
      (case aS => exact HB6.out.size)
      (case aL => have := HLIM0.out; simp only [List.length_nil]; omega)
      intro u0 w7 ho hb1 hg1 hat1
      obtain ⟨A0p, c0p, rfl⟩ := Kd.R_slice ho
      have HE17 := Aside0.mk (Kd.R_over' HE16.out (Kd.R_typed (HE06.out)) (by decide) hg1)
      have HN7 := Aside0.mk (blk_grown HN6.out hg1 (Kd.R_ne HE06.out HN6.out (by decide)))
      have HB7 := Aside0.mk hb1
      have HR07 := Aside0.mk (show Kd.R k37 37 w7 w3.heap.size (fun _ => True) (.slice A0p l0_0.length c0p) l0_0 by simpa using ho)
      (try simp only [List.nil_append])
      clear ho hb1 hg1 hat1
      refine hK.out _ _ ⟨((HK3.out.below HB7.out).1 |> fun h => (blk_cell h 0).trans rfl), ((HK3.out.below HB7.out).1 |> fun h => (blk_cell h 1).trans rfl)⟩ (fun hHeld => ?_)
      clear hK K
      refine norm_ (a' := ?_) ?_ ?_
      rotate_left
      ·show Act.put _ (some 24) _ = _
       simp only [Act.put, List.setIfInBounds_toArray, List.set_cons_zero, List.set_cons_succ, i64_w, i32_w]
       rfl
      refine one_ (i := 7) (N := some 28) #[true, true, true, true, true, true, true, true, false, true, false] rfl rfl (by kernel_rfl) (by decide) (fun K hK => ?_)
      refine Kd.R_append_rows_step (w0 := w3) k39 w3.heap.size (by rfl) (.tmp 25) (.tmp 27) 28 39 (.agg #[.string ⟨#[]⟩, .string ⟨#[]⟩, .int .u64 0, .string ⟨#[]⟩]) 56 rfl Try.underlying28 info39 rfl (by decide) (by omega) v1 [] l0_1 _ _ _ (fun _ => True) (fun _ => False) rfl rfl ?aO ?aR (fun _ _ h => h) (fun _ h => h.elim) (fun _ _ => trivial) ?aB ?aS ?aL ?_
      (case aO => exact HE17.out)
      (case aR => exact Kd.C_below HC1.out HB7.out)
      (case aB => exact HB7.out)
      (case aS => exact HB7.out.size)
      (case aL => have := HLIM1.out; simp only [List.length_nil]; omega)
      intro u1 w8 ho hb1 hg1 hat1
      obtain ⟨A1p, c1p, rfl⟩ := Kd.R_slice ho
      have HR08 := Aside0.mk (Kd.R_over' HR07.out (Kd.R_typed (HE17.out)) (by decide) hg1)
      have HN8 := Aside0.mk (blk_grown HN7.out hg1 (Kd.R_ne HE17.out HN7.out (by decide)))
      have HB8 := Aside0.mk hb1
      have HR18 := Aside0.mk (show Kd.R k39 39 w8 w3.heap.size (fun _ => True) (.slice A1p l0_1.length c1p) l0_1 by simpa using ho)
      (try simp only [List.nil_append])
      clear ho hb1 hg1 hat1
      refine hK.out _ _ ⟨((HK3.out.below HB8.out).1 |> fun h => (blk_cell h 0).trans rfl), ((HK3.out.below HB8.out).1 |> fun h => (blk_cell h 1).trans rfl)⟩ (fun hHeld => ?_)
      clear hK K
      refine norm_ (a' := ?_) ?_ ?_
      rotate_left
      ·show Act.put _ (some 28) _ = _
       simp only [Act.put, List.setIfInBounds_toArray, List.set_cons_zero, List.set_cons_succ, i64_w, i32_w]
       rfl
      refine pure_ (i := 8) (N := some 29) (v := ?_) (a' := ?_) #[true, true, true, true, true, true, true, true, true, true, false] rfl rfl (by kernel_rfl) (fun _ _ _ h => h) (Or.inl ⟨by rfl, ?_⟩) ?_ ?_
      rotate_left
      ·intro w'
       go_simp
       with_reducible rfl
      rotate_left
      ·simp only [Act.put, List.setIfInBounds_toArray, List.set_cons_zero, List.set_cons_succ, i64_w, i32_w]
       rfl
      exact norm_ (by simp only [putAll, Act.put, List.setIfInBounds_toArray, List.set_cons_zero, List.set_cons_succ]) (hCont (v0, v1, A0p, c0p, A1p, c1p, w4.heap.size) _ ⟨HR08, HR18, HN8, HB8, ⟨HB4.out.size⟩⟩)
    ·skip
     refine value_ (w1 := ?_) (v := ?_) (by rfl) rfl ?_ ?_
     rotate_left 2
     ·go_simp
      constructor
      ·rfl
      ·rfl
     obtain ⟨w4, hw⟩ : ∃ w', w' = w3.alloc (.cells #[.slice none 0 0, .slice none 0 0] 30) := ⟨_, rfl⟩
     rw [← hw]
     have hb : Below w3.heap.size w3 w4 := hw ▸ below_alloc (Below.refl _ _) _
     have HN4 := Aside0.mk (show w4.heap[w3.heap.size]? = some (.cells #[.slice none 0 0, .slice none 0 0] 30 (0, 0)) from hw ▸ blk_new _ _)
     have HB4 := Aside0.mk (below_step HB3.out hb)
     clear hb hw
     refine hK.out _ _ ⟨((HK3.out.below HB4.out).1 |> fun h => (blk_cell h 0).trans rfl), ((HK3.out.below HB4.out).1 |> fun h => (blk_cell h 1).trans rfl)⟩ (fun hHeld => ?_)
     clear hK K
     refine norm_ (a' := ?_) ?_ ?_
     rotate_left
     ·show Act.put _ (some 7) _ = _
      simp only [Act.put, List.setIfInBounds_toArray, List.set_cons_zero, List.set_cons_succ, i64_w, i32_w]
      rfl
     refine two_ (i := 0) (j := 4) (Ni := some 21) (Nj := some 25) #[true, true, true, false, false, true, true, false, false, true, false] #[false, true, true, false, true, true, true, false, false, true, false] rfl rfl rfl rfl (by kernel_rfl) (by decide) (by decide) (fun K hK => ?_) (fun K hK => ?_)
     ·skip
      refine Kd.R_lit_step (w0 := w3) k37 w3.heap.size 37 (by rfl) (N := 21) (by rfl) (xs := []) (inner := []) (ok := fun _ => True) (okp := fun _ => True) ?hr (Reps.none _ _) (fun _ hk => hk) trivial HB4.out HB4.out.size (by simp) ?_
      (case hr => first | (go_simp; done) | (go_simp; rfl))
      intro v0 w5 ho hb1 hg1 hat1
      have hb : Below w4.heap.size w4 w5 := ⟨hg1.os, hg1.tape, hg1.output, hg1.size, fun k hk => hg1.block k hk (by simp)⟩
      have HN5 := Aside0.mk (blk_below HN4.out hb)
      have HB5 := Aside0.mk hb1
      have HE05 := Aside0.mk ho
      clear ho hb1 hg1 hat1 hb
      refine hK.out _ _ ⟨((HK3.out.below HB5.out).1 |> fun h => (blk_cell h 0).trans rfl), ((HK3.out.below HB5.out).1 |> fun h => (blk_cell h 1).trans rfl)⟩ (fun hHeld => ?_)
      clear hK K
      refine norm_ (a' := ?_) ?_ ?_
      rotate_left
      ·show Act.put _ (some 21) _ = _
       simp only [Act.put, List.setIfInBounds_toArray, List.set_cons_zero, List.set_cons_succ, i64_w, i32_w]
       rfl
      refine two_ (i := 3) (j := 4) (Ni := some 24) (Nj := some 25) #[true, true, true, true, false, true, true, false, false, true, false] #[true, true, true, false, true, true, true, false, false, true, false] rfl rfl rfl rfl (by kernel_rfl) (by decide) (by decide) (fun K hK => ?_) (fun K hK => ?_)
      ·skip
       refine Kd.R_append_rows_step (w0 := w3) k37 w3.heap.size (by rfl) (.tmp 21) (.tmp 23) 27 37 (.agg #[.string ⟨#[]⟩, .int .u64 0, .bool false]) 32 rfl Try.underlying27 info37 rfl (by decide) (by omega) v0 [] l0_0 _ _ _ (fun _ => True) (fun _ => False) rfl rfl ?aO ?aR (fun _ _ h => h) (fun _ h => h.elim) (fun _ _ => trivial) ?aB ?aS ?aL ?_
       (case aO => exact HE05.out)
       (case aR => exact Kd.C_below HC0.out HB5.out)
       (case aB => exact HB5.out)
       (case aS => exact HB5.out.size)
       (case aL => have := HLIM0.out; simp only [List.length_nil]; omega)
       intro u0 w6 ho hb1 hg1 hat1
       obtain ⟨A0p, c0p, rfl⟩ := Kd.R_slice ho
       have HN6 := Aside0.mk (blk_grown HN5.out hg1 (Kd.R_ne HE05.out HN5.out (by decide)))
       have HB6 := Aside0.mk hb1
       have HR06 := Aside0.mk (show Kd.R k37 37 w6 w3.heap.size (fun _ => True) (.slice A0p l0_0.length c0p) l0_0 by simpa using ho)
       (try simp only [List.nil_append])
       clear ho hb1 hg1 hat1
       refine hK.out _ _ ⟨((HK3.out.below HB6.out).1 |> fun h => (blk_cell h 0).trans rfl), ((HK3.out.below HB6.out).1 |> fun h => (blk_cell h 1).trans rfl)⟩ (fun hHeld => ?_)
       clear hK K
       refine norm_ (a' := ?_) ?_ ?_
       rotate_left
       ·show Act.put _ (some 24) _ = _
        simp only [Act.put, List.setIfInBounds_toArray, List.set_cons_zero, List.set_cons_succ, i64_w, i32_w]
        rfl
       refine one_ (i := 4) (N := some 25) #[true, true, true, true, true, true, true, false, false, true, false] rfl rfl (by kernel_rfl) (by decide) (fun K hK => ?_)
       refine Kd.R_lit_step (w0 := w3) k39 w3.heap.size 39 (by rfl) (N := 25) (by rfl) (xs := []) (inner := []) (ok := fun _ => True) (okp := fun _ => True) ?hr (Reps.none _ _) (fun _ hk => hk) trivial HB6.out HB6.out.size (by simp) ?_
       (case hr => first | (go_simp; done) | (go_simp; rfl))
       intro v1 w7 ho hb1 hg1 hat1
       have hb : Below w6.heap.size w6 w7 := ⟨hg1.os, hg1.tape, hg1.output, hg1.size, fun k hk => hg1.block k hk (by simp)⟩
       have HR07 := Aside0.mk (Kd.R_below HR06.out hb)
       have HN7 := Aside0.mk (blk_below HN6.out hb)
       have HB7 := Aside0.mk hb1
       have HE17 := Aside0.mk ho
       clear ho hb1 hg1 hat1 hb
       refine hK.out _ _ ⟨((HK3.out.below HB7.out).1 |> fun h => (blk_cell h 0).trans rfl), ((HK3.out.below HB7.out).1 |> fun h => (blk_cell h 1).trans rfl)⟩ (fun hHeld => ?_)
       clear hK K
       refine norm_ (a' := ?_) ?_ ?_
       rotate_left
       ·show Act.put _ (some 25) _ = _
        simp only [Act.put, List.setIfInBounds_toArray, List.set_cons_zero, List.set_cons_succ, i64_w, i32_w]
        rfl
       refine one_ (i := 7) (N := some 28) #[true, true, true, true, true, true, true, true, false, true, false] rfl rfl (by kernel_rfl) (by decide) (fun K hK => ?_)
       refine Kd.R_append_rows_step (w0 := w3) k39 w3.heap.size (by rfl) (.tmp 25) (.tmp 27) 28 39 (.agg #[.string ⟨#[]⟩, .string ⟨#[]⟩, .int .u64 0, .string ⟨#[]⟩]) 56 rfl Try.underlying28 info39 rfl (by decide) (by omega) v1 [] l0_1 _ _ _ (fun _ => True) (fun _ => False) rfl rfl ?aO ?aR (fun _ _ h => h) (fun _ h => h.elim) (fun _ _ => trivial) ?aB ?aS ?aL ?_
       (case aO => exact HE17.out)
       (case aR => exact Kd.C_below HC1.out HB7.out)
       (case aB => exact HB7.out)
       (case aS => exact HB7.out.size)
       (case aL => have := HLIM1.out; simp only [List.length_nil]; omega)
       intro u1 w8 ho hb1 hg1 hat1
       obtain ⟨A1p, c1p, rfl⟩ := Kd.R_slice ho
       have HR08 := Aside0.mk (Kd.R_over' HR07.out (Kd.R_typed (HE17.out)) (by decide) hg1)
       have HN8 := Aside0.mk (blk_grown HN7.out hg1 (Kd.R_ne HE17.out HN7.out (by decide)))
       have HB8 := Aside0.mk hb1
       have HR18 := Aside0.mk (show Kd.R k39 39 w8 w3.heap.size (fun _ => True) (.slice A1p l0_1.length c1p) l0_1 by simpa using ho)
       (try simp only [List.nil_append])
       clear ho hb1 hg1 hat1
       refine hK.out _ _ ⟨((HK3.out.below HB8.out).1 |> fun h => (blk_cell h 0).trans rfl), ((HK3.out.below HB8.out).1 |> fun h => (blk_cell h 1).trans rfl)⟩ (fun hHeld => ?_)
       clear hK K
       refine norm_ (a' := ?_) ?_ ?_
       rotate_left
       ·show Act.put _ (some 28) _ = _
        simp only [Act.put, List.setIfInBounds_toArray, List.set_cons_zero, List.set_cons_succ, i64_w, i32_w]
        rfl
       refine pure_ (i := 8) (N := some 29) (v := ?_) (a' := ?_) #[true, true, true, true, true, true, true, true, true, true, false] rfl rfl (by kernel_rfl) (fun _ _ _ h => h) (Or.inl ⟨by rfl, ?_⟩) ?_ ?_
       rotate_left
       ·intro w'
        go_simp
        with_reducible rfl
       rotate_left
       ·simp only [Act.put, List.setIfInBounds_toArray, List.set_cons_zero, List.set_cons_succ, i64_w, i32_w]
        rfl
       exact norm_ (by simp only [putAll, Act.put, List.setIfInBounds_toArray, List.set_cons_zero, List.set_cons_succ]) (hCont (v0, v1, A0p, c0p, A1p, c1p, w3.heap.size) _ ⟨HR08, HR18, HN8, HB8, ⟨HB3.out.size⟩⟩)
      ·skip
       refine Kd.R_lit_step (w0 := w3) k39 w3.heap.size 39 (by rfl) (N := 25) (by rfl) (xs := []) (inner := []) (ok := fun _ => True) (okp := fun _ => True) ?hr (Reps.none _ _) (fun _ hk => hk) trivial HB5.out HB5.out.size (by simp) ?_
       (case hr => first | (go_simp; done) | (go_simp; rfl))
       intro v1 w6 ho hb1 hg1 hat1
       have hb : Below w5.heap.size w5 w6 := ⟨hg1.os, hg1.tape, hg1.output, hg1.size, fun k hk => hg1.block k hk (by simp)⟩
       have HE06 := Aside0.mk (Kd.R_below HE05.out hb)
       have HN6 := Aside0.mk (blk_below HN5.out hb)
       have HB6 := Aside0.mk hb1
       have HE16 := Aside0.mk ho
       clear ho hb1 hg1 hat1 hb
       refine hK.out _ _ ⟨((HK3.out.below HB6.out).1 |> fun h => (blk_cell h 0).trans rfl), ((HK3.out.below HB6.out).1 |> fun h => (blk_cell h 1).trans rfl)⟩ (fun hHeld => ?_)
       clear hK K
       refine norm_ (a' := ?_) ?_ ?_
       rotate_left
       ·show Act.put _ (some 25) _ = _
        simp only [Act.put, List.setIfInBounds_toArray, List.set_cons_zero, List.set_cons_succ, i64_w, i32_w]
        rfl
       refine one_ (i := 3) (N := some 24) #[true, true, true, true, true, true, true, false, false, true, false] rfl rfl (by kernel_rfl) (by decide) (fun K hK => ?_)
       refine Kd.R_append_rows_step (w0 := w3) k37 w3.heap.size (by rfl) (.tmp 21) (.tmp 23) 27 37 (.agg #[.string ⟨#[]⟩, .int .u64 0, .bool false]) 32 rfl Try.underlying27 info37 rfl (by decide) (by omega) v0 [] l0_0 _ _ _ (fun _ => True) (fun _ => False) rfl rfl ?aO ?aR (fun _ _ h => h) (fun _ h => h.elim) (fun _ _ => trivial) ?aB ?aS ?aL ?_
       (case aO => exact HE06.out)
       (case aR => exact Kd.C_below HC0.out HB6.out)
       (case aB => exact HB6.out)
       (case aS => exact HB6.out.size)
       (case aL => have := HLIM0.out; simp only [List.length_nil]; omega)
       intro u0 w7 ho hb1 hg1 hat1
       obtain ⟨A0p, c0p, rfl⟩ := Kd.R_slice ho
       have HE17 := Aside0.mk (Kd.R_over' HE16.out (Kd.R_typed (HE06.out)) (by decide) hg1)
       have HN7 := Aside0.mk (blk_grown HN6.out hg1 (Kd.R_ne HE06.out HN6.out (by decide)))
       have HB7 := Aside0.mk hb1
       have HR07 := Aside0.mk (show Kd.R k37 37 w7 w3.heap.size (fun _ => True) (.slice A0p l0_0.length c0p) l0_0 by simpa using ho)
       (try simp only [List.nil_append])
       clear ho hb1 hg1 hat1
       refine hK.out _ _ ⟨((HK3.out.below HB7.out).1 |> fun h => (blk_cell h 0).trans rfl), ((HK3.out.below HB7.out).1 |> fun h => (blk_cell h 1).trans rfl)⟩ (fun hHeld => ?_)
       clear hK K
       refine norm_ (a' := ?_) ?_ ?_
       rotate_left
       ·show Act.put _ (some 24) _ = _
        simp only [Act.put, List.setIfInBounds_toArray, List.set_cons_zero, List.set_cons_succ, i64_w, i32_w]
        rfl
       refine one_ (i := 7) (N := some 28) #[true, true, true, true, true, true, true, true, false, true, false] rfl rfl (by kernel_rfl) (by decide) (fun K hK => ?_)
       refine Kd.R_append_rows_step (w0 := w3) k39 w3.heap.size (by rfl) (.tmp 25) (.tmp 27) 28 39 (.agg #[.string ⟨#[]⟩, .string ⟨#[]⟩, .int .u64 0, .string ⟨#[]⟩]) 56 rfl Try.underlying28 info39 rfl (by decide) (by omega) v1 [] l0_1 _ _ _ (fun _ => True) (fun _ => False) rfl rfl ?aO ?aR (fun _ _ h => h) (fun _ h => h.elim) (fun _ _ => trivial) ?aB ?aS ?aL ?_
       (case aO => exact HE17.out)
       (case aR => exact Kd.C_below HC1.out HB7.out)
       (case aB => exact HB7.out)
       (case aS => exact HB7.out.size)
       (case aL => have := HLIM1.out; simp only [List.length_nil]; omega)
       intro u1 w8 ho hb1 hg1 hat1
       obtain ⟨A1p, c1p, rfl⟩ := Kd.R_slice ho
       have HR08 := Aside0.mk (Kd.R_over' HR07.out (Kd.R_typed (HE17.out)) (by decide) hg1)
       have HN8 := Aside0.mk (blk_grown HN7.out hg1 (Kd.R_ne HE17.out HN7.out (by decide)))
       have HB8 := Aside0.mk hb1
       have HR18 := Aside0.mk (show Kd.R k39 39 w8 w3.heap.size (fun _ => True) (.slice A1p l0_1.length c1p) l0_1 by simpa using ho)
       (try simp only [List.nil_append])
       clear ho hb1 hg1 hat1
       refine hK.out _ _ ⟨((HK3.out.below HB8.out).1 |> fun h => (blk_cell h 0).trans rfl), ((HK3.out.below HB8.out).1 |> fun h => (blk_cell h 1).trans rfl)⟩ (fun hHeld => ?_)
       clear hK K
       refine norm_ (a' := ?_) ?_ ?_
       rotate_left
       ·show Act.put _ (some 28) _ = _
        simp only [Act.put, List.setIfInBounds_toArray, List.set_cons_zero, List.set_cons_succ, i64_w, i32_w]
        rfl
       refine pure_ (i := 8) (N := some 29) (v := ?_) (a' := ?_) #[true, true, true, true, true, true, true, true, true, true, false] rfl rfl (by kernel_rfl) (fun _ _ _ h => h) (Or.inl ⟨by rfl, ?_⟩) ?_ ?_
       rotate_left
       ·intro w'
        go_simp
        with_reducible rfl
       rotate_left
       ·simp only [Act.put, List.setIfInBounds_toArray, List.set_cons_zero, List.set_cons_succ, i64_w, i32_w]
        rfl
       exact norm_ (by simp only [putAll, Act.put, List.setIfInBounds_toArray, List.set_cons_zero, List.set_cons_succ]) (hCont (v0, v1, A0p, c0p, A1p, c1p, w3.heap.size) _ ⟨HR08, HR18, HN8, HB8, ⟨HB3.out.size⟩⟩)
     ·skip
      refine Kd.R_lit_step (w0 := w3) k39 w3.heap.size 39 (by rfl) (N := 25) (by rfl) (xs := []) (inner := []) (ok := fun _ => True) (okp := fun _ => True) ?hr (Reps.none _ _) (fun _ hk => hk) trivial HB4.out HB4.out.size (by simp) ?_
      (case hr => first | (go_simp; done) | (go_simp; rfl))
      intro v1 w5 ho hb1 hg1 hat1
      have hb : Below w4.heap.size w4 w5 := ⟨hg1.os, hg1.tape, hg1.output, hg1.size, fun k hk => hg1.block k hk (by simp)⟩
      have HN5 := Aside0.mk (blk_below HN4.out hb)
      have HB5 := Aside0.mk hb1
      have HE15 := Aside0.mk ho
      clear ho hb1 hg1 hat1 hb
      refine hK.out _ _ ⟨((HK3.out.below HB5.out).1 |> fun h => (blk_cell h 0).trans rfl), ((HK3.out.below HB5.out).1 |> fun h => (blk_cell h 1).trans rfl)⟩ (fun hHeld => ?_)
      clear hK K
      refine norm_ (a' := ?_) ?_ ?_
      rotate_left
      ·show Act.put _ (some 25) _ = _
       simp only [Act.put, List.setIfInBounds_toArray, List.set_cons_zero, List.set_cons_succ, i64_w, i32_w]
       rfl
      refine one_ (i := 0) (N := some 21) #[true, true, true, false, true, true, true, false, false, true, false] rfl rfl (by kernel_rfl) (by decide) (fun K hK => ?_)
      refine Kd.R_lit_step (w0 := w3) k37 w3.heap.size 37 (by rfl) (N := 21) (by rfl) (xs := []) (inner := []) (ok := fun _ => True) (okp := fun _ => True) ?hr (Reps.none _ _) (fun _ hk => hk) trivial HB5.out HB5.out.size (by simp) ?_
      (case hr => first | (go_simp; done) | (go_simp; rfl))
      intro v0 w6 ho hb1 hg1 hat1
      have hb : Below w5.heap.size w5 w6 := ⟨hg1.os, hg1.tape, hg1.output, hg1.size, fun k hk => hg1.block k hk (by simp)⟩
      have HE16 := Aside0.mk (Kd.R_below HE15.out hb)
      have HN6 := Aside0.mk (blk_below HN5.out hb)
      have HB6 := Aside0.mk hb1
      have HE06 := Aside0.mk ho
      clear ho hb1 hg1 hat1 hb
      refine hK.out _ _ ⟨((HK3.out.below HB6.out).1 |> fun h => (blk_cell h 0).trans rfl), ((HK3.out.below HB6.out).1 |> fun h => (blk_cell h 1).trans rfl)⟩ (fun hHeld => ?_)
      clear hK K
      refine norm_ (a' := ?_) ?_ ?_
      rotate_left
      ·show Act.put _ (some 21) _ = _
       simp only [Act.put, List.setIfInBounds_toArray, List.set_cons_zero, List.set_cons_succ, i64_w, i32_w]
       rfl
      refine one_ (i := 3) (N := some 24) #[true, true, true, true, true, true, true, false, false, true, false] rfl rfl (by kernel_rfl) (by decide) (fun K hK => ?_)
      refine Kd.R_append_rows_step (w0 := w3) k37 w3.heap.size (by rfl) (.tmp 21) (.tmp 23) 27 37 (.agg #[.string ⟨#[]⟩, .int .u64 0, .bool false]) 32 rfl Try.underlying27 info37 rfl (by decide) (by omega) v0 [] l0_0 _ _ _ (fun _ => True) (fun _ => False) rfl rfl ?aO ?aR (fun _ _ h => h) (fun _ h => h.elim) (fun _ _ => trivial) ?aB ?aS ?aL ?_
      (case aO => exact HE06.out)
      (case aR => exact Kd.C_below HC0.out HB6.out)
      (case aB => exact HB6.out)
      (case aS => exact HB6.out.size)
      (case aL => have := HLIM0.out; simp only [List.length_nil]; omega)
      intro u0 w7 ho hb1 hg1 hat1
      obtain ⟨A0p, c0p, rfl⟩ := Kd.R_slice ho
      have HE17 := Aside0.mk (Kd.R_over' HE16.out (Kd.R_typed (HE06.out)) (by decide) hg1)
      have HN7 := Aside0.mk (blk_grown HN6.out hg1 (Kd.R_ne HE06.out HN6.out (by decide)))
      have HB7 := Aside0.mk hb1
      have HR07 := Aside0.mk (show Kd.R k37 37 w7 w3.heap.size (fun _ => True) (.slice A0p l0_0.length c0p) l0_0 by simpa using ho)
      (try simp only [List.nil_append])
      clear ho hb1 hg1 hat1
      refine hK.out _ _ ⟨((HK3.out.below HB7.out).1 |> fun h => (blk_cell h 0).trans rfl), ((HK3.out.below HB7.out).1 |> fun h => (blk_cell h 1).trans rfl)⟩ (fun hHeld => ?_)
      clear hK K
      refine norm_ (a' := ?_) ?_ ?_
      rotate_left
      ·show Act.put _ (some 24) _ = _
       simp only [Act.put, List.setIfInBounds_toArray, List.set_cons_zero, List.set_cons_succ, i64_w, i32_w]
       rfl
      refine one_ (i := 7) (N := some 28) #[true, true, true, true, true, true, true, true, false, true, false] rfl rfl (by kernel_rfl) (by decide) (fun K hK => ?_)
      refine Kd.R_append_rows_step (w0 := w3) k39 w3.heap.size (by rfl) (.tmp 25) (.tmp 27) 28 39 (.agg #[.string ⟨#[]⟩, .string ⟨#[]⟩, .int .u64 0, .string ⟨#[]⟩]) 56 rfl Try.underlying28 info39 rfl (by decide) (by omega) v1 [] l0_1 _ _ _ (fun _ => True) (fun _ => False) rfl rfl ?aO ?aR (fun _ _ h => h) (fun _ h => h.elim) (fun _ _ => trivial) ?aB ?aS ?aL ?_
      (case aO => exact HE17.out)
      (case aR => exact Kd.C_below HC1.out HB7.out)
      (case aB => exact HB7.out)
      (case aS => exact HB7.out.size)
      (case aL => have := HLIM1.out; simp only [List.length_nil]; omega)
      intro u1 w8 ho hb1 hg1 hat1
      obtain ⟨A1p, c1p, rfl⟩ := Kd.R_slice ho
      have HR08 := Aside0.mk (Kd.R_over' HR07.out (Kd.R_typed (HE17.out)) (by decide) hg1)
      have HN8 := Aside0.mk (blk_grown HN7.out hg1 (Kd.R_ne HE17.out HN7.out (by decide)))
      have HB8 := Aside0.mk hb1
      have HR18 := Aside0.mk (show Kd.R k39 39 w8 w3.heap.size (fun _ => True) (.slice A1p l0_1.length c1p) l0_1 by simpa using ho)
      (try simp only [List.nil_append])
      clear ho hb1 hg1 hat1
      refine hK.out _ _ ⟨((HK3.out.below HB8.out).1 |> fun h => (blk_cell h 0).trans rfl), ((HK3.out.below HB8.out).1 |> fun h => (blk_cell h 1).trans rfl)⟩ (fun hHeld => ?_)
      clear hK K
      refine norm_ (a' := ?_) ?_ ?_
      rotate_left
      ·show Act.put _ (some 28) _ = _
       simp only [Act.put, List.setIfInBounds_toArray, List.set_cons_zero, List.set_cons_succ, i64_w, i32_w]
       rfl
      refine pure_ (i := 8) (N := some 29) (v := ?_) (a' := ?_) #[true, true, true, true, true, true, true, true, true, true, false] rfl rfl (by kernel_rfl) (fun _ _ _ h => h) (Or.inl ⟨by rfl, ?_⟩) ?_ ?_
      rotate_left
      ·intro w'
       go_simp
       with_reducible rfl
      rotate_left
      ·simp only [Act.put, List.setIfInBounds_toArray, List.set_cons_zero, List.set_cons_succ, i64_w, i32_w]
       rfl
      exact norm_ (by simp only [putAll, Act.put, List.setIfInBounds_toArray, List.set_cons_zero, List.set_cons_succ]) (hCont (v0, v1, A0p, c0p, A1p, c1p, w3.heap.size) _ ⟨HR08, HR18, HN8, HB8, ⟨HB3.out.size⟩⟩)
   rintro ⟨v0, v1, A0', c0', A1', c1', bn⟩ w7 ⟨HR07, HR17, HN7, HB7, HG7⟩
   have hHeld := And.intro ((HK3.out.below HB7.out).1 |> fun h => (blk_cell h 0).trans rfl) ((HK3.out.below HB7.out).1 |> fun h => (blk_cell h 1).trans rfl)
   have hn0 : w7.cell? ⟨bn, 0, none⟩ = some (.slice none 0 0) := (blk_cell HN7.out 0).trans rfl
   have hn1 : w7.cell? ⟨bn, 1, none⟩ = some (.slice none 0 0) := (blk_cell HN7.out 1).trans rfl
   have hnf0 := blk_frozen HN7.out 0
   have hnf1 := blk_frozen HN7.out 1
   refine norm_ (a' := ?_) ?_ ?_
   rotate_left
   ·simp only [putAll, Act.put, List.setIfInBounds_toArray, List.set_cons_zero, List.set_cons_succ]
    rfl
   refine last_ (i := 10) (N := none) #[true, true, true, true, true, true, true, true, true, true, true] rfl rfl (by kernel_rfl) (by decide) (fun K hK => ?_)
   refine skip_ (w1 := ?_) (by rfl) rfl ?_ ?_
   rotate_left
   ·go_simp
    rfl
   refine hK.out _ _ ?_
   clear hK K
   refine done_ (by kernel_rfl) ?_
   obtain ⟨w8, hw8⟩ : ∃ w', w' = (w7.setCell ⟨bn, 0, none⟩ (.slice A0' l0_0.length c0')).setCell ⟨bn, 1, none⟩ (.slice A1' l0_1.length c1') := ⟨_, rfl⟩
   have HS8 := Aside0.mk (show StIs w3 w8 bn A0' c0' A1' c1' l0_0 l0_1 by
    rw [hw8]
    have hb0 := blk_put HN7.out 0 (.slice A0' l0_0.length c0') rfl
    refine ⟨blk_put hb0 1 _ rfl, Kd.R_set (Kd.R_set HR07.out HN7.out (by decide) 0 _) hb0 (by decide) 1 _, Kd.R_set (Kd.R_set HR17.out HN7.out (by decide) 0 _) hb0 (by decide) 1 _, below_set (below_set HB7.out HG7.out) HG7.out, HG7.out⟩)
   rw [← hw8]
   clear hw8 hHeld HR07 HR17 HN7 HB7 HG7 hn0 hn1 hnf0 hnf1
   have HK8 := Aside0.mk (HK3.out.below HS8.out.2.2.2.1)
   have hx0 : w8.cell? ⟨be, 0, none⟩ = some (.int .i64 a1_0) := (blk_cell HK8.out.2.1 0).trans rfl
   have hx1 : w8.cell? ⟨be, 1, none⟩ = some (.string a1_1) := (blk_cell HK8.out.2.1 1).trans rfl
   have hx2 : w8.cell? ⟨be, 2, none⟩ = some (.string a1_2) := (blk_cell HK8.out.2.1 2).trans rfl
   have hx3 : w8.cell? ⟨be, 3, none⟩ = some (.string a1_3) := (blk_cell HK8.out.2.1 3).trans rfl
   have hx4 : w8.cell? ⟨be, 4, none⟩ = some (.int .u64 a1_4) := (blk_cell HK8.out.2.1 4).trans rfl
   go_wp2_with fail
   refine (change_calls bn a1_0 a1_1 a1_2 a1_3 a1_4 l0_0 l0_1 _ w3 _ HS8.out.at_ (valid_len HV.out).1 (valid_len HV.out).2 rfl).mono ?_
   rintro e w9 ⟨rfl, hst⟩
   obtain ⟨res, hres⟩ : ∃ res, res = stepF a1_0 a1_1 a1_2 a1_3 a1_4 l0_0 l0_1 := ⟨_, rfl⟩
   rw [← hres] at hst ⊢
   have H5 := Aside0.mk (show stepR l0_0 l0_1 res = (r1, r2, r3, r4) by rw [hres]; exact H4.out)
   have HNL := Aside0.mk (show res.2.2.length ≤ 17 by rw [hres]; have h1 := valid_len HV.out; have h2 := stepF_len a1_0 a1_1 a1_2 a1_3 a1_4 l0_0 l0_1; omega)
   clear hres H4 hx0 hx1 hx2 hx3 hx4 HS8 HK8
   obtain ⟨A2, c2, A3, c3, hs⟩ := hst
   have HS9 := Aside0.mk hs
   have HK9 := Aside0.mk (HK3.out.below hs.2.2.2.1)
   clear hs
   obtain ⟨why, nf, nl⟩ := res
   by_cases hwhy : why = 0
   case neg =>
    have bw : (why == 0) = false := beq_eq_false_iff_ne.2 hwhy
    have bw' : (why != 0) = true := by rw [bne, bw]; rfl
    obtain ⟨rfl, rfl, rfl, rfl⟩ : [] = r1 ∧ [] = r2 ∧ [] = r3 ∧ why = r4 := by have h := H5.out; unfold stepR at h; rw [if_neg hwhy] at h; simpa using h
    have HKE := HK9
    have he0 : w9.cell? ⟨br, 0, none⟩ = some (.slice none 0 0) := (blk_cell HKE.out.2.2.1 0).trans rfl
    have he1 : w9.cell? ⟨br, 1, none⟩ = some (.slice none 0 0) := (blk_cell HKE.out.2.2.1 1).trans rfl
    have hef0 := blk_frozen HKE.out.2.2.1 0
    have hef1 := blk_frozen HKE.out.2.2.1 1
    go_wp2
    refine bodyPost_ret (results_ctt rfl _ _ br 30 #[.slice none 0 0, .slice none 0 0] (0, 0) _ rfl (blk_put (blk_put HKE.out.2.2.1 0 _ rfl) 1 _ rfl) Try.underlying30 rfl (by kernel_rfl)) rfl ?_
    exact ⟨_, _, _, rfl, Kd.R_nil _ _ _ _ _, Kd.R_nil _ _ _ _ _, Kd.R_nil _ _ _ _ _, below_set (below_set HKE.out.2.2.2.1 HKE.out.2.2.2.2) HKE.out.2.2.2.2⟩
   case pos =>
    subst hwhy
    obtain ⟨rfl, rfl, rfl, rfl⟩ : nf = r1 ∧ nl = r2 ∧ outsV l0_0 l0_1 nf nl nl = r3 ∧ 0 = r4 := by have h := H5.out; unfold stepR at h; rw [if_pos rfl] at h; simpa using h
    clear H5
    have hc1 := HS9.out.cells.2
    have hlen := HS9.out.reads.2.2.1.2.1
    go_wp2
    go_loopw [9, 10] (fun v9 v38 wr => ∃ (k : Nat) (os : List S61), k ≤ nl.length ∧ v38 = .int .i64 k ∧ Aside0 (os = outsV l0_0 l0_1 nf nl (nl.take k)) ∧ Aside0 (StIs w3 wr bn A2 c2 A3 c3 nf nl) ∧ Aside0 (Kd.R k61 61 wr w3.heap.size (fun _ => True) v9 os)) (fun _ v38 _ => nl.length - (intOf v38).toNat)
    case atStart => exact ⟨0, [], Nat.zero_le _, rfl, ⟨by simp [outsV]⟩, HS9, ⟨Kd.R_nil _ _ _ _ _⟩⟩
    case round =>
     obtain ⟨k, os, hk, rfl, HOS, HS, HR⟩ := hrel
     have hc0 := HS.out.cells.1
     have hc1 := HS.out.cells.2
     by_cases hlt : k < nl.length
     ·obtain ⟨ad, e1, hx0, hx1, hx2, hx3⟩ := at_T39 HS.out.reads.2.2.1 (k : Int) (by omega) (by omega)
      subst e1
      rw [Int.toNat_natCast, rdLink _ _ hlt] at hx0 hx1 hx2 hx3
      obtain ⟨x, hx⟩ : ∃ x, x = nl[k]'hlt := ⟨_, rfl⟩
      rw [← hx] at hx0 hx1 hx2 hx3
      have HX := Aside0.mk hx
      have p1 : (0 ≤ (k : Int)) = True := eq_true (by omega)
      have q1 : ((k : Int) < (nl.length : Int)) = True := eq_true (by omega)
      clear hx
      go_wp2
      clear hx0 hx1 hx2 hx3 p1 q1 hc0 hc1
      refine start_ (n := 7) (S := fun w' => w'.cell? ⟨bs, 0, none⟩ = some (.slice A0_0 l0_0.length c0_0) ∧ w'.cell? ⟨bs, 1, none⟩ = some (.slice A0_1 l0_1.length c0_1) ∧ w'.cell? ⟨bn, 0, none⟩ = some (.slice A2 nf.length c2) ∧ w'.cell? ⟨bn, 1, none⟩ = some (.slice (some ad) nl.length c3)) (ds := []) #[false, false, false, false, false, false, false] (by kernel_rfl) rfl rfl ⟨((blk_cell (blk_drew (HK3.out.below HS.out.2.2.2.1).1) 0).trans rfl), ((blk_cell (blk_drew (HK3.out.below HS.out.2.2.2.1).1) 1).trans rfl), HS.out.drew.cells.1, HS.out.drew.cells.2⟩ (fun hHeld => ?_)
      generalize hq1 : wr.drew = q1 at hHeld ⊢
      have HS1 := Aside0.mk (show StIs w3 q1 bn A2 c2 (some ad) c3 nf nl from hq1 ▸ HS.out.drew)
      have HR1 := Aside0.mk (Kd.R_drew HR.out)
      rw [hq1] at HR1
      clear hq1 HS HR
      refine plan_ [(1, 50, false), (4, 53, false), (0, 49, true), (3, 52, true)] ?_
      repeat (first
       | (
        refine plan_pure (v := ?_) (a' := ?_) rfl rfl (by kernel_rfl) (Or.inl ⟨by rfl, ?_⟩) ?_ ?_ (fun _ _ _ h => h)
        rotate_left
        ·intro w'
         go_simp
         with_reducible rfl
        rotate_left
        ·simp only [Act.put, List.setIfInBounds_toArray, List.set_cons_zero, List.set_cons_succ, i64_w, i32_w]
         rfl)
       | (
        refine plan_take (v := ?_) (a' := ?_) rfl rfl (by kernel_rfl) (Or.inl ⟨by rfl, ?_⟩) hHeld ?_ ?_ (fun _ _ _ h => h)
        rotate_left
        ·rintro w' ⟨s0, s1, s2, s3⟩
         go_simp
         with_reducible rfl
        rotate_left
        ·simp only [Act.put, List.setIfInBounds_toArray, List.set_cons_zero, List.set_cons_succ, i64_w, i32_w]
         rfl))
      refine plan_end ?_
      refine one_ (i := 2) (N := some 51) #[true, true, true, true, true, false, false] rfl rfl (by kernel_rfl) (by decide) (fun K hK => ?_)
      refine goes_ Try.func16 (by kernel_rfl) rfl #[.agg #[.slice A0_0 l0_0.length c0_0, .slice A0_1 l0_1.length c0_1], .string x.f0] (by rfl) rfl rfl (by (try simp only [List.map_toArray, List.map_cons, List.map_nil]); first | done | rfl) ?_
      have HBZ := HS1.out.2.2.2.1
      with_reducible refine (cutroomref36_Status.calls (l0_0.length + l0_1.length + 2) _ _ l0_0 _ _ l0_1 x.f0 _ _ (Kd.C_below HC0.out HBZ) HL0.out (Kd.C_below HC1.out HBZ) HL1.out (refStatus_k l0_0 l0_1 x.f0 HLN0.out HLN1.out _ (by omega))).mono ?_
      rintro e q2 ⟨rfl, hb⟩
      refine ⟨_, rfl, ?_⟩
      have HS2 := Aside0.mk (HS1.out.below hb)
      have HR2 := Aside0.mk (Kd.R_below HR1.out hb)
      clear hb
      refine hK.out _ _ ⟨((blk_cell (HK3.out.below HS2.out.2.2.2.1).1 0).trans rfl), ((blk_cell (HK3.out.below HS2.out.2.2.2.1).1 1).trans rfl), HS2.out.cells.1, HS2.out.cells.2⟩ (fun hHeld => ?_)
      clear hK K
      refine norm_ (a' := ?_) ?_ ?_
      rotate_left
      ·show Act.put _ (some 51) _ = _
       simp only [Act.put, List.setIfInBounds_toArray, List.set_cons_zero, List.set_cons_succ, i64_w, i32_w]
       rfl
      refine one_ (i := 5) (N := some 54) #[true, true, true, true, true, true, false] rfl rfl (by kernel_rfl) (by decide) (fun K hK => ?_)
      refine goes_ Try.func16 (by kernel_rfl) rfl #[.agg #[.slice A2 nf.length c2, .slice (some ad) nl.length c3], .string x.f0] (by rfl) rfl rfl (by (try simp only [List.map_toArray, List.map_cons, List.map_nil]); first | done | rfl) ?_
      have HBZ := HS2.out.2.2.2.1
      with_reducible refine (cutroomref36_Status.calls (nf.length + nl.length + 2) _ _ nf _ _ nl x.f0 _ _ HS2.out.reads.1 HS2.out.reads.2.1 HS2.out.reads.2.2.1 HS2.out.reads.2.2.2 (refStatus_k nf nl x.f0 HS2.out.len0 HS2.out.len1 _ (by omega))).mono ?_
      rintro e q3 ⟨rfl, hb⟩
      refine ⟨_, rfl, ?_⟩
      have HS3 := Aside0.mk (HS2.out.below hb)
      have HR3 := Aside0.mk (Kd.R_below HR2.out hb)
      clear hb
      refine hK.out _ _ ⟨((blk_cell (HK3.out.below HS3.out.2.2.2.1).1 0).trans rfl), ((blk_cell (HK3.out.below HS3.out.2.2.2.1).1 1).trans rfl), HS3.out.cells.1, HS3.out.cells.2⟩ (fun hHeld => ?_)
      clear hK K
      refine norm_ (a' := ?_) ?_ ?_
      rotate_left
      ·show Act.put _ (some 54) _ = _
       simp only [Act.put, List.setIfInBounds_toArray, List.set_cons_zero, List.set_cons_succ, i64_w, i32_w]
       rfl
      refine pure_ (i := 6) (N := some 55) (v := ?_) (a' := ?_) #[true, true, true, true, true, true, true] rfl rfl (by kernel_rfl) (fun _ _ _ h => h) (Or.inl ⟨by rfl, ?_⟩) ?_ ?_
      rotate_left
      ·intro w'
       go_simp
       with_reducible rfl
      rotate_left
      ·simp only [Act.put, List.setIfInBounds_toArray, List.set_cons_zero, List.set_cons_succ, i64_w, i32_w]
       rfl
      refine done_ (by kernel_rfl) ?_
      clear hHeld HS1 HR1 HS2 HR2
      obtain ⟨s1, hs1⟩ : ∃ s, s = statusV nf nl x.f0 := ⟨_, rfl⟩
      have HV1 := Aside0.mk hs1
      obtain ⟨s0, hs0⟩ : ∃ s, s = statusV l0_0 l0_1 x.f0 := ⟨_, rfl⟩
      have HV0 := Aside0.mk hs0
      rw [← hs0, ← hs1]
      clear hs0 hs1
      have HSd := HS3
      have HRd := HR3
      have hc0 := HSd.out.cells.1
      have hc1 := HSd.out.cells.2
      have hlb : bn < q3.heap.size := blk_lt HSd.out.1
      by_cases hne : s1 = s0
      ·have bq : (s0 == s1) = true := beq_iff_eq.2 hne.symm
       have bq' : (s0 != s1) = false := by rw [bne, bq]; rfl
       have HNE := Aside0.mk hne
       clear hne
       go_wp2
       go_roundw
       case rel =>
        refine ⟨k + 1, os, by omega, by go_num, ⟨?_⟩, HSd, HRd⟩
        rw [outsV_succ _ _ _ _ nl k hlt, ← HX.out, ← HV1.out, ← HV0.out, if_pos HNE.out]
        exact HOS.out
       case measure => simp [intOf]; omega
      ·have bq : (s0 == s1) = false := beq_eq_false_iff_ne.2 (Ne.symm hne)
       have bq' : (s0 != s1) = true := by rw [bne, bq]; rfl
       have HNE := Aside0.mk hne
       have HLEN := Aside0.mk (show os.length ≤ 17 from by
        have h1 := outsV_le l0_0 nf l0_1 nl (nl.take k)
        have h2 : nl.length ≤ 17 := HNL.out
        rw [HOS.out]
        rw [List.length_take] at h1
        omega)
       clear hne
       go_wp2_with fail
       refine (cutroomref36_Status.calls (nf.length + nl.length + 2) _ _ nf _ _ nl x.f0 _ _ HSd.out.reads.1 HSd.out.reads.2.1 HSd.out.reads.2.2.1 HSd.out.reads.2.2.2 (refStatus_k nf nl x.f0 HSd.out.len0 HSd.out.len1 _ (by omega))).mono ?_
       rintro e q4 ⟨rfl, hb⟩
       rw [← HV1.out]
       have HSx := Aside0.mk (HSd.out.below hb)
       have HRx := Aside0.mk (Kd.R_below HRd.out hb)
       clear hb HSd HRd HS3 HR3 hc0 hc1 hlb
       have HSd := HSx
       have HRd := HRx
       go_wp2_with (first
        | ((with_reducible refine gate_builtin (b := .append) (xs := #[.tmp 56, .tmp 62]) rfl ?_); at_builtin; refine Kd.R_append (w0 := w3) k61 w3.heap.size rfl (.tmp 56) (.tmp 62) 48 61 (.agg #[.string ⟨#[]⟩, .int .i64 0]) 24 rfl Try.underlying48 info61 rfl (by decide) (by omega) _ os ⟨x.f0, s1⟩ [.string x.f0, .int .i64 s1] (fun _ => True) (fun _ => False) rfl rfl ?aP (fun _ hk => hk.elim) (fun _ _ => trivial) ?aO ?aB ?aS ?aL ?_; (case aP => exact k61_mkM ..); (case aO => exact HRd.out); (case aB => exact HSd.out.2.2.2.1); (case aS => exact HSd.out.2.2.2.1.size); (case aL => have := HLEN.out; omega); intro v1 we ho hb1 hg1 hat1; have HRe := Aside0.mk ho; have HSe := Aside0.mk (HSd.out.grown HRd.out (by decide) (by decide) (by decide) hg1 hb1); clear ho hb1 hg1 hat1))
       go_roundw
       case rel =>
        refine ⟨k + 1, _, by omega, by go_num, ⟨?_⟩, HSe, HRe⟩
        rw [outsV_succ _ _ _ _ nl k hlt, ← HX.out, ← HV1.out, ← HV0.out, if_neg HNE.out, HOS.out]
       case measure => simp [intOf]; omega
     ·obtain rfl : k = nl.length := by omega
      have HKe := Aside0.mk (HK3.out.below HS.out.2.2.2.1)
      have he0 : wr.cell? ⟨br, 0, none⟩ = some (.slice none 0 0) := (blk_cell HKe.out.2.2.1 0).trans rfl
      have he1 : wr.cell? ⟨br, 1, none⟩ = some (.slice none 0 0) := (blk_cell HKe.out.2.2.1 1).trans rfl
      have hef0 := blk_frozen HKe.out.2.2.1 0
      have hef1 := blk_frozen HKe.out.2.2.1 1
      go_wp2
      refine bodyPost_ret (results_ctt rfl _ _ br 30 #[.slice A2 nf.length c2, .slice A3 nl.length c3] (0, 0) _ rfl (blk_put (blk_put HKe.out.2.2.1 0 _ rfl) 1 _ rfl) Try.underlying30 rfl (by kernel_rfl)) rfl ?_
      have hle := HK3.out.2.2.2.1.size
      have hb0 := blk_put HKe.out.2.2.1 0 (.slice A2 nf.length c2) rfl
      refine ⟨_, _, _, rfl, Kd.R_lower (Kd.R_set (Kd.R_set HS.out.2.1 HKe.out.2.2.1 (by decide) 0 _) hb0 (by decide) 1 _) hle, Kd.R_lower (Kd.R_set (Kd.R_set HS.out.2.2.1 HKe.out.2.2.1 (by decide) 0 _) hb0 (by decide) 1 _) hle, ?_, below_set (below_set HKe.out.2.2.2.1 HKe.out.2.2.2.2) HKe.out.2.2.2.2⟩
      have h := HR.out
      rw [HOS.out, List.take_of_length_le (Nat.le_refl _)] at h
      exact Kd.R_lower (Kd.R_set (Kd.R_set h HKe.out.2.2.1 (by decide) 0 _) hb0 (by decide) 1 _) hle
end Go.Proofs.Ytpnhkmicepmciaa.Y

/- A part of this claim's walks: functions' contracts, or plain lemmas; conditions: each one's own. -/
import Derived.Test.YtpnhkmicepmciaaY0
import Derived.Test.YtpnhkmicepmciaaY4
namespace Go.Proofs.Ytpnhkmicepmciaa.Y
open Go.RowKit Go.Proofs.YtpnhkmicepmciaaW.PrintWords Go.Proofs.YtpnhkmicepmciaaW.PrintLast Go.Proofs.YtpnhkmicepmciaaW.PrintMore
attribute [local go_sem] max2_int min2_int max_two min_two max_three min_three max_four min_four   -- for this text's walks alone
set_option linter.unusedVariables false
set_option linter.unusedSimpArgs false
section
open Go.Maps Go.WideMaps
def linkOk (x : S39) : Bool := vName x.f0 && vName x.f1 && (x.f3.toList.isEmpty || vName x.f3) && !(x.f3.toList == x.f0.toList)
def media_Valid.f (l0_0 : List S37) (l0_1 : List S39) : Option Bool :=
 if (∀ x ∈ l0_0, x.f0.size ≤ 140737488351232) ∧ (∀ x ∈ l0_1, x.f0.size ≤ 140737488351232 ∧ x.f1.size ≤ 140737488351232 ∧ x.f3.size ≤ 140737488351232) then
  some (l0_0.all (fun x => vName x.f0) && l0_1.all linkOk && decide (l0_0.length ≤ 32) && decide (l0_1.length ≤ 16) && decide (l0_0.map (·.f0)).Nodup && decide (l0_1.map (·.f0)).Nodup) else none
theorem rdFile (l : List S37) (k : Nat) (h : k < l.length) : rd_T37 l (k : Int) = l[k]'h := by simp [rd_T37, List.getD, h]
theorem rdLink (l : List S39) (k : Nat) (h : k < l.length) : rd_T39 l (k : Int) = l[k]'h := by simp [rd_T39, List.getD, h]
set_option maxHeartbeats 1000000 in
set_option maxRecDepth 100000 in
theorem media_Valid.calls (A0_0 : Option Addr) (c0_0 : Nat) (l0_0 : List (S37)) (A0_1 : Option Addr) (c0_1 : Nat) (l0_1 : List (S39)) (r : Bool) (w : World) (hr0_0 : Kd.C k37 w A0_0 l0_0.length l0_0) (hc0_0 : l0_0.length ≤ c0_0) (hr0_1 : Kd.C k39 w A0_1 l0_1.length l0_1) (hc0_1 : l0_1.length ≤ c0_1) (h : media_Valid.f l0_0 l0_1 = some r) :
  Calls Try.prog 13 #[.agg #[.slice A0_0 l0_0.length c0_0, .slice A0_1 l0_1.length c0_1]] w fun e w' => e = .returned (.bool r) ∧ Below w.heap.size w w' := by
 have hmm := @run_makeMap Try.prog
 have hu30 := Try.underlying30
 have hu37 := Try.underlying37
 have hu39 := Try.underlying39
 have HR0 := Aside0.mk hr0_0
 have HR1 := Aside0.mk hr0_1
 have hlen0 : l0_0.length ≤ 9223372036854775807 := hr0_0.2.1
 have hlen1 : l0_1.length ≤ 9223372036854775807 := hr0_1.2.1
 unfold media_Valid.f at h
 split at h
 case isFalse => cases h
 rename_i hsz
 have HS := Aside0.mk hsz
 have H := Aside0.mk (Option.some.inj h).symm
 clear hr0_0 hr0_1 hc0_0 hc0_1 h hsz
 go_enter Try.func13, Try.ntmps13
 go_wp2
 go_loopw [14] (fun i wr => ∃ k : Nat, k ≤ l0_0.length ∧ i = .int .i64 k ∧
   Aside0 (wr.heap[w.heap.size]? = some (.cells #[.slice A0_0 l0_0.length c0_0, .slice A0_1 l0_1.length c0_1] 30 (0, 0))) ∧
   Aside0 (wr.ownsMap Try.prog 9 (plainElem (H := Unit) Try.prog 4) (w.heap.size + 1) k (strSet ((l0_0.take k).map (·.f0)))) ∧
   Aside0 (wr.ownsMap Try.prog 9 (plainElem (H := Unit) Try.prog 4) (w.heap.size + 1 + 1) 0 (strSet [])) ∧
   Aside0 (∀ j, j < k → ∀ h : j < l0_0.length, vName (l0_0[j]'h).f0 = true) ∧ Aside0 (Below w.heap.size w wr)) (fun i _ => l0_0.length - (intOf i).toNat)
 case atStart =>
  refine ⟨0, Nat.zero_le _, rfl, ⟨?_⟩, ⟨?_⟩, ⟨?_⟩, ⟨fun j hj => absurd hj (by omega)⟩, ⟨?_⟩⟩
  ·exact blk_alloc (blk_alloc (blk_new _ _) _) _
  ·exact ownsMap_at (by simp) _
  ·have := World.ownsMap_made ((w.alloc (.cells #[.slice A0_0 l0_0.length c0_0, .slice A0_1 l0_1.length c0_1] 30)).alloc (.map #[] 0)) Try.prog 9 (plainElem (H := Unit) Try.prog 4)
   simpa [strSet, setOf] using this
  ·exact below_alloc (below_alloc (below_alloc (Below.refl _ _) _) _) _
 case round =>
  obtain ⟨k, hk, rfl, BK, HM1, HM2, HK, HB⟩ := hrel
  by_cases hlt : k < l0_0.length
  ·obtain ⟨ad, e1, hx0, hx1, hx2⟩ := at_T37 HR0.out (k : Int) (by omega) (by omega)
   cases e1
   replace hx0 := (HB.out.cell (World.block_lt_of_cell? w _ hx0)).trans hx0
   replace hx1 := (HB.out.cell (World.block_lt_of_cell? w _ hx1)).trans hx1
   replace hx2 := (HB.out.cell (World.block_lt_of_cell? w _ hx2)).trans hx2
   rw [Int.toNat_natCast, rdFile _ _ hlt] at hx0 hx1 hx2
   obtain ⟨x, hx⟩ : ∃ x, x = l0_0[k]'hlt := ⟨_, rfl⟩
   rw [← hx] at hx0 hx1 hx2
   have HX := Aside0.mk hx
   have hxs : x.f0.size ≤ 140737488351232 := HS.out.1 x (hx ▸ List.getElem_mem hlt)
   have hkey : keyOf Try.prog 9 (.string x.f0) = some (.string x.f0.data.toList) := keyOf_string_mk Try.underlying9 (by unfold maxLen; omega)
   clear hx
   have p1 : (0 ≤ (k : Int)) = True := eq_true (by omega)
   have q1 : ((k : Int) < (l0_0.length : Int)) = True := eq_true (by omega)
   go_wp2_with fail
   refine (vName_calls x.f0 _ hxs).mono ?_
   rintro e w1 ⟨rfl, hb1⟩
   have hb2 : Below (wr.heap.size + 1) (wr.alloc (.cells #[.string x.f0, .int .u64 x.f1, .bool x.f2] 37)) w1 := by simpa using hb1
   have HB2 : Aside0 (Below w.heap.size w w1) := ⟨below_then (below_alloc HB.out _) (by have := HB.out.size; simp; omega) hb1⟩
   have c0 : w1.cell? ⟨wr.heap.size, 0, none⟩ = some (.string x.f0) := (hb2.cell (p := ⟨wr.heap.size, 0, none⟩) (by simp)).trans (by rw [World.cell?_alloc_at _ _ _ _ rfl]; rfl)
   have HM1' : Aside0 (w1.ownsMap Try.prog 9 (plainElem (H := Unit) Try.prog 4) (w.heap.size + 1) k (strSet ((l0_0.take k).map (·.f0)))) := ⟨(HM1.out.alloc _).kept (grown_of_below hb1 none) (by simp)⟩
   have HM2' : Aside0 (w1.ownsMap Try.prog 9 (plainElem (H := Unit) Try.prog 4) (w.heap.size + 1 + 1) 0 (strSet [])) := ⟨(HM2.out.alloc _).kept (grown_of_below hb1 none) (by simp)⟩
   have BK' := Aside0.mk (blk_below (blk_alloc BK.out (.cells #[.string x.f0, .int .u64 x.f1, .bool x.f2] 37)) hb1)
   clear hb1 hb2 hx0 hx1 hx2 p1 q1 HM1 HM2 BK
   obtain ⟨b, hbv⟩ : ∃ b, b = vName x.f0 := ⟨_, rfl⟩
   rw [← hbv]
   have Hbv := Aside0.mk hbv
   clear hbv
   cases b with
   | false =>
    have hr : r = false := by
     rw [H.out, all_false _ l0_0 k hlt (by rw [← HX.out, ← Hbv.out])]
     simp
    subst hr
    clear c0 hkey
    go_wp2
    go_ret
    exact ⟨rfl, HB2.out⟩
   | true =>
    have hK2 : Aside0 (∀ j, j < k + 1 → ∀ h : j < l0_0.length, vName (l0_0[j]'h).f0 = true) := ⟨fun j hj h => by
     rcases Nat.lt_or_ge j k with h1 | h1
     ·exact HK.out j h1 h
     ·obtain rfl : j = k := by omega
      rw [← HX.out, ← Hbv.out]⟩
    have hks : k < maxLen := by unfold maxLen; omega
    go_wp2_with (first
     | (at_mapUpdate; refine wpList_mapUpdate_own _ rfl _ _ _ 66 rfl 9 4 lawStr Try.underlying66 (plainElem (H := Unit) Try.prog 4) (w.heap.size + 1) k _ rfl HM1'.out hks _ _ _ rfl rfl hkey _ [] (plainElem_bool Try.underlying4 true) ?_; intro w2 hown hgrow; have HO := Aside0.mk hown; have HG := Aside0.mk hgrow; clear hown hgrow))
    go_roundw
    case rel =>
     refine ⟨k + 1, by omega, by go_num, ⟨blk_grown BK'.out HG.out (by simp)⟩, ⟨?_⟩, ⟨HM2'.out.kept HG.out (by simp)⟩, hK2, ⟨HB2.out.grown HG.out HB2.out.size (fun j hj => by cases hj; omega)⟩⟩
     rw [take_map_succ _ _ _ hlt, strSet_snoc, ← HX.out]
     exact HO.out
    case measure => simp [intOf]; omega
  ·obtain rfl : k = l0_0.length := by omega
   have HA : Aside0 (l0_0.all (fun x => vName x.f0) = true) := ⟨all_true _ _ (fun j hj => HK.out j hj hj)⟩
   clear HK
   rw [List.take_of_length_le (Nat.le_refl _)] at HM1
   have hcz1 : wr.cell? ⟨w.heap.size, 1, none⟩ = some (.slice A0_1 l0_1.length c0_1) := (blk_cell BK.out 1).trans rfl
   go_wp2_with fail
   clear hcz1
   obtain ⟨w3, hw3⟩ : ∃ w3, w3 = wr := ⟨_, rfl⟩
   rw [← hw3] at BK HM1 HM2 HB ⊢
   clear hw3
   go_loopw [29] (fun i wr => ∃ k : Nat, k ≤ l0_1.length ∧ i = .int .i64 k ∧
     Aside0 (wr.heap[w.heap.size]? = some (.cells #[.slice A0_0 l0_0.length c0_0, .slice A0_1 l0_1.length c0_1] 30 (0, 0))) ∧
     Aside0 (wr.ownsMap Try.prog 9 (plainElem (H := Unit) Try.prog 4) (w.heap.size + 1) l0_0.length (strSet (l0_0.map (·.f0)))) ∧
     Aside0 (wr.ownsMap Try.prog 9 (plainElem (H := Unit) Try.prog 4) (w.heap.size + 1 + 1) k (strSet ((l0_1.take k).map (·.f0)))) ∧
     Aside0 (∀ j, j < k → ∀ h : j < l0_1.length, linkOk (l0_1[j]'h) = true) ∧ Aside0 (Below w.heap.size w wr)) (fun i _ => l0_1.length - (intOf i).toNat)
   case atStart => exact ⟨0, Nat.zero_le _, rfl, BK, HM1, by simpa using HM2, ⟨fun j hj => absurd hj (by omega)⟩, HB⟩
   case round =>
    clear BK HM1 HM2 HB hk hlt
    obtain ⟨k, hk, rfl, BK, HM1, HM2, HK, HB⟩ := hrel
    by_cases hlt : k < l0_1.length
    ·obtain ⟨ad, e1, hx0, hx1, hx2, hx3⟩ := at_T39 HR1.out (k : Int) (by omega) (by omega)
     cases e1
     replace hx0 := (HB.out.cell (World.block_lt_of_cell? w _ hx0)).trans hx0
     replace hx1 := (HB.out.cell (World.block_lt_of_cell? w _ hx1)).trans hx1
     replace hx2 := (HB.out.cell (World.block_lt_of_cell? w _ hx2)).trans hx2
     replace hx3 := (HB.out.cell (World.block_lt_of_cell? w _ hx3)).trans hx3
     rw [Int.toNat_natCast, rdLink _ _ hlt] at hx0 hx1 hx2 hx3
     obtain ⟨x, hx⟩ : ∃ x, x = l0_1[k]'hlt := ⟨_, rfl⟩
     rw [← hx] at hx0 hx1 hx2 hx3
     have HX := Aside0.mk hx
     obtain ⟨hs0, hs1, hs3⟩ := HS.out.2 x (hx ▸ List.getElem_mem hlt)
     have hkey : keyOf Try.prog 9 (.string x.f0) = some (.string x.f0.data.toList) := keyOf_string_mk Try.underlying9 (by unfold maxLen; omega)
     clear hx
     have p1 : (0 ≤ (k : Int)) = True := eq_true (by omega)
     have q1 : ((k : Int) < (l0_1.length : Int)) = True := eq_true (by omega)
     have hbad : linkOk x = false → Aside0 (r = false) := fun hl => ⟨by
      rw [H.out, all_false _ l0_1 k hlt (by rw [← HX.out]; exact hl)]; simp⟩
     have HBAD := Aside0.mk hbad
     clear hbad
     go_wp2_with fail
     refine (vName_calls x.f0 _ hs0).mono ?_
     rintro e w1 ⟨rfl, hb1⟩
     have HB2 : Aside0 (Below w.heap.size w w1) := ⟨below_then (below_alloc HB.out _) (by have := HB.out.size; simp; omega) hb1⟩
     have XK := Aside0.mk (blk_below (blk_new wr (.cells #[.string x.f0, .string x.f1, .int .u64 x.f2, .string x.f3] 39)) hb1)
     have BK2 := Aside0.mk (blk_below (blk_alloc BK.out (.cells #[.string x.f0, .string x.f1, .int .u64 x.f2, .string x.f3] 39)) hb1)
     have HM12 := Aside0.mk ((HM1.out.alloc (.cells #[.string x.f0, .string x.f1, .int .u64 x.f2, .string x.f3] 39)).kept (grown_of_below hb1 none) (by simp))
     have HM22 := Aside0.mk ((HM2.out.alloc (.cells #[.string x.f0, .string x.f1, .int .u64 x.f2, .string x.f3] 39)).kept (grown_of_below hb1 none) (by simp))
     clear hb1 hx0 hx1 hx2 hx3 p1 q1 BK HM1 HM2 HB
     obtain ⟨bx, hbx⟩ : ∃ bx, bx = wr.heap.size := ⟨_, rfl⟩
     rw [← hbx] at XK ⊢
     clear hbx
     obtain ⟨b0, hb0⟩ : ∃ b, b = vName x.f0 := ⟨_, rfl⟩
     rw [← hb0]
     have Hb0 := Aside0.mk hb0
     clear hb0
     cases b0 with
     | false =>
      obtain ⟨rfl⟩ := HBAD.out (by unfold linkOk; rw [← Hb0.out]; simp)
      clear hkey
      go_wp2
      go_ret
      exact ⟨rfl, HB2.out⟩
     | true =>
     have x0 : w1.cell? ⟨bx, 0, none⟩ = some (.string x.f0) := (blk_cell XK.out 0).trans rfl
     have x1 : w1.cell? ⟨bx, 1, none⟩ = some (.string x.f1) := (blk_cell XK.out 1).trans rfl
     have x3 : w1.cell? ⟨bx, 3, none⟩ = some (.string x.f3) := (blk_cell XK.out 3).trans rfl
     go_wp2_with fail
     clear x0 x1 x3
     refine (vName_calls x.f1 _ hs1).mono ?_
     rintro e w2 ⟨rfl, hb1⟩
     have HB3 : Aside0 (Below w.heap.size w w2) := ⟨below_then HB2.out HB2.out.size hb1⟩
     have XK2 := Aside0.mk (blk_below XK.out hb1)
     have BK3 := Aside0.mk (blk_below BK2.out hb1)
     have HM13 := Aside0.mk (HM12.out.kept (grown_of_below hb1 none) (by simp))
     have HM23 := Aside0.mk (HM22.out.kept (grown_of_below hb1 none) (by simp))
     clear hb1 XK BK2 HM12 HM22 HB2
     obtain ⟨b1, hb1⟩ : ∃ b, b = vName x.f1 := ⟨_, rfl⟩
     rw [← hb1]
     have Hb1 := Aside0.mk hb1
     clear hb1
     cases b1 with
     | false =>
      obtain ⟨rfl⟩ := HBAD.out (by unfold linkOk; rw [← Hb1.out]; simp)
      clear hkey
      go_wp2
      go_ret
      exact ⟨rfl, HB3.out⟩
     | true =>
     cases hb3 : x.f3.toList.isEmpty with
     | true =>
      have x0 : w2.cell? ⟨bx, 0, none⟩ = some (.string x.f0) := (blk_cell XK2.out 0).trans rfl
      have x3 : w2.cell? ⟨bx, 3, none⟩ = some (.string x.f3) := (blk_cell XK2.out 3).trans rfl
      cases hb5 : (x.f3.toList == x.f0.toList) with
      | true =>
       obtain ⟨rfl⟩ := HBAD.out (by unfold linkOk; rw [hb5]; simp)
       clear hkey
       go_wp2
       go_ret
       exact ⟨rfl, HB3.out⟩
      | false =>
       have hgood : linkOk x = true := by unfold linkOk; rw [hb5, ← Hb0.out, ← Hb1.out, hb3]; simp
       have hK2 : Aside0 (∀ j, j < k + 1 → ∀ h : j < l0_1.length, linkOk (l0_1[j]'h) = true) := ⟨fun j hj h => by
        rcases Nat.lt_or_ge j k with h1 | h1
        ·exact HK.out j h1 h
        ·obtain rfl : j = k := by omega
         rw [← HX.out]; exact hgood⟩
       clear hgood
       have hks : k < maxLen := by unfold maxLen; omega
       go_wp2_with (first
        | (at_mapUpdate; refine wpList_mapUpdate_own _ rfl _ _ _ 66 rfl 9 4 lawStr Try.underlying66 (plainElem (H := Unit) Try.prog 4) (w.heap.size + 1 + 1) k _ rfl HM23.out hks _ _ _ rfl rfl hkey _ [] (plainElem_bool Try.underlying4 true) ?_; intro w4 hown hgrow; have HO := Aside0.mk hown; have HG := Aside0.mk hgrow; clear hown hgrow))
       go_roundw
       case rel =>
        refine ⟨k + 1, by omega, by go_num, ⟨blk_grown BK3.out HG.out (by simp; omega)⟩, ⟨HM13.out.kept HG.out (by simp)⟩, ⟨?_⟩, hK2, ⟨HB3.out.grown HG.out HB3.out.size (fun j hj => by cases hj; omega)⟩⟩
        rw [take_map_succ _ _ _ hlt, strSet_snoc, ← HX.out]
        exact HO.out
       case measure => simp [intOf]; omega
     | false =>
      have x3 : w2.cell? ⟨bx, 3, none⟩ = some (.string x.f3) := (blk_cell XK2.out 3).trans rfl
      go_wp2_with fail
      clear x3
      refine (vName_calls x.f3 _ hs3).mono ?_
      rintro e w3 ⟨rfl, hb1⟩
      have HB4 : Aside0 (Below w.heap.size w w3) := ⟨below_then HB3.out HB3.out.size hb1⟩
      have XK3 := Aside0.mk (blk_below XK2.out hb1)
      have BK4 := Aside0.mk (blk_below BK3.out hb1)
      have HM14 := Aside0.mk (HM13.out.kept (grown_of_below hb1 none) (by simp))
      have HM24 := Aside0.mk (HM23.out.kept (grown_of_below hb1 none) (by simp))
      clear hb1 XK2 BK3 HM13 HM23 HB3
      obtain ⟨b4, hb4⟩ : ∃ b, b = vName x.f3 := ⟨_, rfl⟩
      rw [← hb4]
      have Hb4 := Aside0.mk hb4
      clear hb4
      cases b4 with
      | false =>
       obtain ⟨rfl⟩ := HBAD.out (by unfold linkOk; rw [hb3, ← Hb4.out]; simp)
       clear hkey
       go_wp2
       go_ret
       exact ⟨rfl, HB4.out⟩
      | true =>
       have x0 : w3.cell? ⟨bx, 0, none⟩ = some (.string x.f0) := (blk_cell XK3.out 0).trans rfl
       have x3 : w3.cell? ⟨bx, 3, none⟩ = some (.string x.f3) := (blk_cell XK3.out 3).trans rfl
       cases hb5 : (x.f3.toList == x.f0.toList) with
       | true =>
        obtain ⟨rfl⟩ := HBAD.out (by unfold linkOk; rw [hb5]; simp)
        clear hkey
        go_wp2
        go_ret
        exact ⟨rfl, HB4.out⟩
       | false =>
        have hgood : linkOk x = true := by unfold linkOk; rw [hb5, ← Hb0.out, ← Hb1.out, hb3, ← Hb4.out]; simp
        have hK2 : Aside0 (∀ j, j < k + 1 → ∀ h : j < l0_1.length, linkOk (l0_1[j]'h) = true) := ⟨fun j hj h => by
         rcases Nat.lt_or_ge j k with h1 | h1
         ·exact HK.out j h1 h
         ·obtain rfl : j = k := by omega
          rw [← HX.out]; exact hgood⟩
        clear hgood
        have hks : k < maxLen := by unfold maxLen; omega
        go_wp2_with (first
         | (at_mapUpdate; refine wpList_mapUpdate_own _ rfl _ _ _ 66 rfl 9 4 lawStr Try.underlying66 (plainElem (H := Unit) Try.prog 4) (w.heap.size + 1 + 1) k _ rfl HM24.out hks _ _ _ rfl rfl hkey _ [] (plainElem_bool Try.underlying4 true) ?_; intro w4 hown hgrow; have HO := Aside0.mk hown; have HG := Aside0.mk hgrow; clear hown hgrow))
        go_roundw
        case rel =>
         refine ⟨k + 1, by omega, by go_num, ⟨blk_grown BK4.out HG.out (by simp; omega)⟩, ⟨HM14.out.kept HG.out (by simp)⟩, ⟨?_⟩, hK2, ⟨HB4.out.grown HG.out HB4.out.size (fun j hj => by cases hj; omega)⟩⟩
         rw [take_map_succ _ _ _ hlt, strSet_snoc, ← HX.out]
         exact HO.out
        case measure => simp [intOf]; omega
    ·obtain rfl : k = l0_1.length := by omega
     have HA2 : Aside0 (l0_1.all linkOk = true) := ⟨all_true _ _ (fun j hj => HK.out j hj hj)⟩
     clear HK
     rw [List.take_of_length_le (Nat.le_refl _)] at HM2
     have hr : r = (decide (l0_0.length ≤ 32) && decide (l0_1.length ≤ 16) && decide (Go.Maps.size (strSet (l0_0.map (·.f0))) = l0_0.length) && decide (Go.Maps.size (strSet (l0_1.map (·.f0))) = l0_1.length)) := by
      have e0 := (strSet_size (l0_0.map (·.f0))).2
      have e1 := (strSet_size (l0_1.map (·.f0))).2
      rw [List.length_map] at e0 e1
      rw [H.out, HA.out, HA2.out, Bool.true_and, Bool.true_and, decide_eq_decide.2 e0, decide_eq_decide.2 e1]
     have HRR := Aside0.mk hr
     clear hr
     have hcz0 : wr.cell? ⟨w.heap.size, 0, none⟩ = some (.slice A0_0 l0_0.length c0_0) := (blk_cell BK.out 0).trans rfl
     have hcz1 : wr.cell? ⟨w.heap.size, 1, none⟩ = some (.slice A0_1 l0_1.length c0_1) := (blk_cell BK.out 1).trans rfl
     obtain ⟨n0, hn0⟩ : ∃ n, n = Go.Maps.size (strSet (l0_0.map (·.f0))) := ⟨_, rfl⟩
     obtain ⟨n1, hn1⟩ : ∃ n, n = Go.Maps.size (strSet (l0_1.map (·.f0))) := ⟨_, rfl⟩
     rw [← hn0, ← hn1] at HRR
     have hl0 : ∀ ty, (Builtin.len_ #[66] ty #[.map (some (w.heap.size + 1))]).run Try.prog wr = .ok (.int .i64 n0) wr := fun ty => by rw [hn0]; exact HM1.out.len Try.underlying66 ty
     have hl1 : ∀ ty, (Builtin.len_ #[66] ty #[.map (some (w.heap.size + 1 + 1))]).run Try.prog wr = .ok (.int .i64 n1) wr := fun ty => by rw [hn1]; exact HM2.out.len Try.underlying66 ty
     clear hn0 hn1
     have fin : ∀ b : Bool, b = (decide (l0_0.length ≤ 32) && decide (l0_1.length ≤ 16) && decide (n0 = l0_0.length) && decide (n1 = l0_1.length)) → Ending.returned (.bool b) = Ending.returned (.bool r) := fun b hb => by rw [hb, HRR.out]
     have FIN := Aside0.mk fin
     clear fin HRR
     by_cases h1 : l0_0.length ≤ 32
     ·have b1 : decide ((l0_0.length : Int) ≤ 32) = true := decide_eq_true (by omega)
      by_cases h2 : l0_1.length ≤ 16
      ·have b2 : decide ((l0_1.length : Int) ≤ 16) = true := decide_eq_true (by omega)
       by_cases h3 : n0 = l0_0.length
       ·have b3 : ((n0 : Int) == (l0_0.length : Int)) = true := beq_iff_eq.2 (by omega)
        have h3' := Aside0.mk h3
        clear h3
        by_cases h4 : n1 = l0_1.length
        ·have b4 : ((n1 : Int) == (l0_1.length : Int)) = true := beq_iff_eq.2 (by omega)
         have h4' := Aside0.mk h4
         clear h4
         go_wp2
         go_ret
         exact ⟨FIN.out true (by simp [h1, h2, h3'.out, h4'.out]), HB.out⟩
        ·have b4 : ((n1 : Int) == (l0_1.length : Int)) = false := beq_eq_false_iff_ne.2 (by omega)
         go_wp2
         go_ret
         exact ⟨FIN.out false (by simp [h4]), HB.out⟩
       ·have b3 : ((n0 : Int) == (l0_0.length : Int)) = false := beq_eq_false_iff_ne.2 (by omega)
        go_wp2
        go_ret
        exact ⟨FIN.out false (by simp [h3]), HB.out⟩
      ·have b2 : decide ((l0_1.length : Int) ≤ 16) = false := decide_eq_false (by omega)
       go_wp2
       go_ret
       exact ⟨FIN.out false (by simp [h2]), HB.out⟩
     ·have b1 : decide ((l0_0.length : Int) ≤ 32) = false := decide_eq_false (by omega)
      go_wp2
      go_ret
      exact ⟨FIN.out false (by simp [h1]), HB.out⟩
end
end Go.Proofs.Ytpnhkmicepmciaa.Y

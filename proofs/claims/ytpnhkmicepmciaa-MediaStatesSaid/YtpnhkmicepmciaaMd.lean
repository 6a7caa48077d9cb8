/- A part of this claim's walks: functions' contracts, or plain lemmas; conditions: each one's own. -/
import Derived.Test.YtpnhkmicepmciaaPl
import Derived.Test.YtpnhkmicepmciaaPar
namespace Go.Proofs.Ytpnhkmicepmciaa.Y
open Go.RowKit Go.Proofs.YtpnhkmicepmciaaW.PrintWords Go.Proofs.YtpnhkmicepmciaaW.PrintLast Go.Proofs.YtpnhkmicepmciaaW.PrintMore
set_option linter.unusedVariables false
set_option linter.unusedSimpArgs false
open Go.Proofs.Ytpnhkmicepmciaa.Par
attribute [local go_sem] max2_int min2_int max_two min_two max_three min_three max_four min_four
def MadeIs (w w' : World) (xs : List Int) (n0 : Nat) (v0 v1 : Value) (g : Nat) (l : List S45) : Prop :=
 ∃ t : Int, l.length ≤ n0 ∧ (∀ x ∈ l, goodE x) ∧ Kd.R k37 37 w' w.heap.size (fun _ => True) v0 (runW [] [] l).1 ∧ Kd.R k39 39 w' w.heap.size (fun _ => True) v1 (runW [] [] l).2.1 ∧ 0 ≤ t ∧ t ≤ 1000 ∧ IsS65 w w' g xs t ∧ Below w.heap.size w w'
set_option maxHeartbeats 4000000 in
set_option maxRecDepth 100000 in
theorem made_calls (A : Option Addr) (c : Nat) (xs : List Int) (n0 : Nat) (w : World) (hr : Kd.C (Kd.int .i64) w A xs.length xs) (hc : xs.length ≤ c) (hn : n0 ≤ 100) :
  Calls Try.prog 12 #[.slice A xs.length c, .int .i64 n0] w fun e w' => ∃ v0 v1 g l, e = .returned (.tuple #[.agg #[v0, v1], .pointer (some ⟨g, 0, none⟩)]) ∧ MadeIs w w' xs n0 v0 v1 g l := by
 have hu30 := Try.underlying30
 have HR := Aside0.mk hr
 clear hr
 go_enter Try.func12, Try.ntmps12
 go_wp2_with fail
 obtain ⟨br, hbr⟩ : ∃ b, b = w.heap.size := ⟨_, rfl⟩
 obtain ⟨g, hg⟩ : ∃ b, b = w.heap.size + 1 := ⟨_, rfl⟩
 obtain ⟨w1, hw1⟩ : ∃ w1, w1 = w.alloc (.cells #[.slice none 0 0, .slice none 0 0] 30) := ⟨_, rfl⟩
 obtain ⟨w2, hw2⟩ : ∃ w2, w2 = w1.alloc (.cells #[.slice A xs.length c, .int .i64 0] 65) := ⟨_, rfl⟩
 have hs1 : w1.heap.size = w.heap.size + 1 := by rw [hw1]; simp
 have hB1 : Below w.heap.size w w1 := hw1 ▸ below_alloc (Below.refl _ _) _
 have HI := Aside0.mk (show IsS65 w w2 g xs 0 by rw [hw2, hg, ← hs1]; exact IsS65.new w w1 A c xs 0 hB1 HR.out)
 have HB := Aside0.mk (show Below w.heap.size w w2 from hw2 ▸ below_alloc hB1 _)
 have BK := Aside0.mk (show w2.heap[br]? = some (.cells #[.slice none 0 0, .slice none 0 0] 30 (0, 0)) by rw [hw2]; exact blk_alloc (by rw [hw1, hbr]; exact blk_new _ _) _)
 have HNB := Aside0.mk (show br ≠ g by omega)
 have HGE := Aside0.mk (show w.heap.size ≤ br by omega)
 rw [← hw1, ← hw2, ← hg, ← hbr]
 clear hw1 hw2 hbr hg hs1 hB1
 refine (events_calls g xs 0 n0 w w2 HI.out HB.out (by omega) (by omega) hn).mono ?_
 rintro e w3 ⟨v, rfl, l, t, hl, hgd, ht0, ht1, hR, hI, hB, hK⟩
 replace BK := Aside0.mk (hK.blk BK.out HNB.out (by simp))
 replace HB := Aside0.mk hB
 replace HI := Aside0.mk hI
 obtain ⟨Al, cl, rfl⟩ := Kd.R_slice hR
 have HRL := Aside0.mk (Kd.R_reads' hR).2
 have HG := Aside0.mk hgd
 clear hR hB hI hK hgd
 obtain ⟨K, hf⟩ := made_f l (by omega) HG.out
 obtain ⟨⟨fs, ls, os, es⟩, hq⟩ : ∃ q, q = runW [] [] l := ⟨_, rfl⟩
 rw [← hq] at hf
 have HQ := Aside0.mk hq
 have HF := Aside0.mk hf
 clear hf hq
 go_wp2_with fail
 refine (cutroomref36_Run.calls K none 0 [] none 0 [] Al cl l fs ls os es w3 (Kd.C_nil _ _) (Nat.le_refl _) (Kd.C_nil _ _) (Nat.le_refl _) HRL.out.2 HRL.out.1 HF.out).mono ?_
 rintro e w4 ⟨v0, v1, v2, v3, rfl, hR0, hR1, hR2, hR3, hb⟩
 obtain ⟨A0, c0, rfl⟩ := Kd.R_slice hR0
 obtain ⟨A1, c1, rfl⟩ := Kd.R_slice hR1
 have HR0 := Aside0.mk (Kd.R_lower hR0 (below_size HB.out))
 have HR1 := Aside0.mk (Kd.R_lower hR1 (below_size HB.out))
 replace BK := Aside0.mk (blk_below BK.out hb)
 replace HI := Aside0.mk (HI.out.below hb)
 replace HB := Aside0.mk (below_step HB.out hb)
 clear hR0 hR1 hR2 hR3 hb HF HRL
 have he0 : w4.cell? ⟨br, 0, none⟩ = some (.slice none 0 0) := (blk_cell BK.out 0).trans rfl
 have he1 : w4.cell? ⟨br, 1, none⟩ = some (.slice none 0 0) := (blk_cell BK.out 1).trans rfl
 have hf0 := blk_frozen BK.out 0
 have hf1 := blk_frozen BK.out 1
 have hlt := blk_lt BK.out
 go_wp2
 refine bodyPost_ret (results_ct rfl _ _ br 30 #[.slice A0 fs.length c0, .slice A1 ls.length c1] (0, 0) _ rfl (blk_alloc (blk_put (blk_put BK.out 0 _ rfl) 1 _ rfl) _) Try.underlying30 rfl (by kernel_rfl)) rfl ?_
 refine ⟨_, _, g, l, rfl, t, by omega, HG.out, ?_, ?_, ht0, by omega, ((HI.out.far (by exact HNB.out.symm) _).far (by exact HNB.out.symm) _).alloc _, kB⟩
 ·rw [← HQ.out]
  exact kr HR0
 ·rw [← HQ.out]
  exact kr HR1
end Go.Proofs.Ytpnhkmicepmciaa.Y

/- A part of this claim's walks: functions' contracts, or plain lemmas; conditions: each one's own. -/
import Derived.Test.YtpnhkmicepmciaaRt
import Derived.Test.YtpnhkmicepmciaaY17
namespace Go.Proofs.Ytpnhkmicepmciaa.Y
open Go.RowKit Go.Proofs.YtpnhkmicepmciaaW.PrintWords Go.Proofs.YtpnhkmicepmciaaW.PrintLast Go.Proofs.YtpnhkmicepmciaaW.PrintMore
set_option linter.unusedVariables false
set_option linter.unusedSimpArgs false
open Go.Proofs.Ytpnhkmicepmciaa.Par
attribute [local go_sem] max2_int min2_int max_two min_two max_three min_three max_four min_four
def StB (w W : World) (b : Nat) (A0 : Option Addr) (c0 : Nat) (A1 : Option Addr) (c1 : Nat) (fs : List S37) (ls : List S39) : Prop :=
 W.heap[b]? = some (.cells #[.slice A0 fs.length c0, .slice A1 ls.length c1] 30 (0, 0)) ∧ Kd.R k37 37 W w.heap.size (fun _ => True) (.slice A0 fs.length c0) fs ∧ Kd.R k39 39 W w.heap.size (fun _ => True) (.slice A1 ls.length c1) ls
section
variable {w W W1 : World} {b : Nat} {A0 A1 : Option Addr} {c0 c1 : Nat} {fs : List S37} {ls : List S39}
theorem StB.below (h : StB w W b A0 c0 A1 c1 fs ls) (hb : Below W.heap.size W W1) : StB w W1 b A0 c0 A1 c1 fs ls := ⟨blk_below h.1 hb, Kd.R_below h.2.1 hb, Kd.R_below h.2.2 hb⟩
theorem StB.new (h0 : Kd.R k37 37 W w.heap.size (fun _ => True) (.slice A0 fs.length c0) fs) (h1 : Kd.R k39 39 W w.heap.size (fun _ => True) (.slice A1 ls.length c1) ls) : StB w (W.alloc (.cells #[.slice A0 fs.length c0, .slice A1 ls.length c1] 30)) W.heap.size A0 c0 A1 c1 fs ls :=
 ⟨blk_new _ _, Kd.R_below h0 (below_alloc (Below.refl _ _) _), Kd.R_below h1 (below_alloc (Below.refl _ _) _)⟩
theorem StB.g0 (h : StB w W b A0 c0 A1 c1 fs ls) : W.cell? ⟨b, 0, none⟩ = some (.slice A0 fs.length c0) := (blk_cell h.1 0).trans rfl
theorem StB.g1 (h : StB w W b A0 c0 A1 c1 fs ls) : W.cell? ⟨b, 1, none⟩ = some (.slice A1 ls.length c1) := (blk_cell h.1 1).trans rfl
theorem StB.r0 (h : StB w W b A0 c0 A1 c1 fs ls) : Kd.C k37 W A0 fs.length fs := (Kd.R_reads' h.2.1).2.2
theorem StB.r1 (h : StB w W b A0 c0 A1 c1 fs ls) : Kd.C k39 W A1 ls.length ls := (Kd.R_reads' h.2.2).2.2
theorem StB.l0 (h : StB w W b A0 c0 A1 c1 fs ls) : fs.length ≤ c0 := (Kd.R_reads' h.2.1).2.1
theorem StB.l1 (h : StB w W b A0 c0 A1 c1 fs ls) : ls.length ≤ c1 := (Kd.R_reads' h.2.2).2.1
theorem step_at {e : S45} (h : StB w W b A0 c0 A1 c1 fs ls) (hB : Below w.heap.size w W) (hs : SmallS fs ls) (he : SmallE e) :
  Calls Try.prog 18 #[.agg #[.slice A0 fs.length c0, .slice A1 ls.length c1], .agg #[.int .i64 e.f0, .string e.f1, .string e.f2, .string e.f3, .int .u64 e.f4]] W fun en W' => ∃ B0 d0 B1 d1 v2, en = .returned (.tuple #[.agg #[.slice B0 (stepW fs ls e).1.length d0, .slice B1 (stepW fs ls e).2.1.length d1], v2, .int .i64 (stepW fs ls e).2.2.2]) ∧
   Kd.R k37 37 W' w.heap.size (fun _ => True) (.slice B0 (stepW fs ls e).1.length d0) (stepW fs ls e).1 ∧ Kd.R k39 39 W' w.heap.size (fun _ => True) (.slice B1 (stepW fs ls e).2.1.length d1) (stepW fs ls e).2.1 ∧ Kd.R k61 61 W' w.heap.size (fun _ => True) v2 (stepW fs ls e).2.2.1 ∧ Below W.heap.size W W' :=
 (media_Step.calls A0 c0 fs A1 c1 ls e.f0 e.f1 e.f2 e.f3 e.f4 _ _ _ _ W h.r0 h.l0 h.r1 h.l1 (step_f hs he)).mono fun en W' ⟨v0, v1, v2, h1, hR0, hR1, hR2, hb⟩ => by
  obtain ⟨B0, d0, rfl⟩ := Kd.R_slice hR0
  obtain ⟨B1, d1, rfl⟩ := Kd.R_slice hR1
  exact ⟨B0, d0, B1, d1, v2, h1, Kd.R_lower hR0 hB.size, Kd.R_lower hR1 hB.size, Kd.R_lower hR2 hB.size, hb⟩
theorem step_to {e : S45} {fs' : List S37} {ls' : List S39} {o : List S61} {n : Int} (h : StB w W b A0 c0 A1 c1 fs ls) (hB : Below w.heap.size w W) (hs : SmallS fs ls) (he : SmallE e) (hq : stepW fs ls e = (fs', ls', o, n)) :
  Calls Try.prog 18 #[.agg #[.slice A0 fs.length c0, .slice A1 ls.length c1], .agg #[.int .i64 e.f0, .string e.f1, .string e.f2, .string e.f3, .int .u64 e.f4]] W fun en W' => ∃ B0 d0 B1 d1 v2, en = .returned (.tuple #[.agg #[.slice B0 fs'.length d0, .slice B1 ls'.length d1], v2, .int .i64 n]) ∧
   Kd.R k37 37 W' w.heap.size (fun _ => True) (.slice B0 fs'.length d0) fs' ∧ Kd.R k39 39 W' w.heap.size (fun _ => True) (.slice B1 ls'.length d1) ls' ∧ Kd.R k61 61 W' w.heap.size (fun _ => True) v2 o ∧ Below W.heap.size W W' := by
 have := step_at h hB hs he
 rw [hq] at this
 exact this
theorem run_at {Al : Option Addr} {cl : Nat} {l : List S45} (h : StB w W b A0 c0 A1 c1 fs ls) (hB : Below w.heap.size w W) (hs : SmallS fs ls) (hl : l.length ≤ 1000) (he : ∀ x ∈ l, SmallE x) (hr : Kd.C k45 W Al l.length l) (hc : l.length ≤ cl) :
  Calls Try.prog 22 #[.agg #[.slice A0 fs.length c0, .slice A1 ls.length c1], .slice Al l.length cl] W fun en W' => ∃ B0 d0 B1 d1 v2 v3, en = .returned (.tuple #[.agg #[.slice B0 (runF fs ls l).1.length d0, .slice B1 (runF fs ls l).2.1.length d1], v2, v3]) ∧
   Kd.R k37 37 W' w.heap.size (fun _ => True) (.slice B0 (runF fs ls l).1.length d0) (runF fs ls l).1 ∧ Kd.R k39 39 W' w.heap.size (fun _ => True) (.slice B1 (runF fs ls l).2.1.length d1) (runF fs ls l).2.1 ∧ Kd.R k61 61 W' w.heap.size (fun _ => True) v2 (runF fs ls l).2.2.1 ∧ Kd.R (Kd.int .i64) 49 W' w.heap.size (fun _ => True) v3 (runF fs ls l).2.2.2 ∧ Below W.heap.size W W' :=
 (media_Run.calls (l.length + 1) A0 c0 fs A1 c1 ls Al cl l _ _ _ _ W h.r0 h.l0 h.r1 h.l1 hr hc (run_f fs ls l hs hl he)).mono fun en W' ⟨v0, v1, v2, v3, h1, hR0, hR1, hR2, hR3, hb⟩ => by
  obtain ⟨B0, d0, rfl⟩ := Kd.R_slice hR0
  obtain ⟨B1, d1, rfl⟩ := Kd.R_slice hR1
  exact ⟨B0, d0, B1, d1, v2, v3, h1, Kd.R_lower hR0 hB.size, Kd.R_lower hR1 hB.size, Kd.R_lower hR2 hB.size, Kd.R_lower hR3 hB.size, hb⟩
theorem status_at (h : StB w W b A0 c0 A1 c1 fs ls) (m : ByteArray) : Calls Try.prog 15 #[.agg #[.slice A0 fs.length c0, .slice A1 ls.length c1], .string m] W fun en W' => en = .returned (.int .i64 (statusV fs ls m)) ∧ Below W.heap.size W W' :=
 media_Status.calls A0 c0 fs A1 c1 ls m _ W h.r0 h.l0 h.r1 h.l1 rfl
end
theorem run_to {w W : World} {b : Nat} {A0 A1 : Option Addr} {c0 c1 : Nat} {fs fs' : List S37} {ls ls' : List S39} {Al : Option Addr} {cl : Nat} {l : List S45} {o : List S61} {es : List Int} (h : StB w W b A0 c0 A1 c1 fs ls) (hB : Below w.heap.size w W) (hs : SmallS fs ls) (hl : l.length ≤ 1000) (he : ∀ x ∈ l, SmallE x) (hr : Kd.C k45 W Al l.length l) (hc : l.length ≤ cl) (hq : runF fs ls l = (fs', ls', o, es)) :
  Calls Try.prog 22 #[.agg #[.slice A0 fs.length c0, .slice A1 ls.length c1], .slice Al l.length cl] W fun en W' => ∃ B0 d0 B1 d1 v2 v3, en = .returned (.tuple #[.agg #[.slice B0 fs'.length d0, .slice B1 ls'.length d1], v2, v3]) ∧
   Kd.R k37 37 W' w.heap.size (fun _ => True) (.slice B0 fs'.length d0) fs' ∧ Kd.R k39 39 W' w.heap.size (fun _ => True) (.slice B1 ls'.length d1) ls' ∧ Kd.R k61 61 W' w.heap.size (fun _ => True) v2 o ∧ Kd.R (Kd.int .i64) 49 W' w.heap.size (fun _ => True) v3 es ∧ Below W.heap.size W W' := by
 have := run_at h hB hs hl he hr hc
 rw [hq] at this
 exact this
theorem status_to {w W : World} {b : Nat} {A0 A1 : Option Addr} {c0 c1 : Nat} {fs : List S37} {ls : List S39} {m : ByteArray} {n : Int} (h : StB w W b A0 c0 A1 c1 fs ls) (hq : statusV fs ls m = n) : Calls Try.prog 15 #[.agg #[.slice A0 fs.length c0, .slice A1 ls.length c1], .string m] W fun en W' => en = .returned (.int .i64 n) ∧ Below W.heap.size W W' := by
 have := status_at h m
 rw [hq] at this
 exact this
theorem awake_true : cutroomlaw36_awake.f 12 = some true := by kernel_rfl
theorem awake_at (w : World) : Calls Try.prog 11 #[] w fun e w' => e = .returned (.bool true) ∧ Below w.heap.size w w' := cutroomlaw36_awake.calls 12 true w awake_true
theorem C_of_blk {α : Type} {d : Kd α} {W : World} {b ty : Nat} {cs : Array Value} {l : List α} (hb : W.heap[b]? = some (.cells cs ty (0, 0))) (hr : Reps (d.K W) d.sz l cs.toList) (hl : l.length ≤ 9223372036854775807) : d.C W (some ⟨b, 0, none⟩) l.length l :=
 ⟨rfl, hl, fun _ => ⟨_, rfl, fun j p hj => ⟨(cs.toList.drop (j * d.sz)).take d.sz, d.K_len (hr.2 j p hj), hr.2 j p hj, fun i u hu => by
  rw [add_plain]
  refine (blk_cell hb _).trans ?_
  have h1 : i < d.sz := by
   have := (List.getElem?_eq_some_iff.1 hu).1
   rw [d.K_len (hr.2 j p hj)] at this
   exact this
  rw [List.getElem?_take, if_pos h1, List.getElem?_drop] at hu
  simpa using hu⟩⟩⟩
theorem lit5 {x : S45} {W : World} {l : List S45} {cs : List Value} (h : Reps (Kd.K k45 W) 5 l cs) : Reps (Kd.K k45 W) 5 (x :: l) (.int .i64 x.f0 :: .string x.f1 :: .string x.f2 :: .string x.f3 :: .int .u64 x.f4 :: cs) :=
 Reps.c5 (k45_mk W x) h
theorem sE (k : Int) (m : ByteArray) (s : Int) (hm : m = ⟨#[]⟩ ∨ m = mine) : SmallE ⟨k, m, own, ⟨#[]⟩, s⟩ :=
 ⟨by rcases hm with rfl | rfl; exact (by decide : (⟨#[]⟩ : ByteArray).size ≤ 140737488351232); exact (by decide : mine.size ≤ 140737488351232), (by decide : own.size ≤ 140737488351232), (by decide : (⟨#[]⟩ : ByteArray).size ≤ 140737488351232)⟩
set_option maxHeartbeats 4000000 in
set_option maxRecDepth 100000 in
theorem mediaReturns_walk (a0 : Option Addr) (len0 cap0 : Nat) (z0 : List Int) (a1 a2 : Int) (w : World) (w0 : (a0 = none ∧ len0 = 0 ∧ cap0 = 0 ∧ z0 = []) ∨ ∃ x, a0 = some x ∧ len0 ≤ cap0 ∧ cap0 ≤ maxLen ∧ z0.length = cap0 ∧ (∀ i, i < z0.length → w.cell? (x.add i) = some (.int .i64 (z0.getD i 0))) ∧ ∀ n ∈ z0, (Lit.int .i64 n).wf = true) (y0 : len0 * 8 ≤ 140737488351232) (w1 : (Lit.int .u64 a1).wf = true) (w2 : (Lit.int .u64 a2).wf = true) :
  Calls Try.prog 6 #[.slice a0 len0 cap0, .int .u64 a1, .int .u64 a2] w fun e w' => e = .returned (.bool true) ∧ Below w.heap.size w w' := by
 obtain ⟨l0, rfl, hr0, hm0, hw0, hc0⟩ := ReadsInt.ofRowC w0
 have HR := Aside0.mk (Kd.C_of_reads (d := (0 : Int)) (h1 := fun _ => rfl) hr0)
 clear w0 hr0 w1 w2
 have hu30 := Try.underlying30
 have hu45 := Try.underlying45
 go_enter Try.func6, Try.ntmps6
 go_wp2_with fail
 refine (made_calls a0 cap0 l0 10 w HR.out hc0 (by omega)).mono ?_
 rintro e w3 ⟨v0, v1, g, l, rfl, t, hl, hg, hR0, hR1, ht0, ht1, hI, hB⟩
 have hbase := made_base l (by omega) hg
 have hsm := small_le (made_all l hg)
 generalize (runW [] [] l).1 = fs at hR0 hbase hsm
 generalize (runW [] [] l).2.1 = ls at hR1 hbase hsm
 obtain ⟨A0, c0, rfl⟩ := Kd.R_slice hR0
 obtain ⟨A1, c1, rfl⟩ := Kd.R_slice hR1
 have HB := Aside0.mk hB
 have HS := Aside0.mk (StB.new hR0 hR1)
 have HBASE := Aside0.mk hbase
 have HSM := Aside0.mk hsm
 have hs3 : w.heap.size ≤ w3.heap.size := hB.size
 clear hR0 hR1 hI hB hbase hsm hg hl l ht0 ht1 t HR
 go_wp2_with fail
 obtain ⟨w4, hw4⟩ : ∃ w4, w4 = w3.alloc (.cells #[.slice A0 fs.length c0, .slice A1 ls.length c1] 30) := ⟨_, rfl⟩
 rw [← hw4] at HS ⊢
 replace HB := Aside0.mk (show Below w.heap.size w w4 from hw4 ▸ below_alloc HB.out _)
 have hs4 : w4.heap.size = w3.heap.size + 1 := by rw [hw4]; simp
 obtain ⟨w5, hw5⟩ : ∃ w5, w5 = w4.alloc (.cells #[.int .i64 1, .string ⟨#[]⟩, .string ⟨#[111, 119, 110]⟩, .string ⟨#[]⟩, .int .u64 a1, .int .i64 3, .string ⟨#[109, 105, 110, 101]⟩, .string ⟨#[111, 119, 110]⟩, .string ⟨#[]⟩, .int .u64 0] 45) := ⟨_, rfl⟩
 have hC : Kd.C k45 w5 (some ⟨w3.heap.size + 1, 0, none⟩) 2 [⟨1, ⟨#[]⟩, own, ⟨#[]⟩, a1⟩, ⟨3, mine, own, ⟨#[]⟩, 0⟩] := by
  rw [← hs4]
  exact C_of_blk (by rw [hw5]; exact blk_new _ _) (lit5 (x := ⟨1, ⟨#[]⟩, own, ⟨#[]⟩, a1⟩) (lit5 (x := ⟨3, mine, own, ⟨#[]⟩, 0⟩) (Reps.none _ _))) (by simp)
 have hb5 : Below w4.heap.size w4 w5 := hw5 ▸ below_alloc (Below.refl _ _) _
 rw [← hw5]
 replace HS := Aside0.mk (HS.out.below hb5)
 replace HB := Aside0.mk (below_step HB.out hb5)
 clear hb5 hw5 hw4 hs4
 obtain ⟨o1, eo1⟩ := run_st HBASE.out a1
 refine (run_to (l := [⟨1, ⟨#[]⟩, own, ⟨#[]⟩, a1⟩, ⟨3, mine, own, ⟨#[]⟩, 0⟩]) HS.out HB.out HSM.out (by simp) (fun x hx => by simp at hx; rcases hx with rfl | rfl <;> exact sE _ _ _ (by first | exact .inl rfl | exact .inr rfl)) hC (by simp) eo1).mono ?_
 rintro e w6 ⟨B0, b0, B1, b1, v2, v3, rfl, hR0, hR1, hR2, hR3, hb⟩
 replace HB := Aside0.mk (below_step HB.out hb)
 clear HS hC eo1 hs3 hR2 hb
 obtain ⟨Ae, ce, rfl⟩ := Kd.R_slice hR3
 have HE := Aside0.mk hR3
 have HSa := Aside0.mk (StB.new hR0 hR1)
 clear hR0 hR1 hR3
 go_wp2_with fail
 obtain ⟨ba, hba⟩ : ∃ b, b = w6.heap.size := ⟨_, rfl⟩
 obtain ⟨w7, hw7⟩ : ∃ w', w' = w6.alloc (.cells #[.slice B0 (stF fs a1 true).length b0, .slice B1 (stL ls a1).length b1] 30) := ⟨_, rfl⟩
 rw [← hw7, ← hba]
 rw [← hw7, ← hba] at HSa
 have hbw : Below w6.heap.size w6 w7 := hw7 ▸ below_alloc (Below.refl _ _) _
 replace HB := Aside0.mk (below_step HB.out hbw)
 replace HE := Aside0.mk (Kd.R_below HE.out hbw)
 clear hbw hw7 hba
 obtain ⟨o, eo⟩ := step_leave HBASE.out a1 a1
 refine (step_to (e := ⟨2, ⟨#[]⟩, own, ⟨#[]⟩, 0⟩) HSa.out HB.out (small_st _ _ _ HSM.out) (sE _ _ _ (by first | exact .inl rfl | exact .inr rfl)) eo).mono ?_
 rintro e w8 ⟨D0, d0, D1, d1, v2b, rfl, hR0, hR1, hR2, hb⟩
 replace HB := Aside0.mk (below_step HB.out hb)
 replace HSa := Aside0.mk (HSa.out.below hb)
 replace HE := Aside0.mk (Kd.R_below HE.out hb)
 have HSb := Aside0.mk (StB.new hR0 hR1)
 clear hR0 hR1 hR2 hb eo o
 go_wp2_with fail
 obtain ⟨bb, hbb⟩ : ∃ b, b = w8.heap.size := ⟨_, rfl⟩
 obtain ⟨w9, hw9⟩ : ∃ w', w' = w8.alloc (.cells #[.slice D0 (stF fs a1 false).length d0, .slice D1 (stL ls a1).length d1] 30) := ⟨_, rfl⟩
 rw [← hw9, ← hbb]
 rw [← hw9, ← hbb] at HSb
 have hbw : Below w8.heap.size w8 w9 := hw9 ▸ below_alloc (Below.refl _ _) _
 replace HB := Aside0.mk (below_step HB.out hbw)
 replace HSa := Aside0.mk (HSa.out.below hbw)
 replace HE := Aside0.mk (Kd.R_below HE.out hbw)
 clear hbw hw9 hbb
 obtain ⟨o, eo⟩ := step_arrive HBASE.out a1 a1 false a1
 refine (step_to (e := ⟨1, ⟨#[]⟩, own, ⟨#[]⟩, a1⟩) HSb.out HB.out (small_st _ _ _ HSM.out) (sE _ _ _ (by first | exact .inl rfl | exact .inr rfl)) eo).mono ?_
 rintro e w10 ⟨E0, e0, E1, e1, v2c, rfl, hR0, hR1, hR2, hb⟩
 replace HB := Aside0.mk (below_step HB.out hb)
 replace HSa := Aside0.mk (HSa.out.below hb)
 replace HSb := Aside0.mk (HSb.out.below hb)
 replace HE := Aside0.mk (Kd.R_below HE.out hb)
 have HSc := Aside0.mk (StB.new hR0 hR1)
 clear hR0 hR1 hR2 hb eo o
 have hx0 := HSb.out.g0
 have hx1 := HSb.out.g1
 have hxl := blk_lt HSb.out.1
 go_wp2_with fail
 clear hx0 hx1 hxl
 obtain ⟨bc, hbc⟩ : ∃ b, b = w10.heap.size := ⟨_, rfl⟩
 obtain ⟨w11, hw11⟩ : ∃ w', w' = w10.alloc (.cells #[.slice E0 (stF fs a1 true).length e0, .slice E1 (stL ls a1).length e1] 30) := ⟨_, rfl⟩
 rw [← hw11, ← hbc]
 rw [← hw11, ← hbc] at HSc
 have hbw : Below w10.heap.size w10 w11 := hw11 ▸ below_alloc (Below.refl _ _) _
 replace HB := Aside0.mk (below_step HB.out hbw)
 replace HSa := Aside0.mk (HSa.out.below hbw)
 replace HSb := Aside0.mk (HSb.out.below hbw)
 replace HE := Aside0.mk (Kd.R_below HE.out hbw)
 clear hbw hw11 hbc
 obtain ⟨o, eo⟩ := step_arrive HBASE.out a1 a1 false a2
 refine (step_to (e := ⟨1, ⟨#[]⟩, own, ⟨#[]⟩, a2⟩) HSb.out HB.out (small_st _ _ _ HSM.out) (sE _ _ _ (by first | exact .inl rfl | exact .inr rfl)) eo).mono ?_
 rintro e w12 ⟨F0, f0, F1, f1, v2d, rfl, hR0, hR1, hR2, hb⟩
 replace HB := Aside0.mk (below_step HB.out hb)
 replace HSa := Aside0.mk (HSa.out.below hb)
 replace HSb := Aside0.mk (HSb.out.below hb)
 replace HSc := Aside0.mk (HSc.out.below hb)
 replace HE := Aside0.mk (Kd.R_below HE.out hb)
 have HSd := Aside0.mk (StB.new hR0 hR1)
 clear hR0 hR1 hR2 hb eo o
 go_wp2_with fail
 obtain ⟨bd, hbd⟩ : ∃ b, b = w12.heap.size := ⟨_, rfl⟩
 obtain ⟨w13, hw13⟩ : ∃ w', w' = w12.alloc (.cells #[.slice F0 (stF fs a2 true).length f0, .slice F1 (stL ls a1).length f1] 30) := ⟨_, rfl⟩
 rw [← hw13, ← hbd]
 rw [← hw13, ← hbd] at HSd
 have hbw : Below w12.heap.size w12 w13 := hw13 ▸ below_alloc (Below.refl _ _) _
 replace HB := Aside0.mk (below_step HB.out hbw)
 replace HSa := Aside0.mk (HSa.out.below hbw)
 replace HSb := Aside0.mk (HSb.out.below hbw)
 replace HSc := Aside0.mk (HSc.out.below hbw)
 replace HE := Aside0.mk (Kd.R_below HE.out hbw)
 clear hbw hw13 hbd
 obtain ⟨o, eo⟩ := step_relink HBASE.out a2 a1
 refine (step_to (e := ⟨4, mine, own, ⟨#[]⟩, 0⟩) HSd.out HB.out (small_st _ _ _ HSM.out) (sE _ _ _ (by first | exact .inl rfl | exact .inr rfl)) eo).mono ?_
 rintro e w14 ⟨G0, g0, G1, g1, v2r, rfl, hR0, hR1, hR2, hb⟩
 replace HB := Aside0.mk (below_step HB.out hb)
 replace HSa := Aside0.mk (HSa.out.below hb)
 replace HSb := Aside0.mk (HSb.out.below hb)
 replace HSc := Aside0.mk (HSc.out.below hb)
 replace HSd := Aside0.mk (HSd.out.below hb)
 replace HE := Aside0.mk (Kd.R_below HE.out hb)
 have HSr := Aside0.mk (StB.new hR0 hR1)
 clear hR0 hR1 hR2 hb eo o
 go_wp2_with fail
 obtain ⟨br, hbr⟩ : ∃ b, b = w14.heap.size := ⟨_, rfl⟩
 obtain ⟨w15, hw15⟩ : ∃ w', w' = w14.alloc (.cells #[.slice G0 (stF fs a2 true).length g0, .slice G1 (stL ls a2).length g1] 30) := ⟨_, rfl⟩
 rw [← hw15, ← hbr]
 rw [← hw15, ← hbr] at HSr
 have hbw : Below w14.heap.size w14 w15 := hw15 ▸ below_alloc (Below.refl _ _) _
 have hs15 : w15.heap.size = w14.heap.size + 1 := by rw [hw15]; simp
 replace HB := Aside0.mk (below_step HB.out hbw)
 replace HSa := Aside0.mk (HSa.out.below hbw)
 replace HSb := Aside0.mk (HSb.out.below hbw)
 replace HSc := Aside0.mk (HSc.out.below hbw)
 replace HSd := Aside0.mk (HSd.out.below hbw)
 replace HE := Aside0.mk (Kd.R_below HE.out hbw)
 clear hbw hw15
 obtain ⟨w16, hw16⟩ : ∃ w', w' = w15.alloc (.cells #[.int .i64 0, .int .i64 0] 49) := ⟨_, rfl⟩
 rw [← hw16]
 have hC : Kd.C (Kd.int .i64) w16 (some ⟨br + 1, 0, none⟩) 2 [0, 0] := by
  rw [hbr, ← hs15]
  exact C_of_blk (by rw [hw16]; exact blk_new _ _) (Reps.one (by rfl) (Reps.one (by rfl) (Reps.none _ _))) (by simp)
 have hbw : Below w15.heap.size w15 w16 := hw16 ▸ below_alloc (Below.refl _ _) _
 replace HB := Aside0.mk (below_step HB.out hbw)
 replace HSa := Aside0.mk (HSa.out.below hbw)
 replace HSb := Aside0.mk (HSb.out.below hbw)
 replace HSc := Aside0.mk (HSc.out.below hbw)
 replace HSd := Aside0.mk (HSd.out.below hbw)
 replace HSr := Aside0.mk (HSr.out.below hbw)
 replace HE := Aside0.mk (Kd.R_below HE.out hbw)
 clear hbw hw16 hs15 hbr
 refine (cutroomlaw36_errnos.calls 5 Ae ce [0, 0] (some ⟨br + 1, 0, none⟩) 2 [0, 0] true w16 (Kd.R_reads' HE.out).2.2 (Kd.R_reads' HE.out).2.1 hC (by simp) (by kernel_rfl)).mono ?_
 rintro e w17 ⟨rfl, hd⟩
 have hb := hd.below
 replace HB := Aside0.mk (below_step HB.out hb)
 replace HSa := Aside0.mk (HSa.out.below hb)
 replace HSb := Aside0.mk (HSb.out.below hb)
 replace HSc := Aside0.mk (HSc.out.below hb)
 replace HSd := Aside0.mk (HSd.out.below hb)
 replace HSr := Aside0.mk (HSr.out.below hb)
 clear hC hd hb HE
 have hlast : ∀ want : Int, Aside0 (want = if a1 = a2 then 1 else 2) → True := fun _ _ => trivial
 clear hlast
 obtain ⟨want, hwant⟩ : ∃ n : Int, n = if a2 = a1 then 1 else 2 := ⟨_, rfl⟩
 have HW := Aside0.mk hwant
 clear hwant
 have hq1 := status_st HBASE.out a1 a1 true
 have hq2 := status_st HBASE.out a1 a1 false
 have hq4 := status_st HBASE.out a2 a1 true
 have hq5 := status_st HBASE.out a2 a2 true
 rw [if_pos rfl, if_pos rfl] at hq1 hq5
 rw [if_neg (by simp)] at hq2
 rw [if_pos rfl, ← HW.out] at hq4
 have HQ1 := Aside0.mk hq1
 have HQ2 := Aside0.mk hq2
 have HQ4 := Aside0.mk hq4
 have HQ5 := Aside0.mk hq5
 clear hq1 hq2 hq4 hq5
 have hx0 := HSa.out.g0
 have hx1 := HSa.out.g1
 have hbeq : ∃ c : Bool, (a2 == a1) = c ∧ want = if c = true then 1 else 2 := ⟨_, rfl, by rw [HW.out]; by_cases h : a2 = a1 <;> simp [h]⟩
 obtain ⟨c, hc, hw⟩ := hbeq
 have HWC := Aside0.mk hw
 clear hw HW
 cases c
 case' false => obtain rfl : want = 2 := by simpa using HWC.out
 case' true => obtain rfl : want = 1 := by simpa using HWC.out
 all_goals
  clear HWC
  go_wp2_with fail
  refine (status_to (m := mine) HSa.out HQ1.out).mono ?_
  rintro e w18 ⟨rfl, hb⟩
  replace HB := Aside0.mk (below_step HB.out hb)
  replace HSb := Aside0.mk (HSb.out.below hb)
  replace HSc := Aside0.mk (HSc.out.below hb)
  replace HSd := Aside0.mk (HSd.out.below hb)
  replace HSr := Aside0.mk (HSr.out.below hb)
  clear hb hx0 hx1 HSa
  have hx0 := HSb.out.g0
  have hx1 := HSb.out.g1
  go_wp2_with fail
  refine (status_to (m := mine) HSb.out HQ2.out).mono ?_
  rintro e w19 ⟨rfl, hb⟩
  replace HB := Aside0.mk (below_step HB.out hb)
  replace HSc := Aside0.mk (HSc.out.below hb)
  replace HSd := Aside0.mk (HSd.out.below hb)
  replace HSr := Aside0.mk (HSr.out.below hb)
  clear hb hx0 hx1 HSb
  have hx0 := HSc.out.g0
  have hx1 := HSc.out.g1
  go_wp2_with fail
  refine (status_to (m := mine) HSc.out HQ1.out).mono ?_
  rintro e w20 ⟨rfl, hb⟩
  replace HB := Aside0.mk (below_step HB.out hb)
  replace HSd := Aside0.mk (HSd.out.below hb)
  replace HSr := Aside0.mk (HSr.out.below hb)
  clear hb hx0 hx1 HSc
  have hx0 := HSd.out.g0
  have hx1 := HSd.out.g1
  go_wp2_with fail
  refine (status_to (m := mine) HSd.out HQ4.out).mono ?_
  rintro e w21 ⟨rfl, hb⟩
  replace HB := Aside0.mk (below_step HB.out hb)
  replace HSr := Aside0.mk (HSr.out.below hb)
  clear hb hx0 hx1 HSd
  have hx0 := HSr.out.g0
  have hx1 := HSr.out.g1
  go_wp2_with fail
  refine (status_to (m := mine) HSr.out HQ5.out).mono ?_
  rintro e w22 ⟨rfl, hb⟩
  replace HB := Aside0.mk (below_step HB.out hb)
  clear hb hx0 hx1 HSr
  go_wp2_with fail
  refine (awake_at w22).mono ?_
  rintro e w23 ⟨rfl, hb⟩
  replace HB := Aside0.mk (below_step HB.out hb)
  clear hb
  go_wp2
  go_ret
  exact ⟨rfl, HB.out⟩
end Go.Proofs.Ytpnhkmicepmciaa.Y

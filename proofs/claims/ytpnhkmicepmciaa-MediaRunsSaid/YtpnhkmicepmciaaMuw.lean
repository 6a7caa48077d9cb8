/- A part of this claim's walks: functions' contracts, or plain lemmas; conditions: each one's own. -/
import Derived.Test.YtpnhkmicepmciaaCmw
import Derived.Test.YtpnhkmicepmciaaRdm
import Derived.Test.YtpnhkmicepmciaaPar2
namespace Go.Proofs.Ytpnhkmicepmciaa.Y
open Go.RowKit Go.Proofs.YtpnhkmicepmciaaW.PrintWords Go.Proofs.YtpnhkmicepmciaaW.PrintLast Go.Proofs.YtpnhkmicepmciaaW.PrintMore
set_option linter.unusedVariables false
set_option linter.unusedSimpArgs false
open Go.Proofs.Ytpnhkmicepmciaa.Par
attribute [local go_sem] max2_int min2_int max_two min_two max_three min_three max_four min_four
def muPhi (g b0 : Nat) (ev : S45) : Nat → (Nat → Value) → World → Prop
  | 0, v, _ => v 0 = .pointer (some ⟨g, 0, none⟩)
  | 1, v, W => ∃ (l : List S45) (Al : Option Addr) (cl : Nat), v 1 = .slice Al l.length cl ∧ l.length ≤ 8 ∧ (∀ x ∈ l, goodE x) ∧ Kd.R k45 45 W b0 (fun _ => True) (.slice Al l.length cl) l
  | 2, v, _ => v 2 = .agg (evA ev)
  | 3, v, W => ∃ b, v 3 = .slice (some ⟨b, 0, none⟩) 1 1 ∧ W.heap[b]? = some (.cells (evA ev) 45 (0, 0)) ∧ b0 ≤ b
  | _, _, _ => True
theorem muPhi_keep {g b0 : Nat} {ev : S45} (hg : g < b0) : ∀ i v W W', muPhi g b0 ev i v W → KeepBut W W' g none → muPhi g b0 ev i v W'
  | 0, _, _, _, h, _ => h
  | 1, _, _, _, ⟨l, Al, cl, h1, h2, h3, h4⟩, hk => ⟨l, Al, cl, h1, h2, h3, R_keepM h4 hk hg⟩
  | 2, _, _, _, h, _ => h
  | 3, _, _, _, ⟨b, h1, h2, h3⟩, hk => ⟨b, h1, hk.blk h2 (by omega) (by simp), h3⟩
  | _ + 4, _, _, _, _, _ => trivial
/-- What stands while the states are gone through. -/
def MuIs (w2 W : World) (bl : Nat) (A0 : Option Addr) (c0 : Nat) (A1 : Option Addr) (c1 : Nat) (fs : List S37) (ls : List S39) (B0 : Option Addr) (d0 : Nat) (B1 : Option Addr) (d1 : Nat) (fm : List S37) (lm : List S39) (E0 : Option Addr) (ce : Nat) (le : List S45) : Prop :=
  Below w2.heap.size w2 W ∧ W.heap[bl]? = some (.cells #[.slice A0 fs.length c0, .slice A1 ls.length c1, .slice B0 fm.length d0, .slice B1 lm.length d1, .slice none 0 0, .slice none 0 0] 30 (0, 0)) ∧ StV W A0 c0 A1 c1 fs ls ∧ StV W B0 d0 B1 d1 fm lm ∧ Kd.C k45 W E0 le.length le ∧ le.length ≤ ce
theorem MuIs.below {w2 W W1 bl A0 c0 A1 c1 fs ls B0 d0 B1 d1 fm lm E0 ce le} (h : MuIs w2 W bl A0 c0 A1 c1 fs ls B0 d0 B1 d1 fm lm E0 ce le) (hb : Below W.heap.size W W1) : MuIs w2 W1 bl A0 c0 A1 c1 fs ls B0 d0 B1 d1 fm lm E0 ce le :=
  ⟨below_step h.1 hb, blk_below h.2.1 hb, h.2.2.1.below hb, h.2.2.2.1.below hb, Kd.C_below h.2.2.2.2.1 hb, h.2.2.2.2.2⟩
theorem MuIs.state {w2 W bl A0 c0 A1 c1 fs ls B0 d0 B1 d1 fm lm E0 ce le} (h : MuIs w2 W bl A0 c0 A1 c1 fs ls B0 d0 B1 d1 fm lm E0 ce le) (h1 : SmallS fs ls) (h2 : SmallS fm lm) {ad : Addr} (had : ad = ⟨bl, 0, none⟩) (k : Nat) (hk : k < 3) :
    ∃ X0 x0 X1 x1 f l, W.cell? (ad.add (k * 2)) = some (.slice X0 (List.length f) x0) ∧ W.cell? ⟨(ad.add (k * 2)).block, (ad.add (k * 2)).off + 1, none⟩ = some (.slice X1 (List.length l) x1) ∧ StV W X0 x0 X1 x1 f l ∧ SmallS f l := by
  subst had
  have e : ∀ n : Nat, (⟨bl, 0, none⟩ : Addr).add n = ⟨bl, n, none⟩ := fun n => add_plain bl n
  rw [e]
  obtain rfl | rfl | rfl : k = 0 ∨ k = 1 ∨ k = 2 := by omega
  · exact ⟨A0, c0, A1, c1, fs, ls, (blk_cell h.2.1 _).trans rfl, (blk_cell h.2.1 _).trans rfl, h.2.2.1, h1⟩
  · exact ⟨B0, d0, B1, d1, fm, lm, (blk_cell h.2.1 _).trans rfl, (blk_cell h.2.1 _).trans rfl, h.2.2.2.1, h2⟩
  · exact ⟨none, 0, none, 0, [], [], (blk_cell h.2.1 _).trans rfl, (blk_cell h.2.1 _).trans rfl, StV.nil _, ⟨by simp, by simp⟩⟩
set_option maxHeartbeats 4000000 in
set_option maxRecDepth 100000 in
theorem mediaRuns_walk (A0 : Option Addr) (c0 : Nat) (fs : List S37) (A1 : Option Addr) (c1 : Nat) (ls : List S39) (a0 : Option Addr) (len0 cap0 : Nat) (z0 : List Int) (ev : S45) (w : World) (hst : StV w A0 c0 A1 c1 fs ls) (hsm : SmallS fs ls)
    (w0 : (a0 = none ∧ len0 = 0 ∧ cap0 = 0 ∧ z0 = []) ∨ ∃ x, a0 = some x ∧ len0 ≤ cap0 ∧ cap0 ≤ maxLen ∧ z0.length = cap0 ∧ (∀ i, i < z0.length → w.cell? (x.add i) = some (.int .i64 (z0.getD i 0))) ∧ ∀ n ∈ z0, (Lit.int .i64 n).wf = true) (y0 : len0 * 8 ≤ 140737488351232) (he : SmallE ev) :
    Calls Try.prog 5 #[.agg #[.slice A0 fs.length c0, .slice A1 ls.length c1], .slice a0 len0 cap0, .agg #[.int .i64 ev.f0, .string ev.f1, .string ev.f2, .string ev.f3, .int .u64 ev.f4]] w fun e w' => e = .returned (.bool true) ∧ Below w.heap.size w w' := by
  obtain ⟨l0, rfl, hr0, hm0, hw0, hc0⟩ := ReadsInt.ofRowC w0
  have HR := Aside0.mk (Kd.C_of_reads (d := (0 : Int)) (h1 := fun _ => rfl) hr0)
  clear w0 hr0
  have hu30 := Try.underlying30
  have hu45 := Try.underlying45
  have HST := Aside0.mk hst
  have HSM := Aside0.mk hsm
  have HE := Aside0.mk he
  clear hst hsm he
  go_enter Try.func5, Try.ntmps5
  go_wp2_with fail
  obtain ⟨br, hbr⟩ : ∃ b, b = w.heap.size := ⟨_, rfl⟩
  obtain ⟨be, hbe⟩ : ∃ b, b = w.heap.size + 1 := ⟨_, rfl⟩
  obtain ⟨w1, hw1⟩ : ∃ W, W = w.alloc (.cells #[.slice A0 fs.length c0, .slice A1 ls.length c1] 30) := ⟨_, rfl⟩
  obtain ⟨w2, hw2⟩ : ∃ W, W = w1.alloc (.cells (evA ev) 45) := ⟨_, rfl⟩
  have hs1 : w1.heap.size = be := by rw [hw1, hbe]; simp
  have hb2 : Below w1.heap.size w1 w2 := hw2 ▸ below_alloc (Below.refl _ _) _
  have HB0 : Aside0 (Below w.heap.size w w2) := ⟨hw2 ▸ below_alloc (hw1 ▸ below_alloc (Below.refl _ _) _) _⟩
  have HRW : Aside0 (StC w2 br A0 c0 A1 c1 fs ls) := ⟨StC.below (by rw [hw1, hbr]; exact StC.new HST.out) hb2⟩
  have HEB : Aside0 (w2.heap[be]? = some (.cells (evA ev) 45 (0, 0))) := ⟨by rw [hw2, ← hs1]; exact blk_new _ _⟩
  have HR2 := Aside0.mk (Kd.C_below HR.out HB0.out)
  change Calls _ _ _ ((w.alloc (.cells #[.slice A0 fs.length c0, .slice A1 ls.length c1] 30)).alloc (.cells (evA ev) 45)) _
  rw [← hw1, ← hw2, ← hbe, ← hbr]
  clear hw1 hw2 hbr hbe hs1 hb2 HR HST
  refine (made_calls a0 cap0 l0 10 w2 HR2.out hc0 (by omega)).mono ?_
  rintro e w3 ⟨v0, v1, g, l, rfl, t, hl, hg, hR0, hR1, ht0, ht1, hI, hB⟩
  have hsm := small_le (made_all l hg)
  generalize (runW [] [] l).1 = fm at hR0 hsm
  generalize (runW [] [] l).2.1 = lm at hR1 hsm
  obtain ⟨B0, d0, rfl⟩ := Kd.R_slice hR0
  obtain ⟨B1, d1, rfl⟩ := Kd.R_slice hR1
  have HS := Aside0.mk (StB.new hR0 hR1)
  have HSS := Aside0.mk hsm
  have hgs : w3.heap.size ≠ g := by have := hI.lt; omega
  have HB := Aside0.mk (below_alloc hB (.cells #[.slice B0 fm.length d0, .slice B1 lm.length d1] 30))
  have HI := Aside0.mk (hI.alloc (.cells #[.slice B0 fm.length d0, .slice B1 lm.length d1] 30))
  clear hR0 hR1 hI hB hsm hg hl l HR2
  go_wp2_with fail
  obtain ⟨bs, hbs⟩ : ∃ b, b = w3.heap.size := ⟨_, rfl⟩
  obtain ⟨w4, hw4⟩ : ∃ w', w' = w3.alloc (.cells #[.slice B0 fm.length d0, .slice B1 lm.length d1] 30) := ⟨_, rfl⟩
  rw [← hw4, ← hbs] at HS
  rw [← hw4] at HB HI
  rw [← hbs] at hgs
  rw [← hw4, ← hbs]
  clear hw4 hbs w3
  have hgl : g < w4.heap.size := HI.out.lt
  refine par4_ (n := 6) [(0, some 31), (1, some 32), (2, some 33), (3, some 34)] [] [1] (fun n W => Below w2.heap.size w2 W ∧ ∃ t : Int, 0 ≤ t ∧ t ≤ 1000 + 1000 * n ∧ IsS65 w2 W g l0 t) #[true, true, true, true, false, false] 2 (fun W W' => KeepBut W W' g none) (muPhi g w4.heap.size ev) (by kernel_rfl) rfl (by kernel_rfl) (fun _ _ _ d _ h => by cases d <;> exact h) (fun _ => KeepBut.refl _ _ _) (fun _ _ _ h1 h2 => h1.trans h2 (.inl rfl)) (muPhi_keep hgl) ?_ ⟨below_drew HB.out, t, ht0, by simpa using ht1, HI.out.drew⟩ ?_ ?_ ?_
  · intro i v v' W h hp
    match i with
    | 0 => exact (h 0 rfl).symm.trans hp
    | 1 => obtain ⟨l, Al, cl, h1, h2⟩ := hp; exact ⟨l, Al, cl, (h 1 rfl).symm.trans h1, h2⟩
    | 2 => exact (h 2 rfl).symm.trans hp
    | 3 => obtain ⟨b, h1, h2⟩ := hp; exact ⟨b, (h 3 rfl).symm.trans h1, h2⟩
    | j + 4 => trivial
  · intro i hi hF
    simp only [List.map_cons, List.map_nil, List.mem_cons, List.not_mem_nil, or_false] at hi
    rcases hi with rfl | rfl | rfl | rfl
    · intro o ho b W v n hJ hn hR dep oth
      obtain rfl := Option.some.inj ho
      exact d_value (R := fun W W' => KeepBut W W' g none) (i := 0) (Φ := muPhi g w4.heap.size ev) rfl (KeepBut.refl _ _ _) ((upd_at _ _ _).trans (oth 8 (by kernel_rfl))) hJ
    · intro o ho b W v n hJ hn hR dep oth
      obtain rfl := Option.some.inj ho
      obtain ⟨h1, h2⟩ := dep 0 31 rfl (by kernel_rfl)
      have e1 : b.eval (.tmp 31) = .pointer (some ⟨g, 0, none⟩) := h1.trans h2
      have hn0 : n = 0 := by have : n + 1 ≤ 1 := hn; omega
      subst hn0
      obtain ⟨hB, t', ht0', ht1', hI⟩ := hJ
      refine d_call (R := fun W W' => KeepBut W W' g none) (i := 1) (Φ := muPhi g w4.heap.size ev) Try.func17 (by kernel_rfl) rfl #[.pointer (some ⟨g, 0, none⟩), .int .i64 8] rfl (by rw [← e1]; simp [Act.eval]) ((events_calls g l0 t' 8 w2 W hI hB ht0' (by simp at ht1'; omega) (by omega)).mono ?_)
      rintro e W' ⟨x, he, l, t2, hl, hg, h20, h21, hRl, hI2, hB2, hK2⟩
      obtain ⟨Al, cl, rfl⟩ := Kd.R_slice hRl
      refine ⟨_, he, hK2, ⟨l, Al, cl, upd_at _ _ _, by omega, hg, Kd.R_lower hRl hR.1⟩, hB2, t2, h20, ?_, hI2⟩
      simp at ht1' h21 ⊢
      omega
    · intro o ho b W v n hJ hn hR dep oth
      obtain rfl := Option.some.inj ho
      have e1 := ev_tmp (oth 5 (by kernel_rfl))
      have hbe := blk_below HEB.out hJ.1
      have x0 : W.cell? ⟨be, 0, none⟩ = some (.int .i64 ev.f0) := (blk_cell hbe 0).trans rfl
      have x1 : W.cell? ⟨be, 1, none⟩ = some (.string ev.f1) := (blk_cell hbe 1).trans rfl
      have x2 : W.cell? ⟨be, 2, none⟩ = some (.string ev.f2) := (blk_cell hbe 2).trans rfl
      have x3 : W.cell? ⟨be, 3, none⟩ = some (.string ev.f3) := (blk_cell hbe 3).trans rfl
      have x4 : W.cell? ⟨be, 4, none⟩ = some (.int .u64 ev.f4) := (blk_cell hbe 4).trans rfl
      refine d_value (R := fun W W' => KeepBut W W' g none) (i := 2) (Φ := muPhi g w4.heap.size ev) (x := .agg (evA ev)) (W' := W) ?_ (KeepBut.refl _ _ _) (upd_at _ _ _) hJ
      replace e1 : b.tmps[5]?.getD undef = .pointer (some ⟨be, 0, none⟩) := e1
      go_simp
      rfl
    · intro o ho b W v n hJ hn hR dep oth
      obtain rfl := Option.some.inj ho
      obtain ⟨h1, h2⟩ := dep 2 33 rfl (by kernel_rfl)
      have e1 := ev_tmp (h1.trans h2)
      obtain ⟨hB, t', ht0', ht1', hI⟩ := hJ
      refine d_value (R := fun W W' => KeepBut W W' g none) (i := 3) (Φ := muPhi g w4.heap.size ev) (x := .slice (some ⟨W.heap.size, 0, none⟩) 1 1) (W' := W.alloc (.cells (evA ev) 45)) ?_ (keep_alloc (KeepBut.refl _ _ _) _) ⟨_, upd_at _ _ _, blk_new _ _, hR.1⟩ ⟨below_alloc hB _, t', ht0', ht1', hI.alloc _⟩
      replace e1 : b.tmps[33]?.getD undef = .agg #[.int .i64 ev.f0, .string ev.f1, .string ev.f2, .string ev.f3, .int .u64 ev.f4] := e1
      go_simp
      rfl
  · intro i hi
    cases hi
  · intro v W hk hv hJ
    have e0 : v 0 = _ := hv 0 (by decide)
    obtain ⟨l, Al, cl, e1, hl, hg, hRl⟩ := hv 1 (by decide)
    have e2 : v 2 = _ := hv 2 (by decide)
    obtain ⟨b, e3, hb, hb0⟩ := hv 3 (by decide)
    have hC : Kd.C k45 W (some ⟨b, 0, none⟩) 1 [ev] := C_of_blk hb (lit5 (x := ev) (Reps.none _ _)) (by simp)
    have HJ := Aside0.mk hJ.1
    have HK := Aside0.mk hk
    clear hv hJ hk
    simp only [fillE, Act.put, List.setIfInBounds_toArray, List.set_cons_zero, List.set_cons_succ, e0, e1, e2, e3]
    refine one_ (i := 4) (N := some 35) #[true, true, true, true, true, false] rfl rfl (by kernel_rfl) (by decide) (fun K hK => ?_)
    refine Kd.R_append_rows_step (w0 := W) k45 w4.heap.size (by rfl) (.tmp 32) (.tmp 34) 46 45 (.agg #[.int .i64 0, .string ⟨#[]⟩, .string ⟨#[]⟩, .string ⟨#[]⟩, .int .u64 0]) 64 rfl Try.underlying46 infoEv rfl (by decide) (by omega) (.slice Al l.length cl) l [ev] (some ⟨b, 0, none⟩) 1 1 (fun _ => True) (fun _ => False) rfl rfl ?aO ?aR (fun _ _ h => h) (fun _ h => h.elim) (fun _ _ => trivial) ?aB ?aS ?aL ?_
    (case aO => exact hRl)
    (case aR => exact hC)
    (case aB => exact Below.refl _ _)
    (case aS => exact HK.out.1)
    (case aL => omega)
    intro u0 w5 ho hb1 hg1 hat1
    obtain ⟨E0, ce, rfl⟩ := Kd.R_slice ho
    obtain ⟨le, hle⟩ : ∃ x, x = l ++ [ev] := ⟨_, rfl⟩
    have hll : le.length ≤ 9 := by rw [hle]; simp; omega
    have HLE : Aside0 (∀ x ∈ le, SmallE x) := ⟨fun x hx => by
      rw [hle, List.mem_append] at hx
      rcases hx with h | h
      · exact goodE_small (hg x h)
      · rw [List.mem_singleton.1 h]; exact HE.out⟩
    rw [← hle] at ho ⊢
    have HKE : KeepBut w4.drew w5 g none := ⟨Nat.le_trans HK.out.1 hb1.size, fun i hi hgi hn => (hb1.block i hi).trans (HK.out.2 i hi hgi hn)⟩
    have hw24 : w2.heap.size ≤ w4.heap.size := HB.out.size
    have HB5 := Aside0.mk (show Below w2.heap.size w2 w5 from HJ.out.trans ⟨hb1.os, hb1.tape, hb1.output, hb1.size, fun i hi => hb1.block i (Nat.lt_of_lt_of_le hi hw24)⟩)
    have HSC := Aside0.mk ((HS.out.below (below_drew (Below.refl _ _))).keepM HKE hgs HI.out.drew).toC
    have HRC := Aside0.mk (HRW.out.below HB5.out)
    have HCE := Aside0.mk (Kd.R_reads' ho).2
    refine hK.out _ _ trivial (fun _ => ?_)
    clear hK K ho hb1 hg1 hat1 HKE hw24 hle hC hRl hb e0 e1 e2 e3 hb0 HJ HK HS HI HB HRW HEB hg hl
    refine plan_ [(5, 9, false)] ?_
    repeat (
     refine plan_pure (v := ?_) (a' := ?_) rfl rfl (by kernel_rfl) (Or.inl ⟨by rfl, ?_⟩) ?_ ?_ (fun _ _ _ h => h)
     rotate_left
     · intro w'
       go_simp
       with_reducible rfl
     rotate_left
     · simp only [Act.put, List.setIfInBounds_toArray, List.set_cons_zero, List.set_cons_succ]
       rfl)
    refine plan_end ?_
    refine done_ (by kernel_rfl) ?_
    have hx0 := HSC.out.g0
    have hx1 := HSC.out.g1
    have hx2 := HRC.out.g0
    have hx3 := HRC.out.g1
    go_wp2_with fail
    obtain ⟨w6, hw6⟩ : ∃ W', W' = w5.alloc (.cells #[.slice A0 fs.length c0, .slice A1 ls.length c1, .slice B0 fm.length d0, .slice B1 lm.length d1, .slice none 0 0, .slice none 0 0] 30) := ⟨_, rfl⟩
    have hbw : Below w5.heap.size w5 w6 := hw6 ▸ below_alloc (Below.refl _ _) _
    have HM : Aside0 (MuIs w2 w6 w5.heap.size A0 c0 A1 c1 fs ls B0 d0 B1 d1 fm lm E0 ce le) := ⟨⟨below_step HB5.out hbw, by rw [hw6]; exact blk_new _ _, HRC.out.2.below hbw, HSC.out.2.below hbw, Kd.C_below HCE.out.2 hbw, HCE.out.1⟩⟩
    rw [← hw6]
    obtain ⟨bl, hbl⟩ : ∃ b, b = w5.heap.size := ⟨_, rfl⟩
    rw [← hbl] at HM ⊢
    obtain ⟨ad, had⟩ : ∃ a : Addr, a = ⟨bl, 0, none⟩ := ⟨_, rfl⟩
    rw [← had]
    have HAD := Aside0.mk had
    clear hw6 hbw hbl HB5 HSC HRC HCE hx0 hx1 hx2 hx3 had w5 W
    go_loopw [41] (fun i wr => ∃ k : Nat, k ≤ 3 ∧ i = .int .i64 k ∧ Aside0 (MuIs w2 wr bl A0 c0 A1 c1 fs ls B0 d0 B1 d1 fm lm E0 ce le)) (fun i _ => 3 - (intOf i).toNat)
    case atStart => exact ⟨0, by omega, rfl, HM⟩
    case round =>
      clear HM w6
      obtain ⟨k, hk, rfl, HM⟩ := hrel
      by_cases hlt : k < 3
      · obtain ⟨X0, x0, X1, x1, f, l, hy0, hy1, hv, hs⟩ := HM.out.state HSM.out HSS.out HAD.out k hlt
        have HV := Aside0.mk hv
        have HSf := Aside0.mk hs
        clear hv hs
        go_wp2_with fail
        obtain ⟨wx, hwx⟩ : ∃ W', W' = wr.alloc (.cells #[.slice X0 f.length x0, .slice X1 l.length x1] 30) := ⟨_, rfl⟩
        have HX := Aside0.mk (StC.new HV.out)
        have hbw : Below wr.heap.size wr wx := hwx ▸ below_alloc (Below.refl _ _) _
        rw [← hwx] at HX ⊢
        replace HM := Aside0.mk (HM.out.below hbw)
        obtain ⟨bx, hbx⟩ : ∃ b, b = wr.heap.size := ⟨_, rfl⟩
        rw [← hbx] at HX ⊢
        clear hwx hbw hbx HV hy0 hy1 wr
        rw [show decide ((k : Int) < 3) = true from decide_eq_true (by omega)]
        go_loopw [47] (fun i wr => ∃ j : Nat, j ≤ le.length ∧ i = .int .i64 j ∧ Aside0 (MuIs w2 wr bl A0 c0 A1 c1 fs ls B0 d0 B1 d1 fm lm E0 ce le) ∧ Aside0 (StC wr bx X0 x0 X1 x1 f l)) (fun i _ => le.length - (intOf i).toNat)
        case atStart => exact ⟨0, by omega, rfl, HM, HX⟩
        case round =>
          clear HM HX wx
          obtain ⟨j, hj, rfl, HM, HX⟩ := hrel
          by_cases hjl : j < le.length
          · obtain ⟨ae, e1, hy0, hy1, hy2, hy3, hy4⟩ := at_T45 HM.out.2.2.2.2.1 (j : Int) (by omega) (by omega)
            cases e1
            rw [Int.toNat_natCast] at hy0 hy1 hy2 hy3 hy4
            obtain ⟨x, hx⟩ : ∃ x, x = le[j]'hjl := ⟨_, rfl⟩
            have hrd : rd_T45 le (j : Int) = x := by rw [hx]; simp [rd_T45, List.getD, hjl]
            rw [hrd] at hy0 hy1 hy2 hy3 hy4
            have HXE := Aside0.mk (HLE.out x (hx ▸ List.getElem_mem hjl))
            have p1 : (0 ≤ (j : Int)) = True := eq_true (by omega)
            have q1 : ((j : Int) < (le.length : Int)) = True := eq_true (by omega)
            have hx0 := HX.out.g0
            have hx1 := HX.out.g1
            have hxl := blk_lt HX.out.1
            clear hx hrd
            go_wp2_with fail
            obtain ⟨wv, hw_⟩ : ∃ W', W' = wr.alloc (.cells (evA x) 45) := ⟨_, rfl⟩
            have hbw : Below wr.heap.size wr wv := hw_ ▸ below_alloc (Below.refl _ _) _
            have HV : Aside0 (wv.heap[wr.heap.size]? = some (.cells (evA x) 45 (0, 0))) := ⟨by rw [hw_]; exact blk_new _ _⟩
            change Calls _ _ _ (wr.alloc (.cells (evA x) 45)) _
            rw [← hw_]
            replace HM := Aside0.mk (HM.out.below hbw)
            replace HX := Aside0.mk (HX.out.below hbw)
            obtain ⟨bv, hbv⟩ : ∃ b, b = wr.heap.size := ⟨_, rfl⟩
            rw [← hbv] at HV ⊢
            clear hw_ hbw hbv hy0 hy1 hy2 hy3 hy4 hx0 hx1 hxl p1 q1 wr
            obtain ⟨⟨nf, nl, o, n⟩, hq⟩ : ∃ q, stepW f l x = q := ⟨_, rfl⟩
            have HQ := Aside0.mk hq
            clear hq
            refine (step_c HX.out.2 HSf.out HXE.out HQ.out).mono ?_
            rintro e w7 ⟨P0, p0, P1, p1, Ao, co, rfl, hP, hO, hOl, hb⟩
            replace HM := Aside0.mk (HM.out.below hb)
            replace HX := Aside0.mk (HX.out.below hb)
            replace HV := Aside0.mk (blk_below HV.out hb)
            have HP := Aside0.mk hP
            have HO := Aside0.mk (And.intro hO hOl)
            have hx0 := HX.out.g0
            have hx1 := HX.out.g1
            have hxl := blk_lt HX.out.1
            have hv0 : w7.cell? ⟨bv, 0, none⟩ = some (.int .i64 x.f0) := (blk_cell HV.out 0).trans rfl
            have hv1 : w7.cell? ⟨bv, 1, none⟩ = some (.string x.f1) := (blk_cell HV.out 1).trans rfl
            have hv2 : w7.cell? ⟨bv, 2, none⟩ = some (.string x.f2) := (blk_cell HV.out 2).trans rfl
            have hv3 : w7.cell? ⟨bv, 3, none⟩ = some (.string x.f3) := (blk_cell HV.out 3).trans rfl
            have hv4 : w7.cell? ⟨bv, 4, none⟩ = some (.int .u64 x.f4) := (blk_cell HV.out 4).trans rfl
            have hvl := blk_lt HV.out
            clear hP hO hOl hb wv
            go_wp2_with fail
            obtain ⟨w8, hw_⟩ : ∃ W', W' = w7.alloc (.cells #[.slice P0 nf.length p0, .slice P1 nl.length p1] 30) := ⟨_, rfl⟩
            have hbw : Below w7.heap.size w7 w8 := hw_ ▸ below_alloc (Below.refl _ _) _
            have HA := Aside0.mk (StC.new HP.out)
            rw [← hw_] at HA ⊢
            replace HM := Aside0.mk (HM.out.below hbw)
            replace HX := Aside0.mk (HX.out.below hbw)
            replace HO := Aside0.mk (And.intro (Kd.C_below HO.out.1 hbw) HO.out.2)
            obtain ⟨ba, hba⟩ : ∃ b, b = w7.heap.size := ⟨_, rfl⟩
            rw [← hba] at HA ⊢
            clear hw_ hbw hba hx0 hx1 hxl hv0 hv1 hv2 hv3 hv4 hvl HV HP w7
            refine (rstep_c HX.out.2 HSf.out HXE.out HQ.out).mono ?_
            rintro e w9 ⟨Q0, q0, Q1, q1, Bo, do_, rfl, hP, hO, hOl, hb⟩
            replace HM := Aside0.mk (HM.out.below hb)
            replace HX := Aside0.mk (HX.out.below hb)
            replace HA := Aside0.mk (HA.out.below hb)
            replace HO := Aside0.mk (And.intro (Kd.C_below HO.out.1 hb) HO.out.2)
            have HP := Aside0.mk hP
            have HO2 := Aside0.mk (And.intro hO hOl)
            have hx0 := HA.out.g0
            have hx1 := HA.out.g1
            have hxl := blk_lt HA.out.1
            clear hP hO hOl hb w8
            go_wp2_with fail
            obtain ⟨w10, hw_⟩ : ∃ W', W' = w9.alloc (.cells #[.slice Q0 nf.length q0, .slice Q1 nl.length q1] 30) := ⟨_, rfl⟩
            have hbw : Below w9.heap.size w9 w10 := hw_ ▸ below_alloc (Below.refl _ _) _
            have HB := Aside0.mk (StC.new HP.out)
            rw [← hw_] at HB ⊢
            replace HM := Aside0.mk (HM.out.below hbw)
            replace HX := Aside0.mk (HX.out.below hbw)
            replace HA := Aside0.mk (HA.out.below hbw)
            replace HO := Aside0.mk (And.intro (Kd.C_below HO.out.1 hbw) HO.out.2)
            replace HO2 := Aside0.mk (And.intro (Kd.C_below HO2.out.1 hbw) HO2.out.2)
            clear hw_ hbw hx0 hx1 hxl HP
            refine (same_c HA.out.2 HB.out.2).mono ?_
            rintro e w11 ⟨rfl, hb⟩
            replace HM := Aside0.mk (HM.out.below hb)
            replace HX := Aside0.mk (HX.out.below hb)
            replace HO := Aside0.mk (And.intro (Kd.C_below HO.out.1 hb) HO.out.2)
            replace HO2 := Aside0.mk (And.intro (Kd.C_below HO2.out.1 hb) HO2.out.2)
            clear hb HA HB
            go_wp2_with fail
            refine (sameOuts_c HO.out.1 HO.out.2 HO2.out.1 HO2.out.2).mono ?_
            rintro e w12 ⟨rfl, hb⟩
            replace HM := Aside0.mk (HM.out.below hb)
            replace HX := Aside0.mk (HX.out.below hb)
            clear hb HO HO2
            go_wp2
            go_roundw
            case rel => exact ⟨j + 1, by omega, by go_num, HM, HX⟩
            case measure => simp [intOf]; omega
          · obtain rfl : j = le.length := by omega
            have hx0 := HX.out.g0
            have hx1 := HX.out.g1
            have hxl := blk_lt HX.out.1
            go_wp2_with fail
            obtain ⟨⟨nf, nl, o, es⟩, hq⟩ : ∃ q, runF f l le = q := ⟨_, rfl⟩
            have HQ := Aside0.mk hq
            clear hq hx0 hx1 hxl
            refine (run_c HX.out.2 HSf.out (by omega) HLE.out HM.out.2.2.2.2.1 HM.out.2.2.2.2.2 HQ.out).mono ?_
            rintro e w7 ⟨P0, p0, P1, p1, Ao, co, Ae, ca, rfl, hP, hO, hEs, hb⟩
            replace HM := Aside0.mk (HM.out.below hb)
            replace HX := Aside0.mk (HX.out.below hb)
            have HP := Aside0.mk hP
            have HO := Aside0.mk hO
            have HES := Aside0.mk hEs
            have hx0 := HX.out.g0
            have hx1 := HX.out.g1
            have hxl := blk_lt HX.out.1
            clear hP hO hEs hb wr
            go_wp2_with fail
            obtain ⟨w8, hw_⟩ : ∃ W', W' = w7.alloc (.cells #[.slice P0 nf.length p0, .slice P1 nl.length p1] 30) := ⟨_, rfl⟩
            have hbw : Below w7.heap.size w7 w8 := hw_ ▸ below_alloc (Below.refl _ _) _
            have HA := Aside0.mk (StC.new HP.out)
            rw [← hw_] at HA ⊢
            replace HM := Aside0.mk (HM.out.below hbw)
            replace HX := Aside0.mk (HX.out.below hbw)
            replace HO := Aside0.mk (And.intro (Kd.C_below HO.out.1 hbw) HO.out.2)
            replace HES := Aside0.mk (And.intro (Kd.C_below HES.out.1 hbw) HES.out.2)
            obtain ⟨ba, hba⟩ : ∃ b, b = w7.heap.size := ⟨_, rfl⟩
            rw [← hba] at HA ⊢
            clear hw_ hbw hba hx0 hx1 hxl HP w7
            refine (rrun_c HX.out.2 HSf.out (by omega) HLE.out HM.out.2.2.2.2.1 HM.out.2.2.2.2.2 HQ.out).mono ?_
            rintro e w9 ⟨Q0, q0, Q1, q1, Bo, do_, Be, cb, rfl, hP, hO, hEs, hb⟩
            replace HM := Aside0.mk (HM.out.below hb)
            replace HA := Aside0.mk (HA.out.below hb)
            replace HO := Aside0.mk (And.intro (Kd.C_below HO.out.1 hb) HO.out.2)
            replace HES := Aside0.mk (And.intro (Kd.C_below HES.out.1 hb) HES.out.2)
            have HP := Aside0.mk hP
            have HO2 := Aside0.mk hO
            have HES2 := Aside0.mk hEs
            clear hP hO hEs hb HX w8
            go_wp2_with fail
            obtain ⟨w10, hw_⟩ : ∃ W', W' = w9.alloc (.cells #[.slice Q0 nf.length q0, .slice Q1 nl.length q1] 30) := ⟨_, rfl⟩
            have hbw : Below w9.heap.size w9 w10 := hw_ ▸ below_alloc (Below.refl _ _) _
            have HB := Aside0.mk (StC.new HP.out)
            rw [← hw_] at HB ⊢
            replace HM := Aside0.mk (HM.out.below hbw)
            replace HA := Aside0.mk (HA.out.below hbw)
            replace HO := Aside0.mk (And.intro (Kd.C_below HO.out.1 hbw) HO.out.2)
            replace HO2 := Aside0.mk (And.intro (Kd.C_below HO2.out.1 hbw) HO2.out.2)
            replace HES := Aside0.mk (And.intro (Kd.C_below HES.out.1 hbw) HES.out.2)
            replace HES2 := Aside0.mk (And.intro (Kd.C_below HES2.out.1 hbw) HES2.out.2)
            obtain ⟨bb, hbb⟩ : ∃ b, b = w9.heap.size := ⟨_, rfl⟩
            rw [← hbb] at HB ⊢
            clear hw_ hbw hbb HP w9
            refine (errnos_c HES.out.1 HES.out.2 HES2.out.1 HES2.out.2).mono ?_
            rintro e w11 ⟨rfl, hb⟩
            replace HM := Aside0.mk (HM.out.below hb)
            replace HA := Aside0.mk (HA.out.below hb)
            replace HB := Aside0.mk (HB.out.below hb)
            replace HO := Aside0.mk (And.intro (Kd.C_below HO.out.1 hb) HO.out.2)
            replace HO2 := Aside0.mk (And.intro (Kd.C_below HO2.out.1 hb) HO2.out.2)
            have hx0 := HA.out.g0
            have hx1 := HA.out.g1
            have hx2 := HB.out.g0
            have hx3 := HB.out.g1
            clear hb HES HES2 w10
            go_wp2_with fail
            refine (same_c HA.out.2 HB.out.2).mono ?_
            rintro e w12 ⟨rfl, hb⟩
            replace HM := Aside0.mk (HM.out.below hb)
            replace HO := Aside0.mk (And.intro (Kd.C_below HO.out.1 hb) HO.out.2)
            replace HO2 := Aside0.mk (And.intro (Kd.C_below HO2.out.1 hb) HO2.out.2)
            clear hb HA HB hx0 hx1 hx2 hx3
            go_wp2_with fail
            refine (sameOuts_c HO.out.1 HO.out.2 HO2.out.1 HO2.out.2).mono ?_
            rintro e w13 ⟨rfl, hb⟩
            replace HM := Aside0.mk (HM.out.below hb)
            clear hb HO HO2
            go_wp2
            go_roundw
            case rel => exact ⟨k + 1, by omega, by go_num, HM⟩
            case measure => simp [intOf]; omega
      · obtain rfl : k = 3 := by omega
        go_wp2_with fail
        refine (awake_at wr).mono ?_
        rintro e wz ⟨rfl, hb⟩
        have HZ := Aside0.mk (below_then HB0.out HB0.out.size (below_step HM.out.1 hb))
        clear hb
        go_wp2
        go_ret
        exact ⟨rfl, HZ.out⟩

end Go.Proofs.Ytpnhkmicepmciaa.Y

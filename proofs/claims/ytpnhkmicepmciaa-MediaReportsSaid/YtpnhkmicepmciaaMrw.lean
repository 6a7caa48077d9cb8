/- A part of this claim's walks: functions' contracts, or plain lemmas; conditions: each one's own. -/
import Derived.Test.YtpnhkmicepmciaaMrp
import Derived.Test.YtpnhkmicepmciaaPar2
import Derived.Outline
import Derived.Deep.CutBlock
namespace Go.Proofs.Ytpnhkmicepmciaa.Y
open Go.RowKit Go.Proofs.YtpnhkmicepmciaaW.PrintWords Go.Proofs.YtpnhkmicepmciaaW.PrintLast Go.Proofs.YtpnhkmicepmciaaW.PrintMore
set_option linter.unusedVariables false
set_option linter.unusedSimpArgs false
open Go.Proofs.Ytpnhkmicepmciaa.Par
attribute [local go_sem] max2_int min2_int max_two min_two max_three min_three max_four min_four
def csN : List Value := [.string ⟨#[109, 48]⟩, .string ⟨#[109, 49]⟩, .string ⟨#[109, 50]⟩, .string ⟨#[115, 112, 97, 114, 101]⟩, .string ⟨#[110, 111, 110, 101]⟩]
theorem csN_ok : ∀ v ∈ csN, ∃ s : ByteArray, v = .string s := by
  intro v hv
  simp only [csN, List.mem_cons, List.not_mem_nil, or_false] at hv
  rcases hv with rfl | rfl | rfl | rfl | rfl <;> exact ⟨_, rfl⟩
theorem R_keepG {α : Type} {d : Kd α} {e base g : Nat} {ok : Nat → Prop} {v : Value} {xs : List α} {W W' : World} (h : d.R e W base ok v xs) (hk : KeepBut W W' g none) (hg : g < base) : d.R e W' base ok v xs :=
  Kd.R_mono (Kd.R_keep (Kd.R_bound h) hk (fun k h => by have := h.2.1; omega)) (fun _ h => h.1)
theorem StB.keep {w w0 W W1 : World} {b g : Nat} {A0 A1 : Option Addr} {c0 c1 : Nat} {fs : List S37} {ls : List S39} {xs : List Int} {t : Int} (h : StB w W b A0 c0 A1 c1 fs ls) (hk : KeepBut W W1 g none) (hb : b ≠ g) (hi : IsS65 w0 W g xs t) : StB w W1 b A0 c0 A1 c1 fs ls :=
  ⟨hk.blk h.1 hb (by simp), Kd.R_mono (Kd.R_keep (hi.apart h.2.1 (by decide)) hk (fun _ h => h.2)) (fun _ h => h.1), Kd.R_mono (Kd.R_keep (hi.apart h.2.2 (by decide)) hk (fun _ h => h.2)) (fun _ h => h.1)⟩
/-- What Run has handed out. -/
def RunOut (g : Nat) (fs : List S37) (ls : List S39) (W : World) (A v2 : Value) : Prop := ∃ (l : List S45) (T0 : Option Addr) (ct0 : Nat) (T1 : Option Addr) (ct1 : Nat), l.length ≤ 12 ∧ (∀ x ∈ l, goodE x) ∧ A = .agg #[.slice T0 (runF fs ls l).1.length ct0, .slice T1 (runF fs ls l).2.1.length ct1] ∧
  Kd.R k37 37 W (g + 1) (fun _ => True) (.slice T0 (runF fs ls l).1.length ct0) (runF fs ls l).1 ∧ Kd.R k39 39 W (g + 1) (fun _ => True) (.slice T1 (runF fs ls l).2.1.length ct1) (runF fs ls l).2.1 ∧ Kd.R k61 61 W (g + 1) (fun _ => True) v2 (runF fs ls l).2.2.1
theorem RunOut.keep {g fs ls W W' A v2} (h : RunOut g fs ls W A v2) (hk : KeepBut W W' g none) : RunOut g fs ls W' A v2 := by
  obtain ⟨l, T0, ct0, T1, ct1, h1, h2, h3, h4, h5, h6⟩ := h
  exact ⟨l, T0, ct0, T1, ct1, h1, h2, h3, R_keepG h4 hk (by omega), R_keepG h5 hk (by omega), R_keepG h6 hk (by omega)⟩
def mrPhi (g bs : Nat) (S : Value) (fs : List S37) (ls : List S39) : Nat → (Nat → Value) → World → Prop
  | 0, v, _ => v 0 = S
  | 1, v, _ => v 1 = .pointer (some ⟨g, 0, none⟩)
  | 2, v, W => ∃ (l : List S45) (Al : Option Addr) (cl : Nat), v 2 = .slice Al l.length cl ∧ l.length ≤ 12 ∧ (∀ x ∈ l, goodE x) ∧ Kd.R k45 45 W (g + 1) (fun _ => True) (.slice Al l.length cl) l
  | 3, v, W => ∃ A v2 v3, v 3 = .tuple #[A, v2, v3] ∧ RunOut g fs ls W A v2
  | 4, v, W => ∃ A v2 v3, v 4 = .tuple #[A, v2, v3] ∧ RunOut g fs ls W A v2
  | 5, v, _ => ∃ v2 v3, v 4 = .tuple #[v 5, v2, v3]
  | 6, v, _ => ∃ A v3, v 4 = .tuple #[A, v 6, v3]
  | 7, v, _ => ∃ A v2, v 4 = .tuple #[A, v2, v 7]
  | 8, v, W => ∃ b, v 8 = .pointer (some ⟨b, 0, none⟩) ∧ W.heap[b]? = some (.cells #[.slice none 0 0, .slice none 0 0] 30 (0, 0)) ∧ g < b ∧ b ≠ bs
  | _, _, _ => True
theorem mrPhi_keep {g bs : Nat} {S : Value} {fs : List S37} {ls : List S39} : ∀ i v W W', mrPhi g bs S fs ls i v W → KeepBut W W' g none → mrPhi g bs S fs ls i v W'
  | 0, _, _, _, h, _ => h
  | 1, _, _, _, h, _ => h
  | 2, _, _, _, ⟨l, Al, cl, h1, h2, h3, h4⟩, hk => ⟨l, Al, cl, h1, h2, h3, R_keepG h4 hk (by omega)⟩
  | 3, _, _, _, ⟨A, v2, v3, h1, h2⟩, hk => ⟨A, v2, v3, h1, h2.keep hk⟩
  | 4, _, _, _, ⟨A, v2, v3, h1, h2⟩, hk => ⟨A, v2, v3, h1, h2.keep hk⟩
  | 5, _, _, _, h, _ => h
  | 6, _, _, _, h, _ => h
  | 7, _, _, _, h, _ => h
  | 8, _, _, _, ⟨b, h1, h2, h3⟩, hk => ⟨b, h1, hk.blk h2 (by omega) (by simp), h3⟩
  | _ + 9, _, _, _, _, _ => trivial
theorem run_atG {w W : World} {b B : Nat} {A0 A1 : Option Addr} {c0 c1 : Nat} {fs : List S37} {ls : List S39} {Al : Option Addr} {cl : Nat} {l : List S45} (h : StB w W b A0 c0 A1 c1 fs ls) (hB : B ≤ W.heap.size) (hs : SmallS fs ls) (hl : l.length ≤ 1000) (he : ∀ x ∈ l, SmallE x) (hr : Kd.C k45 W Al l.length l) (hc : l.length ≤ cl) :
    Calls Try.prog 22 #[.agg #[.slice A0 fs.length c0, .slice A1 ls.length c1], .slice Al l.length cl] W fun en W' => ∃ B0 d0 B1 d1 v2 v3, en = .returned (.tuple #[.agg #[.slice B0 (runF fs ls l).1.length d0, .slice B1 (runF fs ls l).2.1.length d1], v2, v3]) ∧
      Kd.R k37 37 W' B (fun _ => True) (.slice B0 (runF fs ls l).1.length d0) (runF fs ls l).1 ∧ Kd.R k39 39 W' B (fun _ => True) (.slice B1 (runF fs ls l).2.1.length d1) (runF fs ls l).2.1 ∧ Kd.R k61 61 W' B (fun _ => True) v2 (runF fs ls l).2.2.1 ∧ Below W.heap.size W W' :=
  (media_Run.calls (l.length + 1) A0 c0 fs A1 c1 ls Al cl l _ _ _ _ W h.r0 h.l0 h.r1 h.l1 hr hc (run_f fs ls l hs hl he)).mono fun en W' ⟨v0, v1, v2, v3, h1, hR0, hR1, hR2, _, hb⟩ => by
    obtain ⟨B0, d0, rfl⟩ := Kd.R_slice hR0
    obtain ⟨B1, d1, rfl⟩ := Kd.R_slice hR1
    exact ⟨B0, d0, B1, d1, v2, v3, h1, Kd.R_lower hR0 hB, Kd.R_lower hR1 hB, Kd.R_lower hR2 hB, hb⟩
theorem R_set {α : Type} {d : Kd α} {e base t ty : Nat} {ok : Nat → Prop} {v : Value} {xs : List α} {W W' : World} {cs : Array Value} (h : d.R e W base ok v xs) (ht : W.heap[t]? = some (.cells cs ty (0, 0))) (hn : ∀ q, q ∈ e :: d.E → q ≠ ty) (hk : KeepBut W W' t none) : d.R e W' base ok v xs :=
  Kd.R_mono (Kd.R_keep (Kd.R_types h ht hn) hk (fun _ h => h.2)) (fun _ h => h.1)
/-- What stands while the names are gone through. -/
def MrIs (w W : World) (bs bt bn : Nat) (A0 : Option Addr) (c0 : Nat) (A1 : Option Addr) (c1 : Nat) (fs : List S37) (ls : List S39) (T0 : Option Addr) (ct0 : Nat) (T1 : Option Addr) (ct1 : Nat) (nf : List S37) (nl : List S39) (A2 : Option Addr) (c2 : Nat) (os : List S61) : Prop :=
  StB w W bs A0 c0 A1 c1 fs ls ∧ StB w W bt T0 ct0 T1 ct1 nf nl ∧ Below w.heap.size w W ∧ W.heap[bn]? = some (.cells csN.toArray 9 (0, 0)) ∧ Kd.R k61 61 W w.heap.size (fun _ => True) (.slice A2 os.length c2) os
theorem MrIs.below {w W W1 bs bt bn A0 c0 A1 c1 fs ls T0 ct0 T1 ct1 nf nl A2 c2 os} (h : MrIs w W bs bt bn A0 c0 A1 c1 fs ls T0 ct0 T1 ct1 nf nl A2 c2 os) (hb : Below W.heap.size W W1) : MrIs w W1 bs bt bn A0 c0 A1 c1 fs ls T0 ct0 T1 ct1 nf nl A2 c2 os :=
  ⟨h.1.below hb, h.2.1.below hb, below_step h.2.2.1 hb, blk_below h.2.2.2.1 hb, Kd.R_below h.2.2.2.2 hb⟩
theorem StB.set {w W : World} {b t : Nat} {A0 A1 : Option Addr} {c0 c1 : Nat} {fs : List S37} {ls : List S39} {cs : Array Value} (h : StB w W b A0 c0 A1 c1 fs ls) (hb : b ≠ t) (ht : W.heap[t]? = some (.cells cs 30 (0, 0))) (u v : Value) : StB w ((W.setCell ⟨t, 0, none⟩ u).setCell ⟨t, 1, none⟩ v) b A0 c0 A1 c1 fs ls :=
  have hk : KeepBut W ((W.setCell ⟨t, 0, none⟩ u).setCell ⟨t, 1, none⟩ v) t none := ((KeepBut.refl _ _ _).set_ 0 u).set_ 1 v
  ⟨hk.blk h.1 hb (by simp), R_set h.2.1 ht (by decide) hk, R_set h.2.2 ht (by decide) hk⟩
set_option maxHeartbeats 4000000 in
set_option maxRecDepth 100000 in
theorem mediaReports_walk (a0 : Option Addr) (len0 cap0 : Nat) (z0 : List Int) (w : World) (w0 : (a0 = none ∧ len0 = 0 ∧ cap0 = 0 ∧ z0 = []) ∨ ∃ x, a0 = some x ∧ len0 ≤ cap0 ∧ cap0 ≤ maxLen ∧ z0.length = cap0 ∧ (∀ i, i < z0.length → w.cell? (x.add i) = some (.int .i64 (z0.getD i 0))) ∧ ∀ n ∈ z0, (Lit.int .i64 n).wf = true) (y0 : len0 * 8 ≤ 140737488351232) :
    Calls Try.prog 7 #[.slice a0 len0 cap0] w fun e w' => e = .returned (.bool true) ∧ Below w.heap.size w w' := by
  obtain ⟨l0, rfl, hr0, hm0, hw0, hc0⟩ := ReadsInt.ofRowC w0
  have HR := Aside0.mk (Kd.C_of_reads (d := (0 : Int)) (h1 := fun _ => rfl) hr0)
  clear w0 hr0
  have hu30 := Try.underlying30
  have hu45 := Try.underlying45
  have hu61 := Try.underlying61
  go_enter Try.func7, Try.ntmps7
  go_wp2_with fail
  refine (made_calls a0 cap0 l0 6 w HR.out hc0 (by omega)).mono ?_
  rintro e w3 ⟨v0, v1, g, l, rfl, t, hl, hg, hR0, hR1, ht0, ht1, hI, hB⟩
  have hbase := made_base l (by omega) hg
  have hsm := small_le (made_all l hg)
  generalize (runW [] [] l).1 = fs at hR0 hbase hsm
  generalize (runW [] [] l).2.1 = ls at hR1 hbase hsm
  obtain ⟨A0, c0, rfl⟩ := Kd.R_slice hR0
  obtain ⟨A1, c1, rfl⟩ := Kd.R_slice hR1
  have HS := Aside0.mk (StB.new hR0 hR1)
  have HV := Aside0.mk hbase.valid
  have HSM := Aside0.mk hsm
  have hgs : w3.heap.size ≠ g := by have := hI.lt; omega
  have hge : w.heap.size ≤ g := hI.ge
  have HB := Aside0.mk (below_alloc hB (.cells #[.slice A0 fs.length c0, .slice A1 ls.length c1] 30))
  have HI := Aside0.mk (hI.alloc (.cells #[.slice A0 fs.length c0, .slice A1 ls.length c1] 30))
  clear hR0 hR1 hI hB hbase hsm hg hl l HR
  go_wp2_with fail
  obtain ⟨bs, hbs⟩ : ∃ b, b = w3.heap.size := ⟨_, rfl⟩
  obtain ⟨w4, hw4⟩ : ∃ w', w' = w3.alloc (.cells #[.slice A0 fs.length c0, .slice A1 ls.length c1] 30) := ⟨_, rfl⟩
  rw [← hw4, ← hbs] at HS
  rw [← hw4] at HB HI
  rw [← hbs] at hgs
  rw [← hw4, ← hbs]
  clear hw4 hbs w3
  refine par4_ (n := 12) [(0, some 19), (1, some 20), (2, some 21), (3, some 22), (4, some 18), (5, some 23), (6, some 24), (7, some 25), (8, some 5)] [6, 7] [2] (fun n W => StB w W bs A0 c0 A1 c1 fs ls ∧ Below w.heap.size w W ∧ ∃ t : Int, 0 ≤ t ∧ t ≤ 1000 + 1000 * n ∧ IsS65 w W g l0 t) #[true, true, true, true, true, true, true, true, true, false, false, false] 3 (fun W W' => KeepBut W W' g none) (mrPhi g bs (.agg #[.slice A0 fs.length c0, .slice A1 ls.length c1]) fs ls) (by kernel_rfl) rfl (by kernel_rfl) (fun _ _ _ d _ h => by cases d <;> exact h) (fun _ => KeepBut.refl _ _ _) (fun _ _ _ h1 h2 => h1.trans h2 (.inl rfl)) mrPhi_keep ?_ ⟨HS.out.below (below_drew (Below.refl _ _)), below_drew HB.out, t, ht0, by simpa using ht1, HI.out.drew⟩ ?_ ?_ ?_
  · intro i v v' W h hp
    match i with
    | 0 => exact (h 0 rfl).symm.trans hp
    | 1 => exact (h 1 rfl).symm.trans hp
    | 2 => obtain ⟨l, Al, cl, h1, h2⟩ := hp; exact ⟨l, Al, cl, (h 2 rfl).symm.trans h1, h2⟩
    | 3 => obtain ⟨A, v2, v3, h1, h2⟩ := hp; exact ⟨A, v2, v3, (h 3 rfl).symm.trans h1, h2⟩
    | 4 => obtain ⟨A, v2, v3, h1, h2⟩ := hp; exact ⟨A, v2, v3, (h 4 rfl).symm.trans h1, h2⟩
    | 5 => obtain ⟨v2, v3, h1⟩ := hp; exact ⟨v2, v3, by rw [← h 4 (by kernel_rfl), ← h 5 rfl]; exact h1⟩
    | 6 => obtain ⟨A, v3, h1⟩ := hp; exact ⟨A, v3, by rw [← h 4 (by kernel_rfl), ← h 6 rfl]; exact h1⟩
    | 7 => obtain ⟨A, v2, h1⟩ := hp; exact ⟨A, v2, by rw [← h 4 (by kernel_rfl), ← h 7 rfl]; exact h1⟩
    | 8 => obtain ⟨b, h1, h2⟩ := hp; exact ⟨b, (h 8 rfl).symm.trans h1, h2⟩
    | j + 9 => trivial
  · intro i hi hF
    simp only [List.map_cons, List.map_nil, List.mem_cons, List.not_mem_nil, or_false] at hi hF
    rcases hi with rfl | rfl | rfl | rfl | rfl | rfl | rfl | rfl | rfl
    · intro o ho b W v n hJ hn hR dep oth
      obtain rfl := Option.some.inj ho
      have e1 := ev_tmp (oth 3 (by kernel_rfl))
      have hx0 := hJ.1.g0
      have hx1 := hJ.1.g1
      refine d_value (R := fun W W' => KeepBut W W' g none) (i := 0) (Φ := mrPhi g bs _ fs ls) (x := .agg #[.slice A0 fs.length c0, .slice A1 ls.length c1]) (W' := W) ?_ (KeepBut.refl _ _ _) (upd_at _ _ _) hJ
      replace e1 : b.tmps[3]?.getD undef = .pointer (some ⟨bs, 0, none⟩) := e1
      go_simp
    · intro o ho b W v n hJ hn hR dep oth
      obtain rfl := Option.some.inj ho
      exact d_value (R := fun W W' => KeepBut W W' g none) (i := 1) (Φ := mrPhi g bs _ fs ls) rfl (KeepBut.refl _ _ _) ((upd_at _ _ _).trans (oth 4 (by kernel_rfl))) hJ
    · intro o ho b W v n hJ hn hR dep oth
      obtain rfl := Option.some.inj ho
      obtain ⟨h1, h2⟩ := dep 1 20 rfl (by kernel_rfl)
      have e1 : b.eval (.tmp 20) = .pointer (some ⟨g, 0, none⟩) := h1.trans h2
      have hn0 : n = 0 := by have : n + 1 ≤ 1 := hn; omega
      subst hn0
      obtain ⟨hS, hB, t', ht0', ht1', hI⟩ := hJ
      refine d_call (R := fun W W' => KeepBut W W' g none) (i := 2) (Φ := mrPhi g bs _ fs ls) Try.func17 (by kernel_rfl) rfl #[.pointer (some ⟨g, 0, none⟩), .int .i64 12] rfl (by rw [← e1]; simp [Act.eval]) ((events_calls g l0 t' 12 w W hI hB ht0' (by simp at ht1'; omega) (by omega)).mono ?_)
      rintro e W' ⟨x, he, l, t2, hl, hg, h20, h21, hRl, hI2, hB2, hK2⟩
      obtain ⟨Al, cl, rfl⟩ := Kd.R_slice hRl
      refine ⟨_, he, hK2, ⟨l, Al, cl, upd_at _ _ _, by omega, hg, Kd.R_lower hRl hI.lt⟩, hS.keep hK2 hgs hI, hB2, t2, h20, ?_, hI2⟩
      simp at ht1' h21 ⊢
      omega
    · intro o ho b W v n hJ hn hR dep oth
      obtain rfl := Option.some.inj ho
      obtain ⟨h1, h2⟩ := dep 0 19 rfl (by kernel_rfl)
      obtain ⟨h3, l, Al, cl, h4, hl, hg, hRl⟩ := dep 2 21 rfl (by kernel_rfl)
      have e1 : b.eval (.tmp 19) = .agg #[.slice A0 fs.length c0, .slice A1 ls.length c1] := h1.trans h2
      have e2 : b.eval (.tmp 21) = .slice Al l.length cl := h3.trans h4
      obtain ⟨hS, hB, t', ht0', ht1', hI⟩ := hJ
      refine d_call (R := fun W W' => KeepBut W W' g none) (i := 3) (Φ := mrPhi g bs _ fs ls) Try.func22 (by kernel_rfl) rfl #[.agg #[.slice A0 fs.length c0, .slice A1 ls.length c1], .slice Al l.length cl] rfl (by rw [← e1, ← e2]; simp [Act.eval]) ((run_atG (B := g + 1) hS hI.lt HSM.out (by omega) (fun x hx => goodE_small (hg x hx)) (Kd.R_reads' hRl).2.2 (Kd.R_reads' hRl).2.1).mono ?_)
      rintro e W' ⟨T0, ct0, T1, ct1, v2, v3, he, hR0, hR1, hR2, hb⟩
      exact ⟨_, he, KeepBut.of_below hb g none, ⟨_, v2, v3, upd_at _ _ _, l, T0, ct0, T1, ct1, hl, hg, rfl, hR0, hR1, hR2⟩, hS.below hb, below_step hB hb, t', ht0', ht1', hI.below hb⟩
    · intro o ho b W v n hJ hn hR dep oth
      obtain rfl := Option.some.inj ho
      obtain ⟨h1, A, v2, v3, h2, h3⟩ := dep 3 22 rfl (by kernel_rfl)
      exact d_value (R := fun W W' => KeepBut W W' g none) (i := 4) (Φ := mrPhi g bs _ fs ls) rfl (KeepBut.refl _ _ _) ⟨A, v2, v3, (upd_at _ _ _).trans (h1.trans h2), h3⟩ hJ
    · intro o ho b W v n hJ hn hR dep oth
      obtain rfl := Option.some.inj ho
      obtain ⟨h1, A, v2, v3, h2, h3⟩ := dep 4 18 rfl (by kernel_rfl)
      have e1 := ev_tmp (h1.trans h2)
      refine d_value (R := fun W W' => KeepBut W W' g none) (i := 5) (Φ := mrPhi g bs _ fs ls) (x := A) (W' := W) ?_ (KeepBut.refl _ _ _) ⟨v2, v3, by rw [upd_at, upd_ne (by decide)]; exact h2⟩ hJ
      go_simp
    · exact absurd (Or.inl rfl) hF
    · exact absurd (Or.inr rfl) hF
    · intro o ho b W v n hJ hn hR dep oth
      obtain rfl := Option.some.inj ho
      obtain ⟨hS, hB, t', ht0', ht1', hI⟩ := hJ
      exact d_value (R := fun W W' => KeepBut W W' g none) (i := 8) (Φ := mrPhi g bs _ fs ls) (x := .pointer (some ⟨W.heap.size, 0, none⟩)) (W' := W.alloc (.cells #[.slice none 0 0, .slice none 0 0] 30)) (by go_simp) (keep_alloc (KeepBut.refl _ _ _) _) ⟨_, upd_at _ _ _, blk_new _ _, hI.lt, by have := blk_lt hS.1; omega⟩ ⟨hS.below (below_alloc (Below.refl _ _) _), below_alloc hB _, t', ht0', ht1', hI.alloc _⟩
  · intro i hi
    simp only [List.mem_cons, List.not_mem_nil, or_false] at hi
    rcases hi with rfl | rfl
    · intro o ho b W v hR dep oth
      obtain rfl := Option.some.inj ho
      obtain ⟨h1, A, v2, v3, h2, h3⟩ := dep 4 18 rfl (by kernel_rfl)
      have e1 := ev_tmp (h1.trans h2)
      exact ⟨v2, fun w' => by go_simp, A, v3, by rw [upd_at, upd_ne (by decide)]; exact h2⟩
    · intro o ho b W v hR dep oth
      obtain rfl := Option.some.inj ho
      obtain ⟨h1, A, v2, v3, h2, h3⟩ := dep 4 18 rfl (by kernel_rfl)
      have e1 := ev_tmp (h1.trans h2)
      exact ⟨v3, fun w' => by go_simp, A, v2, by rw [upd_at, upd_ne (by decide)]; exact h2⟩
  · intro v W hk hv hJ
    have h4 := hv 4 (by decide)
    have h5 := hv 5 (by decide)
    have h6 := hv 6 (by decide)
    have h8 := hv 8 (by decide)
    obtain ⟨A, v2, v3, h4, l, T0, ct0, T1, ct1, hl, hg, rfl, hR0, hR1, hR2⟩ := h4
    obtain ⟨q2, q3, h5⟩ := h5
    obtain ⟨qA, q4, h6⟩ := h6
    rw [h4] at h5 h6
    injection h5 with h5
    injection h6 with h6
    have ev5 : v 5 = .agg #[.slice T0 (runF fs ls l).1.length ct0, .slice T1 (runF fs ls l).2.1.length ct1] := by simp at h5; exact h5.1.symm
    have ev6 : v 6 = v2 := by simp at h6; exact h6.2.1.symm
    obtain ⟨bt, ev8, hbt, hgt, hne⟩ := h8
    obtain ⟨hS, hB, t', ht0', ht1', hI⟩ := hJ
    clear hv hk h4 h5 h6 ht0' ht1' hI ht0 ht1
    obtain ⟨nf, hnf⟩ : ∃ x, x = (runF fs ls l).1 := ⟨_, rfl⟩
    obtain ⟨nl, hnl⟩ : ∃ x, x = (runF fs ls l).2.1 := ⟨_, rfl⟩
    obtain ⟨os, hos⟩ : ∃ x, x = (runF fs ls l).2.2.1 := ⟨_, rfl⟩
    have HF := Aside0.mk (show ∀ n, foll n os (statusV fs ls n) = some (statusV nf nl n) by intro n; rw [hnf, hnl, hos]; exact run_foll n fs ls l HV.out)
    rw [← hnf] at hR0 ev5
    rw [← hnl] at hR1 ev5
    rw [← hos] at hR2
    clear hnf hnl hos hg hl
    obtain ⟨A2, c2, rfl⟩ := Kd.R_slice hR2
    have HS1 := Aside0.mk (hS.set (t := bt) (fun h => hne h.symm) hbt (.slice T0 nf.length ct0) (.slice T1 nl.length ct1))
    have hkk : KeepBut W ((W.setCell ⟨bt, 0, none⟩ (.slice T0 nf.length ct0)).setCell ⟨bt, 1, none⟩ (.slice T1 nl.length ct1)) bt none := ((KeepBut.refl _ _ _).set_ 0 _).set_ 1 _
    have hsz := hB.size
    have HT1 : Aside0 (StB w ((W.setCell ⟨bt, 0, none⟩ (.slice T0 nf.length ct0)).setCell ⟨bt, 1, none⟩ (.slice T1 nl.length ct1)) bt T0 ct0 T1 ct1 nf nl) := ⟨⟨blk_put (blk_put hbt 0 _ rfl) 1 _ rfl, R_set (Kd.R_lower hR0 (by omega)) hbt (by decide) hkk, R_set (Kd.R_lower hR1 (by omega)) hbt (by decide) hkk⟩⟩
    have HO1 := Aside0.mk (R_set (Kd.R_lower hR2 (show w.heap.size ≤ g + 1 by omega)) hbt (by decide) hkk)
    have HB1 : Aside0 (Below w.heap.size w ((W.setCell ⟨bt, 0, none⟩ (.slice T0 nf.length ct0)).setCell ⟨bt, 1, none⟩ (.slice T1 nl.length ct1))) := Aside0.mk (below_set (j := 1) (v := .slice T1 nl.length ct1) (below_set (j := 0) (v := .slice T0 nf.length ct0) hB (show w.heap.size ≤ bt by omega)) (by omega))
    have he0 : W.cell? ⟨bt, 0, none⟩ = some (.slice none 0 0) := (blk_cell hbt 0).trans rfl
    have he1 : W.cell? ⟨bt, 1, none⟩ = some (.slice none 0 0) := (blk_cell hbt 1).trans rfl
    have hf0 := blk_frozen hbt 0
    have hf1 := blk_frozen hbt 1
    have hlt := blk_lt hbt
    clear hS hR0 hR1 hR2 hkk hB HS HB HI
    simp only [fillE, Act.put, List.setIfInBounds_toArray, List.set_cons_zero, List.set_cons_succ, ev5, ev6, ev8]
    refine one_ (i := 9) (N := none) #[true, true, true, true, true, true, true, true, true, true, false, false] rfl rfl (by kernel_rfl) (by decide) (fun K hK => ?_)
    refine skip_ (w1 := ?_) (by rfl) rfl ?_ ?_
    rotate_left
    · go_simp
      rfl
    refine hK.out _ _ trivial (fun _ => ?_)
    clear hK K he0 he1 hf0 hf1 hlt hbt
    obtain ⟨W1, hW1⟩ : ∃ W', W' = (W.setCell ⟨bt, 0, none⟩ (.slice T0 nf.length ct0)).setCell ⟨bt, 1, none⟩ (.slice T1 nl.length ct1) := ⟨_, rfl⟩
    rw [← hW1] at HS1 HT1 HO1 HB1 ⊢
    clear hW1
    refine plan_ [(10, 6, false), (11, 7, false)] ?_
    repeat (
     refine plan_pure (v := ?_) (a' := ?_) rfl rfl (by kernel_rfl) (Or.inl ⟨by rfl, ?_⟩) ?_ ?_ (fun _ _ _ h => h)
     rotate_left
     · intro w'
       go_simp
       with_reducible rfl
     rotate_left
     · simp only [Act.put, List.setIfInBounds_toArray, List.set_cons_zero, List.set_cons_succ]
       rfl)
    refine plan_end ?_
    refine done_ (by kernel_rfl) ?_
    clear ev5 ev6 ev8
    go_wp2_with fail
    obtain ⟨W2, hW2⟩ : ∃ W', W' = W1.alloc (.cells csN.toArray 9) := ⟨_, rfl⟩
    have hbw : Below W1.heap.size W1 W2 := hW2 ▸ below_alloc (Below.refl _ _) _
    have HL_ : Aside0 (MrIs w W2 bs bt W1.heap.size A0 c0 A1 c1 fs ls T0 ct0 T1 ct1 nf nl A2 c2 os) := ⟨⟨HS1.out.below hbw, HT1.out.below hbw, below_step HB1.out hbw, by rw [hW2]; exact blk_new _ _, Kd.R_below HO1.out hbw⟩⟩
    change Code.wp _ _ _ _ (W1.alloc (.cells csN.toArray 9))
    rw [← hW2]
    obtain ⟨bn, hbn⟩ : ∃ b, b = W1.heap.size := ⟨_, rfl⟩
    rw [← hbn] at HL_ ⊢
    clear hW2 hbw hbn HS1 HT1 HO1 HB1
    go_loopw [28] (fun i wr => ∃ k : Nat, k ≤ 5 ∧ i = .int .i64 k ∧ Aside0 (MrIs w wr bs bt bn A0 c0 A1 c1 fs ls T0 ct0 T1 ct1 nf nl A2 c2 os)) (fun i _ => 5 - (intOf i).toNat)
    case atStart => exact ⟨0, by omega, rfl, HL_⟩
    case round =>
      clear HL_ W1 W2
      obtain ⟨k, hk, rfl, HL_⟩ := hrel
      by_cases hlt : k < 5
      · obtain ⟨u, hu, nm, rfl, _⟩ := arr_at csN_ok k hlt
        have hn : wr.cell? ⟨bn, k, none⟩ = some (.string nm) := (blk_cell HL_.out.2.2.2.1 k).trans hu
        have hx0 := HL_.out.1.g0
        have hx1 := HL_.out.1.g1
        clear hu
        go_wp2_with fail
        obtain ⟨s0, hs0⟩ : ∃ s, s = statusV fs ls nm := ⟨_, rfl⟩
        obtain ⟨s1, hs1⟩ : ∃ s, s = statusV nf nl nm := ⟨_, rfl⟩
        have HN := Aside0.mk (HF.out nm)
        rw [← hs0, ← hs1] at HN
        have HN := Aside0.mk HN.out
        refine (status_to (m := nm) HL_.out.1 hs0.symm).mono ?_
        rintro e wa ⟨rfl, hb⟩
        replace HL_ := Aside0.mk (HL_.out.below hb)
        have HS1 := Aside0.mk hs1.symm
        clear hs0 hs1 hb hx0 hx1 hn wr
        have hlen : os.length ≤ 9223372036854775807 := (Kd.R_reads' HL_.out.2.2.2.2).2.2.2.1
        go_wp2_with fail
        go_loopw [10, 37] (fun sv i wr => ∃ (j : Nat) (st : Int), j ≤ os.length ∧ i = .int .i64 j ∧ sv = .int .i64 st ∧ Aside0 (foll nm (os.drop j) st = some s1) ∧ Aside0 (MrIs w wr bs bt bn A0 c0 A1 c1 fs ls T0 ct0 T1 ct1 nf nl A2 c2 os)) (fun _ i _ => os.length - (intOf i).toNat)
        case atStart => exact ⟨0, s0, by omega, rfl, rfl, HN, HL_⟩
        case round =>
          clear HL_ wa
          obtain ⟨j, st, hj, rfl, rfl, HN, HL_⟩ := hrel
          by_cases hjl : j < os.length
          · obtain ⟨ad, e1, hy0, hy1⟩ := at_T61 (Kd.R_reads' HL_.out.2.2.2.2).2.2 (j : Int) (by omega) (by omega)
            cases e1
            rw [Int.toNat_natCast] at hy0 hy1
            obtain ⟨x, hx⟩ : ∃ x, x = os[j]'hjl := ⟨_, rfl⟩
            have hrd : rd_T61 os (j : Int) = x := by rw [hx]; simp [rd_T61, List.getD, hjl]
            rw [hrd] at hy0 hy1
            have hd : os.drop j = x :: os.drop (j + 1) := by rw [hx]; exact List.drop_eq_getElem_cons hjl
            have HM := Aside0.mk HN.out
            rw [hd] at HM
            unfold foll at HM
            have p1 : (0 ≤ (j : Int)) = True := eq_true (by omega)
            have q1 : ((j : Int) < (os.length : Int)) = True := eq_true (by omega)
            replace HL_ := Aside0.mk (HL_.out.below (below_alloc (Below.refl _ _) (.cells #[.string x.f0, .int .i64 x.f1] 61)))
            clear hx hrd hd HN
            by_cases hnm : x.f0.toList = nm.toList
            · have bnm : (x.f0.toList == nm.toList) = true := by simp [hnm]
              replace HM := Aside0.mk (HM.out.symm.trans (if_pos hnm)).symm
              by_cases hst : x.f1 = st
              · have := HM.out.symm.trans (if_pos hst)
                cases this
              · have bst : (x.f1 == st) = false := by simp [hst]
                replace HM := Aside0.mk ((if_neg hst).symm.trans HM.out)
                go_wp2
                go_roundw
                case rel => exact ⟨j + 1, x.f1, by omega, by go_num, rfl, HM, HL_⟩
                case measure => simp [intOf]; omega
            · have bnm : (x.f0.toList == nm.toList) = false := by simp [hnm]
              replace HM := Aside0.mk ((if_neg hnm).symm.trans HM.out)
              go_wp2
              go_roundw
              case rel => exact ⟨j + 1, st, by omega, by go_num, rfl, HM, HL_⟩
              case measure => simp [intOf]; omega
          · obtain rfl : j = os.length := by omega
            rw [List.drop_length] at HN
            obtain rfl := Option.some.inj HN.out
            have hz0 := HL_.out.2.1.g0
            have hz1 := HL_.out.2.1.g1
            go_wp2_with fail
            refine (status_to (m := nm) HL_.out.2.1 HS1.out).mono ?_
            rintro e wb ⟨rfl, hb⟩
            replace HL_ := Aside0.mk (HL_.out.below hb)
            clear hb
            go_wp2
            go_roundw
            case rel => exact ⟨k + 1, by omega, by go_num, HL_⟩
            case measure => simp [intOf]; omega
      · obtain rfl : k = 5 := by omega
        go_wp2_with fail
        refine (awake_at wr).mono ?_
        rintro e wz ⟨rfl, hb⟩
        have HZ := Aside0.mk (below_step HL_.out.2.2.1 hb)
        clear hb
        go_wp2
        go_ret
        exact ⟨rfl, HZ.out⟩

end Go.Proofs.Ytpnhkmicepmciaa.Y

/- A part of this claim's walks: functions' contracts, or plain lemmas; conditions: each one's own. -/
import Derived.Test.YtpnhkmicepmciaaRup
import Derived.Outline
import Derived.Deep.CutBlock
namespace Go.Proofs.Ytpnhkmicepmciaa.Y
open Go.RowKit Go.Proofs.YtpnhkmicepmciaaW.PrintWords Go.Proofs.YtpnhkmicepmciaaW.PrintLast Go.Proofs.YtpnhkmicepmciaaW.PrintMore
set_option linter.unusedVariables false
set_option linter.unusedSimpArgs false
open Go.Proofs.Ytpnhkmicepmciaa.Par
attribute [local go_sem] max2_int min2_int max_two min_two max_three min_three max_four min_four
theorem R_keepM {α : Type} {d : Kd α} {e base g : Nat} {ok : Nat → Prop} {v : Value} {xs : List α} {W W' : World} (h : d.R e W base ok v xs) (hk : KeepBut W W' g none) (hg : g < base) : d.R e W' base ok v xs :=
  Kd.R_mono (Kd.R_keep (Kd.R_bound h) hk (fun k h => by have := h.2.1; omega)) (fun _ h => h.1)
/-- A state's value, as it reads. -/
def StV (W : World) (X0 : Option Addr) (c0 : Nat) (X1 : Option Addr) (c1 : Nat) (fs : List S37) (ls : List S39) : Prop :=
  Kd.C k37 W X0 fs.length fs ∧ fs.length ≤ c0 ∧ Kd.C k39 W X1 ls.length ls ∧ ls.length ≤ c1
theorem StV.below {W W1 X0 c0 X1 c1 fs ls} (h : StV W X0 c0 X1 c1 fs ls) (hb : Below W.heap.size W W1) : StV W1 X0 c0 X1 c1 fs ls := ⟨Kd.C_below h.1 hb, h.2.1, Kd.C_below h.2.2.1 hb, h.2.2.2⟩
theorem StV.ofR {W : World} {base base' : Nat} {X0 X1 : Option Addr} {c0 c1 : Nat} {fs : List S37} {ls : List S39} (h0 : Kd.R k37 37 W base (fun _ => True) (.slice X0 fs.length c0) fs) (h1 : Kd.R k39 39 W base' (fun _ => True) (.slice X1 ls.length c1) ls) : StV W X0 c0 X1 c1 fs ls :=
  ⟨(Kd.R_reads' h0).2.2, (Kd.R_reads' h0).2.1, (Kd.R_reads' h1).2.2, (Kd.R_reads' h1).2.1⟩
theorem StV.nil (W : World) : StV W none 0 none 0 [] [] := ⟨Kd.C_nil _ _, Nat.le_refl _, Kd.C_nil _ _, Nat.le_refl _⟩
/-- A state in a variable's block. -/
def StC (W : World) (b : Nat) (X0 : Option Addr) (c0 : Nat) (X1 : Option Addr) (c1 : Nat) (fs : List S37) (ls : List S39) : Prop :=
  W.heap[b]? = some (.cells #[.slice X0 fs.length c0, .slice X1 ls.length c1] 30 (0, 0)) ∧ StV W X0 c0 X1 c1 fs ls
theorem StC.below {W W1 b X0 c0 X1 c1 fs ls} (h : StC W b X0 c0 X1 c1 fs ls) (hb : Below W.heap.size W W1) : StC W1 b X0 c0 X1 c1 fs ls := ⟨blk_below h.1 hb, h.2.below hb⟩
theorem StC.new {W X0 c0 X1 c1 fs ls} (h : StV W X0 c0 X1 c1 fs ls) : StC (W.alloc (.cells #[.slice X0 fs.length c0, .slice X1 ls.length c1] 30)) W.heap.size X0 c0 X1 c1 fs ls := ⟨blk_new _ _, h.below (below_alloc (Below.refl _ _) _)⟩
theorem StC.g0 {W b X0 c0 X1 c1 fs ls} (h : StC W b X0 c0 X1 c1 fs ls) : W.cell? ⟨b, 0, none⟩ = some (.slice X0 fs.length c0) := (blk_cell h.1 0).trans rfl
theorem StC.g1 {W b X0 c0 X1 c1 fs ls} (h : StC W b X0 c0 X1 c1 fs ls) : W.cell? ⟨b, 1, none⟩ = some (.slice X1 ls.length c1) := (blk_cell h.1 1).trans rfl
def evA (e : S45) : Array Value := #[.int .i64 e.f0, .string e.f1, .string e.f2, .string e.f3, .int .u64 e.f4]
theorem step_c {W : World} {X0 X1 : Option Addr} {c0 c1 : Nat} {fs : List S37} {ls : List S39} {e : S45} (h : StV W X0 c0 X1 c1 fs ls) (hs : SmallS fs ls) (he : SmallE e) {nf : List S37} {nl : List S39} {o : List S61} {n : Int} (hq : stepW fs ls e = (nf, nl, o, n)) :
    Calls Try.prog 18 #[.agg #[.slice X0 fs.length c0, .slice X1 ls.length c1], .agg #[.int .i64 e.f0, .string e.f1, .string e.f2, .string e.f3, .int .u64 e.f4]] W fun en W' => ∃ B0 d0 B1 d1 Ao co, en = .returned (.tuple #[.agg #[.slice B0 nf.length d0, .slice B1 nl.length d1], .slice Ao o.length co, .int .i64 n]) ∧
      StV W' B0 d0 B1 d1 nf nl ∧ Kd.C k61 W' Ao o.length o ∧ o.length ≤ co ∧ Below W.heap.size W W' :=
  (media_Step.calls X0 c0 fs X1 c1 ls e.f0 e.f1 e.f2 e.f3 e.f4 _ _ _ _ W h.1 h.2.1 h.2.2.1 h.2.2.2 ((step_f hs he).trans (congrArg some hq))).mono fun en W' ⟨v0, v1, v2, h1, hR0, hR1, hR2, hb⟩ => by
    obtain ⟨B0, d0, rfl⟩ := Kd.R_slice hR0
    obtain ⟨B1, d1, rfl⟩ := Kd.R_slice hR1
    obtain ⟨Ao, co, rfl⟩ := Kd.R_slice hR2
    exact ⟨B0, d0, B1, d1, Ao, co, h1, StV.ofR hR0 hR1, (Kd.R_reads' hR2).2.2, (Kd.R_reads' hR2).2.1, hb⟩
theorem rstep_c {W : World} {X0 X1 : Option Addr} {c0 c1 : Nat} {fs : List S37} {ls : List S39} {e : S45} (h : StV W X0 c0 X1 c1 fs ls) (hs : SmallS fs ls) (he : SmallE e) {nf : List S37} {nl : List S39} {o : List S61} {n : Int} (hq : stepW fs ls e = (nf, nl, o, n)) :
    Calls Try.prog 19 #[.agg #[.slice X0 fs.length c0, .slice X1 ls.length c1], .agg #[.int .i64 e.f0, .string e.f1, .string e.f2, .string e.f3, .int .u64 e.f4]] W fun en W' => ∃ B0 d0 B1 d1 Ao co, en = .returned (.tuple #[.agg #[.slice B0 nf.length d0, .slice B1 nl.length d1], .slice Ao o.length co, .int .i64 n]) ∧
      StV W' B0 d0 B1 d1 nf nl ∧ Kd.C k61 W' Ao o.length o ∧ o.length ≤ co ∧ Below W.heap.size W W' :=
  (cutroomref36_Step.calls X0 c0 fs X1 c1 ls e.f0 e.f1 e.f2 e.f3 e.f4 _ _ _ _ W h.1 h.2.1 h.2.2.1 h.2.2.2 ((ref_step_f hs he).trans (congrArg some hq))).mono fun en W' ⟨v0, v1, v2, h1, hR0, hR1, hR2, hb⟩ => by
    obtain ⟨B0, d0, rfl⟩ := Kd.R_slice hR0
    obtain ⟨B1, d1, rfl⟩ := Kd.R_slice hR1
    obtain ⟨Ao, co, rfl⟩ := Kd.R_slice hR2
    exact ⟨B0, d0, B1, d1, Ao, co, h1, StV.ofR hR0 hR1, (Kd.R_reads' hR2).2.2, (Kd.R_reads' hR2).2.1, hb⟩
theorem run_c {W : World} {X0 X1 E0 : Option Addr} {c0 c1 ce : Nat} {fs : List S37} {ls : List S39} {l : List S45} (h : StV W X0 c0 X1 c1 fs ls) (hs : SmallS fs ls) (hl : l.length ≤ 1000) (he : ∀ x ∈ l, SmallE x) (hE : Kd.C k45 W E0 l.length l) (hc : l.length ≤ ce)
    {nf : List S37} {nl : List S39} {o : List S61} {es : List Int} (hq : runF fs ls l = (nf, nl, o, es)) :
    Calls Try.prog 22 #[.agg #[.slice X0 fs.length c0, .slice X1 ls.length c1], .slice E0 l.length ce] W fun en W' => ∃ B0 d0 B1 d1 Ao co Ae cE, en = .returned (.tuple #[.agg #[.slice B0 nf.length d0, .slice B1 nl.length d1], .slice Ao o.length co, .slice Ae es.length cE]) ∧
      StV W' B0 d0 B1 d1 nf nl ∧ (Kd.C k61 W' Ao o.length o ∧ o.length ≤ co) ∧ (Kd.C (Kd.int .i64) W' Ae es.length es ∧ es.length ≤ cE) ∧ Below W.heap.size W W' :=
  (media_Run.calls (l.length + 1) X0 c0 fs X1 c1 ls E0 ce l _ _ _ _ W h.1 h.2.1 h.2.2.1 h.2.2.2 hE hc ((run_f fs ls l hs hl he).trans (congrArg some hq))).mono fun en W' ⟨v0, v1, v2, v3, h1, hR0, hR1, hR2, hR3, hb⟩ => by
    obtain ⟨B0, d0, rfl⟩ := Kd.R_slice hR0
    obtain ⟨B1, d1, rfl⟩ := Kd.R_slice hR1
    obtain ⟨Ao, co, rfl⟩ := Kd.R_slice hR2
    obtain ⟨Ae, cE, rfl⟩ := Kd.R_slice hR3
    exact ⟨B0, d0, B1, d1, Ao, co, Ae, cE, h1, StV.ofR hR0 hR1, ⟨(Kd.R_reads' hR2).2.2, (Kd.R_reads' hR2).2.1⟩, ⟨(Kd.R_reads' hR3).2.2, (Kd.R_reads' hR3).2.1⟩, hb⟩
theorem rrun_c {W : World} {X0 X1 E0 : Option Addr} {c0 c1 ce : Nat} {fs : List S37} {ls : List S39} {l : List S45} (h : StV W X0 c0 X1 c1 fs ls) (hs : SmallS fs ls) (hl : l.length ≤ 1000) (he : ∀ x ∈ l, SmallE x) (hE : Kd.C k45 W E0 l.length l) (hc : l.length ≤ ce)
    {nf : List S37} {nl : List S39} {o : List S61} {es : List Int} (hq : runF fs ls l = (nf, nl, o, es)) :
    Calls Try.prog 23 #[.agg #[.slice X0 fs.length c0, .slice X1 ls.length c1], .slice E0 l.length ce] W fun en W' => ∃ B0 d0 B1 d1 Ao co Ae cE, en = .returned (.tuple #[.agg #[.slice B0 nf.length d0, .slice B1 nl.length d1], .slice Ao o.length co, .slice Ae es.length cE]) ∧
      StV W' B0 d0 B1 d1 nf nl ∧ (Kd.C k61 W' Ao o.length o ∧ o.length ≤ co) ∧ (Kd.C (Kd.int .i64) W' Ae es.length es ∧ es.length ≤ cE) ∧ Below W.heap.size W W' := by
  obtain ⟨K, hK⟩ := ref_run_g fs ls l h.1.2.1 h.2.2.1.2.1 hs hl he
  exact (cutroomref36_Run.calls K X0 c0 fs X1 c1 ls E0 ce l _ _ _ _ W h.1 h.2.1 h.2.2.1 h.2.2.2 hE hc (hK.trans (congrArg some hq))).mono fun en W' ⟨v0, v1, v2, v3, h1, hR0, hR1, hR2, hR3, hb⟩ => by
    obtain ⟨B0, d0, rfl⟩ := Kd.R_slice hR0
    obtain ⟨B1, d1, rfl⟩ := Kd.R_slice hR1
    obtain ⟨Ao, co, rfl⟩ := Kd.R_slice hR2
    obtain ⟨Ae, cE, rfl⟩ := Kd.R_slice hR3
    exact ⟨B0, d0, B1, d1, Ao, co, Ae, cE, h1, StV.ofR hR0 hR1, ⟨(Kd.R_reads' hR2).2.2, (Kd.R_reads' hR2).2.1⟩, ⟨(Kd.R_reads' hR3).2.2, (Kd.R_reads' hR3).2.1⟩, hb⟩
theorem same_c {W : World} {X0 X1 Y0 Y1 : Option Addr} {c0 c1 d0 d1 : Nat} {fs : List S37} {ls : List S39} (h : StV W X0 c0 X1 c1 fs ls) (h' : StV W Y0 d0 Y1 d1 fs ls) :
    Calls Try.prog 20 #[.agg #[.slice X0 fs.length c0, .slice X1 ls.length c1], .agg #[.slice Y0 fs.length d0, .slice Y1 ls.length d1]] W fun en W' => en = .returned (.bool true) ∧ Below W.heap.size W W' :=
  cutroomref36_Same.calls _ X0 c0 fs X1 c1 ls Y0 d0 fs Y1 d1 ls true W h.1 h.2.1 h.2.2.1 h.2.2.2 h'.1 h'.2.1 h'.2.2.1 h'.2.2.2 (same_f fs ls h.1.2.1 h.2.2.1.2.1)
theorem sameOuts_c {W : World} {X0 Y0 : Option Addr} {c0 d0 : Nat} {o : List S61} (h : Kd.C k61 W X0 o.length o) (h' : o.length ≤ c0) (k : Kd.C k61 W Y0 o.length o) (k' : o.length ≤ d0) :
    Calls Try.prog 21 #[.slice X0 o.length c0, .slice Y0 o.length d0] W fun en W' => en = .returned (.bool true) ∧ Below W.heap.size W W' :=
  (cutroomref36_SameOuts.calls _ X0 c0 o Y0 d0 o true W h h' k k' (sameOuts_f o h.2.1)).mono fun en W' ⟨h1, h2⟩ => ⟨h1, h2.below⟩
theorem errnos_c {W : World} {X0 Y0 : Option Addr} {c0 d0 : Nat} {o : List Int} (h : Kd.C (Kd.int .i64) W X0 o.length o) (h' : o.length ≤ c0) (k : Kd.C (Kd.int .i64) W Y0 o.length o) (k' : o.length ≤ d0) :
    Calls Try.prog 24 #[.slice X0 o.length c0, .slice Y0 o.length d0] W fun en W' => en = .returned (.bool true) ∧ Below W.heap.size W W' :=
  (cutroomlaw36_errnos.calls _ X0 c0 o Y0 d0 o true W h h' k k' (errnos_f o h.2.1)).mono fun en W' ⟨h1, h2⟩ => ⟨h1, h2.below⟩
theorem StB.keepM {w w0 W W1 : World} {b g : Nat} {A0 A1 : Option Addr} {c0 c1 : Nat} {fs : List S37} {ls : List S39} {xs : List Int} {t : Int} (h : StB w W b A0 c0 A1 c1 fs ls) (hk : KeepBut W W1 g none) (hb : b ≠ g) (hi : IsS65 w0 W g xs t) : StB w W1 b A0 c0 A1 c1 fs ls :=
  ⟨hk.blk h.1 hb (by simp), Kd.R_mono (Kd.R_keep (hi.apart h.2.1 (by decide)) hk (fun _ h => h.2)) (fun _ h => h.1), Kd.R_mono (Kd.R_keep (hi.apart h.2.2 (by decide)) hk (fun _ h => h.2)) (fun _ h => h.1)⟩
theorem StB.toC {w W : World} {b : Nat} {A0 A1 : Option Addr} {c0 c1 : Nat} {fs : List S37} {ls : List S39} (h : StB w W b A0 c0 A1 c1 fs ls) : StC W b A0 c0 A1 c1 fs ls := ⟨h.1, StV.ofR h.2.1 h.2.2⟩

end Go.Proofs.Ytpnhkmicepmciaa.Y

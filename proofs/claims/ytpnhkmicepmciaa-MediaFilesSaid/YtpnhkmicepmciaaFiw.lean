/- A part of the walk of MediaFiles: plain lemmas and contracts; conditions: each one own. -/
import Derived.Test.YtpnhkmicepmciaaFip
import Derived.Deep.CutBlock
namespace Go.Proofs.Ytpnhkmicepmciaa.Y
open Go.RowKit Go.Proofs.YtpnhkmicepmciaaW.PrintWords Go.Proofs.YtpnhkmicepmciaaW.PrintLast Go.Proofs.YtpnhkmicepmciaaW.PrintMore
set_option linter.unusedVariables false
set_option linter.unusedSimpArgs false
open Go.Proofs.Ytpnhkmicepmciaa.Par
attribute [local go_sem] max2_int min2_int max_two min_two max_three min_three max_four min_four
def evC (k : Int) (f : ByteArray) (s : Int) : Array Value := #[.int .i64 k, .string ⟨#[]⟩, .string f, .string ⟨#[]⟩, .int .u64 s]
/-- What stands in memory behind the choices: the state, the two events. -/
def FiIs (w W : World) (bs ba bb : Nat) (A0 : Option Addr) (c0 : Nat) (A1 : Option Addr) (c1 : Nat) (fs : List S37) (ls : List S39) (k0 s0 k1 s1 : Int) : Prop :=
  StB w W bs A0 c0 A1 c1 fs ls ∧ Below w.heap.size w W ∧ W.heap[ba]? = some (.cells (evC k0 f0n s0) 45 (0, 0)) ∧ W.heap[bb]? = some (.cells (evC k1 f1n s1) 45 (0, 0)) ∧ w.heap.size ≤ ba ∧ w.heap.size ≤ bb ∧ bs < ba ∧ ba < bb
def okK (k s : Int) : Prop := k = 1 ∨ k = 2 ∧ s = 0
theorem FiIs.below {w W W1 : World} {bs ba bb : Nat} {A0 A1 : Option Addr} {c0 c1 : Nat} {fs : List S37} {ls : List S39} {k0 s0 k1 s1 : Int} (h : FiIs w W bs ba bb A0 c0 A1 c1 fs ls k0 s0 k1 s1) (hb : Below W.heap.size W W1) : FiIs w W1 bs ba bb A0 c0 A1 c1 fs ls k0 s0 k1 s1 :=
  ⟨h.1.below hb, below_step h.2.1 hb, blk_below h.2.2.1 hb, blk_below h.2.2.2.1 hb, h.2.2.2.2⟩
theorem sF (k s : Int) (f : ByteArray) (hf : f.size ≤ 140737488351232) : SmallE ⟨k, ⟨#[]⟩, f, ⟨#[]⟩, s⟩ := ⟨(by decide : (⟨#[]⟩ : ByteArray).size ≤ 140737488351232), hf, (by decide : (⟨#[]⟩ : ByteArray).size ≤ 140737488351232)⟩
theorem sF2 (k s k' s' : Int) (f f' : ByteArray) (hf : f.size ≤ 140737488351232) (hf' : f'.size ≤ 140737488351232) : ∀ x ∈ [(⟨k, ⟨#[]⟩, f, ⟨#[]⟩, s⟩ : S45), ⟨k', ⟨#[]⟩, f', ⟨#[]⟩, s'⟩], SmallE x := by
  intro x hx
  simp only [List.mem_cons, List.not_mem_nil, or_false] at hx
  rcases hx with rfl | rfl
  · exact sF _ _ _ hf
  · exact sF _ _ _ hf'
theorem FiIs.put0 {w W : World} {bs ba bb : Nat} {A0 A1 : Option Addr} {c0 c1 : Nat} {fs : List S37} {ls : List S39} {k0 s0 k1 s1 : Int} (h : FiIs w W bs ba bb A0 c0 A1 c1 fs ls k0 s0 k1 s1) :
    FiIs w (((((W.setCell ⟨ba, 0, none⟩ (.int .i64 2)).setCell ⟨ba, 1, none⟩ (.string ⟨#[]⟩)).setCell ⟨ba, 2, none⟩ (.string ⟨#[102, 48]⟩)).setCell ⟨ba, 3, none⟩ (.string ⟨#[]⟩)).setCell ⟨ba, 4, none⟩ (.int .u64 0)) bs ba bb A0 c0 A1 c1 fs ls 2 0 k1 s1 := by
  obtain ⟨⟨h1, h2, h3⟩, h4, h5, h6, h7, h8, h9, h10⟩ := h
  have HR0 := Aside0.mk h2
  have HR1 := Aside0.mk h3
  have BK := Aside0.mk h5
  have BS := Aside0.mk h1
  have BB := Aside0.mk h6
  have N1 := Aside0.mk (show bs ≠ ba by omega)
  have N2 := Aside0.mk (show bb ≠ ba by omega)
  have HB := Aside0.mk h4
  have G := Aside0.mk h7
  exact ⟨⟨kb BS, kr HR0, kr HR1⟩, kB, blk_put (blk_put (blk_put (blk_put (blk_put h5 0 _ rfl) 1 _ rfl) 2 _ rfl) 3 _ rfl) 4 _ rfl, kb BB, h7, h8, h9, h10⟩
theorem FiIs.put1 {w W : World} {bs ba bb : Nat} {A0 A1 : Option Addr} {c0 c1 : Nat} {fs : List S37} {ls : List S39} {k0 s0 k1 s1 : Int} (h : FiIs w W bs ba bb A0 c0 A1 c1 fs ls k0 s0 k1 s1) :
    FiIs w (((((W.setCell ⟨bb, 0, none⟩ (.int .i64 2)).setCell ⟨bb, 1, none⟩ (.string ⟨#[]⟩)).setCell ⟨bb, 2, none⟩ (.string ⟨#[102, 49]⟩)).setCell ⟨bb, 3, none⟩ (.string ⟨#[]⟩)).setCell ⟨bb, 4, none⟩ (.int .u64 0)) bs ba bb A0 c0 A1 c1 fs ls k0 s0 2 0 := by
  obtain ⟨⟨h1, h2, h3⟩, h4, h5, h6, h7, h8, h9, h10⟩ := h
  have HR0 := Aside0.mk h2
  have HR1 := Aside0.mk h3
  have BK := Aside0.mk h6
  have BS := Aside0.mk h1
  have BB := Aside0.mk h5
  have N1 := Aside0.mk (show bs ≠ bb by omega)
  have N2 := Aside0.mk (show ba ≠ bb by omega)
  have HB := Aside0.mk h4
  have G := Aside0.mk h8
  exact ⟨⟨kb BS, kr HR0, kr HR1⟩, kB, kb BB, blk_put (blk_put (blk_put (blk_put (blk_put h6 0 _ rfl) 1 _ rfl) 2 _ rfl) 3 _ rfl) 4 _ rfl, h7, h8, h9, h10⟩
def LpIs (w W : World) (bt bu bn : Nat) (T0 : Option Addr) (ct0 : Nat) (T1 : Option Addr) (ct1 : Nat) (ft : List S37) (lt : List S39) (U0 : Option Addr) (cu0 : Nat) (U1 : Option Addr) (cu1 : Nat) (fu : List S37) (lu : List S39) : Prop :=
  StB w W bt T0 ct0 T1 ct1 ft lt ∧ StB w W bu U0 cu0 U1 cu1 fu lu ∧ Below w.heap.size w W ∧ W.heap[bn]? = some (.cells csM.toArray 9 (0, 0))
theorem LpIs.below {w W W1 : World} {bt bu bn : Nat} {T0 T1 U0 U1 : Option Addr} {ct0 ct1 cu0 cu1 : Nat} {ft fu : List S37} {lt lu : List S39} (h : LpIs w W bt bu bn T0 ct0 T1 ct1 ft lt U0 cu0 U1 cu1 fu lu) (hb : Below W.heap.size W W1) : LpIs w W1 bt bu bn T0 ct0 T1 ct1 ft lt U0 cu0 U1 cu1 fu lu :=
  ⟨h.1.below hb, h.2.1.below hb, below_step h.2.2.1 hb, blk_below h.2.2.2 hb⟩
def fiPhi (a b : Value) (nm : ByteArray) (s : Int) : Nat → Value → World → Prop
  | 0, x, _ => x = a
  | 1, x, _ => x = .string nm
  | 2, x, _ => x = .int .i64 s
  | 3, x, _ => x = b
  | 4, x, _ => x = .string nm
  | 5, x, _ => x = .int .i64 s
  | _, x, _ => x = .bool false
theorem fiPhi_keep {a b : Value} {nm : ByteArray} {s : Int} : ∀ i x W W', fiPhi a b nm s i x W → Below W.heap.size W W' → fiPhi a b nm s i x W'
  | 0, _, _, _, h, _ => h
  | 1, _, _, _, h, _ => h
  | 2, _, _, _, h, _ => h
  | 3, _, _, _, h, _ => h
  | 4, _, _, _, h, _ => h
  | 5, _, _, _, h, _ => h
  | _ + 6, _, _, _, h, _ => h
set_option maxHeartbeats 4000000 in
set_option maxRecDepth 100000 in
theorem mediaFiles_walk (a0 : Option Addr) (len0 cap0 : Nat) (z0 : List Int) (a1 a2 : Int) (a3 a4 : Bool) (w : World) (w0 : (a0 = none ∧ len0 = 0 ∧ cap0 = 0 ∧ z0 = []) ∨ ∃ x, a0 = some x ∧ len0 ≤ cap0 ∧ cap0 ≤ maxLen ∧ z0.length = cap0 ∧ (∀ i, i < z0.length → w.cell? (x.add i) = some (.int .i64 (z0.getD i 0))) ∧ ∀ n ∈ z0, (Lit.int .i64 n).wf = true) (y0 : len0 * 8 ≤ 140737488351232) (w1 : (Lit.int .u64 a1).wf = true) (w2 : (Lit.int .u64 a2).wf = true) :
    Calls Try.prog 8 #[.slice a0 len0 cap0, .int .u64 a1, .int .u64 a2, .bool a3, .bool a4] w fun e w' => e = .returned (.bool true) ∧ Below w.heap.size w w' := by
  obtain ⟨l0, rfl, hr0, hm0, hw0, hc0⟩ := ReadsInt.ofRowC w0
  have HR := Aside0.mk (Kd.C_of_reads (d := (0 : Int)) (h1 := fun _ => rfl) hr0)
  clear w0 hr0 w1 w2
  have hu30 := Try.underlying30
  have hu45 := Try.underlying45
  go_enter Try.func8, Try.ntmps8
  go_wp2_with fail
  refine (made_calls a0 cap0 l0 12 w HR.out hc0 (by omega)).mono ?_
  rintro e w3 ⟨v0, v1, g, l, rfl, t, hl, hg, hR0, hR1, ht0, ht1, hI, hB⟩
  have hbase := made_base l (by omega) hg
  have hlen : (runW [] [] l).1.length ≤ 20 := by
    have h := (made_ok l [] [] [] [] 0 ⟨valid_nil, by simp, by simp, fun x hx => by simp at hx, fun x hx => by simp at hx⟩ hg).2.1
    show (l.foldl accW _).1.length ≤ 20
    omega
  have hsm := small_le (made_all l hg)
  generalize (runW [] [] l).1 = fs at hR0 hbase hsm hlen
  generalize (runW [] [] l).2.1 = ls at hR1 hbase hsm
  obtain ⟨A0, c0, rfl⟩ := Kd.R_slice hR0
  obtain ⟨A1, c1, rfl⟩ := Kd.R_slice hR1
  have HB := Aside0.mk hB
  have HS := Aside0.mk (StB.new hR0 hR1)
  have HV := Aside0.mk hbase.valid
  have HL := Aside0.mk hlen
  have HSM := Aside0.mk hsm
  have hs3 : w.heap.size ≤ w3.heap.size := hB.size
  clear hR0 hR1 hI hB hbase hsm hlen hg hl l ht0 ht1 t HR
  go_upto_if 32 with (fail)
  obtain ⟨bs, hbs⟩ : ∃ b, b = w3.heap.size := ⟨_, rfl⟩
  obtain ⟨w4, hw4⟩ : ∃ w', w' = ((w3.alloc (.cells #[.slice A0 fs.length c0, .slice A1 ls.length c1] 30)).alloc (.cells #[.int .i64 1, .string ⟨#[]⟩, .string ⟨#[102, 48]⟩, .string ⟨#[]⟩, .int .u64 a1] 45)).alloc (.cells #[.int .i64 1, .string ⟨#[]⟩, .string ⟨#[102, 49]⟩, .string ⟨#[]⟩, .int .u64 a2] 45) := ⟨_, rfl⟩
  have HF := Aside0.mk (show FiIs w w4 bs (bs + 1) (bs + 1 + 1) A0 c0 A1 c1 fs ls 1 a1 1 a2 by
    rw [hw4, hbs]
    have e1 : w3.heap.size + 1 = (w3.alloc (.cells #[.slice A0 fs.length c0, .slice A1 ls.length c1] 30)).heap.size := by simp
    have e2 : w3.heap.size + 1 + 1 = ((w3.alloc (.cells #[.slice A0 fs.length c0, .slice A1 ls.length c1] 30)).alloc (.cells #[.int .i64 1, .string ⟨#[]⟩, .string ⟨#[102, 48]⟩, .string ⟨#[]⟩, .int .u64 a1] 45)).heap.size := by simp
    refine ⟨HS.out.below (below_alloc (below_alloc (Below.refl _ _) _) _), below_alloc (below_alloc (below_alloc HB.out _) _) _, blk_alloc ?_ _, ?_, by omega, by omega, by omega, by omega⟩
    · rw [e1]
      exact blk_new _ _
    · rw [e2]
      exact blk_new _ _)
  rw [← hw4, ← hbs]
  clear hw4 hbs HS HB hs3 w3
  obtain ⟨ba, hba⟩ : ∃ b, b = bs + 1 := ⟨_, rfl⟩
  rw [← hba] at HF ⊢
  obtain ⟨bb, hbb⟩ : ∃ b, b = ba + 1 := ⟨_, rfl⟩
  rw [← hbb] at HF ⊢
  clear hba hbb
  go_cut [] (fun wc => ∃ k0 s0, okK k0 s0 ∧ Aside0 (FiIs w wc bs ba bb A0 c0 A1 c1 fs ls k0 s0 1 a2))
  case first =>
    have hy0 : w4.cell? ⟨ba, 0, none⟩ = some (.int .i64 1) := (blk_cell HF.out.2.2.1 0).trans rfl
    have hy1 : w4.cell? ⟨ba, 1, none⟩ = some (.string ⟨#[]⟩) := (blk_cell HF.out.2.2.1 1).trans rfl
    have hy2 : w4.cell? ⟨ba, 2, none⟩ = some (.string ⟨#[102, 48]⟩) := (blk_cell HF.out.2.2.1 2).trans rfl
    have hy3 : w4.cell? ⟨ba, 3, none⟩ = some (.string ⟨#[]⟩) := (blk_cell HF.out.2.2.1 3).trans rfl
    have hy4 : w4.cell? ⟨ba, 4, none⟩ = some (.int .u64 a1) := (blk_cell HF.out.2.2.1 4).trans rfl
    have hz0 := blk_frozen HF.out.2.2.1 0
    have hz1 := blk_frozen HF.out.2.2.1 1
    have hz2 := blk_frozen HF.out.2.2.1 2
    have hz3 := blk_frozen HF.out.2.2.1 3
    have hz4 := blk_frozen HF.out.2.2.1 4
    cases a3 with
    | false =>
      go_wp2
      go_meet
      case rel => exact ⟨1, a1, .inl rfl, HF⟩
    | true =>
      go_wp2
      go_meet
      case rel => exact ⟨2, 0, .inr ⟨rfl, rfl⟩, ⟨FiIs.put0 HF.out⟩⟩
  case rest =>
    clear HF w4
    obtain ⟨k0, s0, hk0, HF⟩ := hcut
    obtain ⟨w5, hw5⟩ : ∃ w', w' = wc := ⟨_, rfl⟩
    rw [← hw5] at HF ⊢
    clear hw5 wc
    go_upto_if 34 with (fail)
    go_cut [] (fun wd => ∃ k1 s1, okK k1 s1 ∧ Aside0 (FiIs w wd bs ba bb A0 c0 A1 c1 fs ls k0 s0 k1 s1))
    case first =>
      have hy0 : w5.cell? ⟨bb, 0, none⟩ = some (.int .i64 1) := (blk_cell HF.out.2.2.2.1 0).trans rfl
      have hy1 : w5.cell? ⟨bb, 1, none⟩ = some (.string ⟨#[]⟩) := (blk_cell HF.out.2.2.2.1 1).trans rfl
      have hy2 : w5.cell? ⟨bb, 2, none⟩ = some (.string ⟨#[102, 49]⟩) := (blk_cell HF.out.2.2.2.1 2).trans rfl
      have hy3 : w5.cell? ⟨bb, 3, none⟩ = some (.string ⟨#[]⟩) := (blk_cell HF.out.2.2.2.1 3).trans rfl
      have hy4 : w5.cell? ⟨bb, 4, none⟩ = some (.int .u64 a2) := (blk_cell HF.out.2.2.2.1 4).trans rfl
      have hz0 := blk_frozen HF.out.2.2.2.1 0
      have hz1 := blk_frozen HF.out.2.2.2.1 1
      have hz2 := blk_frozen HF.out.2.2.2.1 2
      have hz3 := blk_frozen HF.out.2.2.2.1 3
      have hz4 := blk_frozen HF.out.2.2.2.1 4
      cases a4 with
      | false =>
        go_wp2
        go_meet
        case rel => exact ⟨1, a2, .inl rfl, HF⟩
      | true =>
        go_wp2
        go_meet
        case rel => exact ⟨2, 0, .inr ⟨rfl, rfl⟩, ⟨FiIs.put1 HF.out⟩⟩
    case rest =>
      clear HF w5
      obtain ⟨k1, s1, hk1, HF⟩ := hcut
      obtain ⟨wd, hwd⟩ : ∃ w', w' = wc := ⟨_, rfl⟩
      rw [← hwd] at HF ⊢
      clear hwd wc
      have hy0 : wd.cell? ⟨ba, 0, none⟩ = some (.int .i64 k0) := (blk_cell HF.out.2.2.1 0).trans rfl
      have hy1 : wd.cell? ⟨ba, 1, none⟩ = some (.string ⟨#[]⟩) := (blk_cell HF.out.2.2.1 1).trans rfl
      have hy2 : wd.cell? ⟨ba, 2, none⟩ = some (.string f0n) := (blk_cell HF.out.2.2.1 2).trans rfl
      have hy3 : wd.cell? ⟨ba, 3, none⟩ = some (.string ⟨#[]⟩) := (blk_cell HF.out.2.2.1 3).trans rfl
      have hy4 : wd.cell? ⟨ba, 4, none⟩ = some (.int .u64 s0) := (blk_cell HF.out.2.2.1 4).trans rfl
      have hz0 : wd.cell? ⟨bb, 0, none⟩ = some (.int .i64 k1) := (blk_cell HF.out.2.2.2.1 0).trans rfl
      have hz1 : wd.cell? ⟨bb, 1, none⟩ = some (.string ⟨#[]⟩) := (blk_cell HF.out.2.2.2.1 1).trans rfl
      have hz2 : wd.cell? ⟨bb, 2, none⟩ = some (.string f1n) := (blk_cell HF.out.2.2.2.1 2).trans rfl
      have hz3 : wd.cell? ⟨bb, 3, none⟩ = some (.string ⟨#[]⟩) := (blk_cell HF.out.2.2.2.1 3).trans rfl
      have hz4 : wd.cell? ⟨bb, 4, none⟩ = some (.int .u64 s1) := (blk_cell HF.out.2.2.2.1 4).trans rfl
      have hx0 := HF.out.1.g0
      have hx1 := HF.out.1.g1
      go_wp2_with fail
      clear hy0 hy1 hy2 hy3 hy4 hz0 hz1 hz2 hz3 hz4 hx0 hx1
      obtain ⟨⟨ft, lt, ot, et⟩, hrt_⟩ : ∃ q, q = runF fs ls [⟨k0, ⟨#[]⟩, f0n, ⟨#[]⟩, s0⟩, ⟨k1, ⟨#[]⟩, f1n, ⟨#[]⟩, s1⟩] := ⟨_, rfl⟩
      obtain ⟨⟨fu, lu, ou, eu⟩, hru_⟩ : ∃ q, q = runF fs ls [⟨k1, ⟨#[]⟩, f1n, ⟨#[]⟩, s1⟩, ⟨k0, ⟨#[]⟩, f0n, ⟨#[]⟩, s0⟩] := ⟨_, rfl⟩
      have hlaw : ∀ m, statusV ft lt m = statusV fu lu m := fun m => by
        have h := files_law HV.out HL.out hk0 hk1 m
        rw [← hrt_, ← hru_] at h
        exact h
      have HLAW := Aside0.mk hlaw
      have hrt := Aside0.mk hrt_
      have hru := Aside0.mk hru_
      clear hlaw hrt_ hru_
      obtain ⟨wl, hwl⟩ : ∃ w', w' = wd.alloc (.cells #[.int .i64 k0, .string ⟨#[]⟩, .string f0n, .string ⟨#[]⟩, .int .u64 s0, .int .i64 k1, .string ⟨#[]⟩, .string f1n, .string ⟨#[]⟩, .int .u64 s1] 45) := ⟨_, rfl⟩
      have hC : Kd.C k45 wl (some ⟨wd.heap.size, 0, none⟩) 2 [⟨k0, ⟨#[]⟩, f0n, ⟨#[]⟩, s0⟩, ⟨k1, ⟨#[]⟩, f1n, ⟨#[]⟩, s1⟩] :=
        C_of_blk (by rw [hwl]; exact blk_new _ _) (lit5 (x := ⟨k0, ⟨#[]⟩, f0n, ⟨#[]⟩, s0⟩) (lit5 (x := ⟨k1, ⟨#[]⟩, f1n, ⟨#[]⟩, s1⟩) (Reps.none _ _))) (by simp)
      have hbw : Below wd.heap.size wd wl := hwl ▸ below_alloc (Below.refl _ _) _
      rw [← hwl]
      replace HF := Aside0.mk (HF.out.below hbw)
      clear hbw hwl
      refine (run_to (l := [⟨k0, ⟨#[]⟩, f0n, ⟨#[]⟩, s0⟩, ⟨k1, ⟨#[]⟩, f1n, ⟨#[]⟩, s1⟩]) HF.out.1 HF.out.2.1 HSM.out (by simp) (sF2 _ _ _ _ _ _ (by decide) (by decide)) hC (by simp) hrt.out.symm).mono ?_
      rintro e w6 ⟨T0, ct0, T1, ct1, v2t, v3t, rfl, hR0, hR1, hR2, hR3, hb⟩
      replace HF := Aside0.mk (HF.out.below hb)
      have HSt := Aside0.mk (StB.new hR0 hR1)
      clear hR0 hR1 hR2 hR3 hb hC
      have hy0 : w6.cell? ⟨ba, 0, none⟩ = some (.int .i64 k0) := (blk_cell HF.out.2.2.1 0).trans rfl
      have hy1 : w6.cell? ⟨ba, 1, none⟩ = some (.string ⟨#[]⟩) := (blk_cell HF.out.2.2.1 1).trans rfl
      have hy2 : w6.cell? ⟨ba, 2, none⟩ = some (.string f0n) := (blk_cell HF.out.2.2.1 2).trans rfl
      have hy3 : w6.cell? ⟨ba, 3, none⟩ = some (.string ⟨#[]⟩) := (blk_cell HF.out.2.2.1 3).trans rfl
      have hy4 : w6.cell? ⟨ba, 4, none⟩ = some (.int .u64 s0) := (blk_cell HF.out.2.2.1 4).trans rfl
      have hz0 : w6.cell? ⟨bb, 0, none⟩ = some (.int .i64 k1) := (blk_cell HF.out.2.2.2.1 0).trans rfl
      have hz1 : w6.cell? ⟨bb, 1, none⟩ = some (.string ⟨#[]⟩) := (blk_cell HF.out.2.2.2.1 1).trans rfl
      have hz2 : w6.cell? ⟨bb, 2, none⟩ = some (.string f1n) := (blk_cell HF.out.2.2.2.1 2).trans rfl
      have hz3 : w6.cell? ⟨bb, 3, none⟩ = some (.string ⟨#[]⟩) := (blk_cell HF.out.2.2.2.1 3).trans rfl
      have hz4 : w6.cell? ⟨bb, 4, none⟩ = some (.int .u64 s1) := (blk_cell HF.out.2.2.2.1 4).trans rfl
      have hx0 := HF.out.1.g0
      have hx1 := HF.out.1.g1
      have hl0 := blk_lt HF.out.2.2.1
      have hl1 := blk_lt HF.out.2.2.2.1
      have hl2 := blk_lt HF.out.1.1
      go_wp2_with fail
      clear hy0 hy1 hy2 hy3 hy4 hz0 hz1 hz2 hz3 hz4 hx0 hx1 hl0 hl1 hl2
      obtain ⟨w7, hw7⟩ : ∃ w', w' = w6.alloc (.cells #[.slice T0 ft.length ct0, .slice T1 lt.length ct1] 30) := ⟨_, rfl⟩
      have hbw : Below w6.heap.size w6 w7 := hw7 ▸ below_alloc (Below.refl _ _) _
      have hs7 : w6.heap.size + 1 = w7.heap.size := by rw [hw7]; simp
      rw [← hw7, hs7]
      rw [← hw7] at HSt
      obtain ⟨bt, hbt⟩ : ∃ b, b = w6.heap.size := ⟨_, rfl⟩
      rw [← hbt] at HSt ⊢
      replace HF := Aside0.mk (HF.out.below hbw)
      have hgt := HF.out.2.1.size
      clear hbw hw7 hs7 hbt
      obtain ⟨wl, hwl⟩ : ∃ w', w' = w7.alloc (.cells #[.int .i64 k1, .string ⟨#[]⟩, .string f1n, .string ⟨#[]⟩, .int .u64 s1, .int .i64 k0, .string ⟨#[]⟩, .string f0n, .string ⟨#[]⟩, .int .u64 s0] 45) := ⟨_, rfl⟩
      have hC : Kd.C k45 wl (some ⟨w7.heap.size, 0, none⟩) 2 [⟨k1, ⟨#[]⟩, f1n, ⟨#[]⟩, s1⟩, ⟨k0, ⟨#[]⟩, f0n, ⟨#[]⟩, s0⟩] :=
        C_of_blk (by rw [hwl]; exact blk_new _ _) (lit5 (x := ⟨k1, ⟨#[]⟩, f1n, ⟨#[]⟩, s1⟩) (lit5 (x := ⟨k0, ⟨#[]⟩, f0n, ⟨#[]⟩, s0⟩) (Reps.none _ _))) (by simp)
      have hbw : Below w7.heap.size w7 wl := hwl ▸ below_alloc (Below.refl _ _) _
      rw [← hwl]
      replace HF := Aside0.mk (HF.out.below hbw)
      replace HSt := Aside0.mk (HSt.out.below hbw)
      clear hbw hwl
      refine (run_to (l := [⟨k1, ⟨#[]⟩, f1n, ⟨#[]⟩, s1⟩, ⟨k0, ⟨#[]⟩, f0n, ⟨#[]⟩, s0⟩]) HF.out.1 HF.out.2.1 HSM.out (by simp) (sF2 _ _ _ _ _ _ (by decide) (by decide)) hC (by simp) hru.out.symm).mono ?_
      rintro e w8 ⟨U0, cu0, U1, cu1, v2u, v3u, rfl, hR0, hR1, hR2, hR3, hb⟩
      have HB := Aside0.mk (below_step HF.out.2.1 hb)
      replace HSt := Aside0.mk (HSt.out.below hb)
      have HSu := Aside0.mk (StB.new hR0 hR1)
      clear hR0 hR1 hR2 hR3 hb hC
      go_wp2_with fail
      obtain ⟨w9, hw9⟩ : ∃ w', w' = (w8.alloc (.cells #[.slice U0 fu.length cu0, .slice U1 lu.length cu1] 30)).alloc (.cells csM.toArray 9) := ⟨_, rfl⟩
      have hs9 : w8.heap.size + 1 = (w8.alloc (.cells #[.slice U0 fu.length cu0, .slice U1 lu.length cu1] 30)).heap.size := by simp
      have HL_ := Aside0.mk (show LpIs w w9 bt w8.heap.size (w8.heap.size + 1) T0 ct0 T1 ct1 ft lt U0 cu0 U1 cu1 fu lu by
        rw [hw9]
        refine ⟨HSt.out.below (below_alloc (below_alloc (Below.refl _ _) _) _), HSu.out.below (below_alloc (Below.refl _ _) _), below_alloc (below_alloc HB.out _) _, ?_⟩
        rw [hs9]
        exact blk_new _ _)
      change Code.wp _ _ _ _ ((w8.alloc (.cells #[.slice U0 fu.length cu0, .slice U1 lu.length cu1] 30)).alloc (.cells csM.toArray 9))
      rw [← hw9]
      obtain ⟨bu, hbu⟩ : ∃ b, b = w8.heap.size := ⟨_, rfl⟩
      rw [← hbu] at HL_ ⊢
      obtain ⟨bn, hbn⟩ : ∃ b, b = bu + 1 := ⟨_, rfl⟩
      rw [← hbn] at HL_ ⊢
      clear hw9 hs9 hbu hbn HSt HSu HB HF hgt
      go_loopw [56] (fun i wr => ∃ k : Nat, k ≤ 4 ∧ i = .int .i64 k ∧ Aside0 (LpIs w wr bt bu bn T0 ct0 T1 ct1 ft lt U0 cu0 U1 cu1 fu lu)) (fun i _ => 4 - (intOf i).toNat)
      case atStart => exact ⟨0, by omega, rfl, HL_⟩
      case round =>
        clear HL_ w8 w9
        obtain ⟨k, hk, rfl, HL_⟩ := hrel
        by_cases hlt : k < 4
        · obtain ⟨u, hu, nm, rfl, _⟩ := arr_at csM_ok k hlt
          have hn : wr.cell? ⟨bn, k, none⟩ = some (.string nm) := (blk_cell HL_.out.2.2.2 k).trans hu
          clear hu
          go_wp2_with fail
          obtain ⟨sv, hsv⟩ : ∃ s, s = statusV fu lu nm := ⟨_, rfl⟩
          have HSU := Aside0.mk hsv.symm
          have HST := Aside0.mk ((HLAW.out nm).trans hsv.symm)
          clear hsv hn
          refine par_ (n := 7) [(0, some 60), (1, some 61), (2, some 62), (3, some 63), (4, some 64), (5, some 65), (6, some 66)] [] (fun _ W => LpIs w W bt bu bn T0 ct0 T1 ct1 ft lt U0 cu0 U1 cu1 fu lu) #[true, true, true, true, true, true, true] 0 (fun W W' => Below W.heap.size W W') (fiPhi (.agg #[.slice T0 ft.length ct0, .slice T1 lt.length ct1]) (.agg #[.slice U0 fu.length cu0, .slice U1 lu.length cu1]) nm sv) (by kernel_rfl) rfl (by kernel_rfl) (Below.refl _ _) (fun _ _ _ h1 h2 => below_step h1 h2) fiPhi_keep (HL_.out.below (below_drew (Below.refl _ _))) ?_ ?_
          · intro i hi
            simp only [List.map_cons, List.map_nil, List.mem_cons, List.not_mem_nil, or_false] at hi
            rcases hi with rfl | rfl | rfl | rfl | rfl | rfl | rfl <;> intro o ho b W n hJ hn hR dep oth <;> obtain rfl := Option.some.inj ho
            · have e1 := ev_tmp (oth 15 (by kernel_rfl))
              have hx0 := hJ.1.g0
              have hx1 := hJ.1.g1
              refine ok_value (R := fun W W' => Below W.heap.size W W') (i := 0) (Φ := fiPhi _ _ _ _) (x := .agg #[.slice T0 ft.length ct0, .slice T1 lt.length ct1]) (W' := W) ?_ (Below.refl _ _) rfl hJ
              replace e1 : b.tmps[15]?.getD undef = .pointer (some ⟨bt, 0, none⟩) := e1
              go_simp
            · exact ok_value (R := fun W W' => Below W.heap.size W W') (i := 1) (Φ := fiPhi _ _ _ _) rfl (Below.refl _ _) ((oth 22 (by kernel_rfl)).trans rfl) hJ
            · have e1 : b.eval (.tmp 60) = _ := dep 0 60 rfl (by kernel_rfl)
              have e2 : b.eval (.tmp 61) = _ := dep 1 61 rfl (by kernel_rfl)
              exact ok_call (R := fun W W' => Below W.heap.size W W') (i := 2) (Φ := fiPhi _ _ _ _) Try.func15 (by kernel_rfl) rfl #[.agg #[.slice T0 ft.length ct0, .slice T1 lt.length ct1], .string nm] rfl (by rw [← e1, ← e2]; simp [Act.eval]) ((status_to hJ.1 HST.out).mono fun e W' ⟨he, hb⟩ => ⟨_, he, hb, rfl, hJ.below hb⟩)
            · have e1 := ev_tmp (oth 18 (by kernel_rfl))
              have hx0 := hJ.2.1.g0
              have hx1 := hJ.2.1.g1
              refine ok_value (R := fun W W' => Below W.heap.size W W') (i := 3) (Φ := fiPhi _ _ _ _) (x := .agg #[.slice U0 fu.length cu0, .slice U1 lu.length cu1]) (W' := W) ?_ (Below.refl _ _) rfl hJ
              replace e1 : b.tmps[18]?.getD undef = .pointer (some ⟨bu, 0, none⟩) := e1
              go_simp
            · exact ok_value (R := fun W W' => Below W.heap.size W W') (i := 4) (Φ := fiPhi _ _ _ _) rfl (Below.refl _ _) ((oth 22 (by kernel_rfl)).trans rfl) hJ
            · have e1 : b.eval (.tmp 63) = _ := dep 3 63 rfl (by kernel_rfl)
              have e2 : b.eval (.tmp 64) = _ := dep 4 64 rfl (by kernel_rfl)
              exact ok_call (R := fun W W' => Below W.heap.size W W') (i := 5) (Φ := fiPhi _ _ _ _) Try.func15 (by kernel_rfl) rfl #[.agg #[.slice U0 fu.length cu0, .slice U1 lu.length cu1], .string nm] rfl (by rw [← e1, ← e2]; simp [Act.eval]) ((status_to hJ.2.1 HSU.out).mono fun e W' ⟨he, hb⟩ => ⟨_, he, hb, rfl, hJ.below hb⟩)
            · have e1 := ev_tmp (dep 2 62 rfl (by kernel_rfl))
              have e2 := ev_tmp (dep 5 65 rfl (by kernel_rfl))
              refine ok_value (R := fun W W' => Below W.heap.size W W') (i := 6) (Φ := fiPhi _ _ _ _) (x := .bool false) (W' := W) ?_ (Below.refl _ _) rfl hJ
              replace e1 : b.tmps[62]?.getD undef = .int .i64 sv := e1
              replace e2 : b.tmps[65]?.getD undef = .int .i64 sv := e2
              go_simp
          · intro v W hk2 hv hJ
            have ev : v 6 = .bool false := hv 6 (by decide)
            clear hv hk2
            refine done_ (by kernel_rfl) ?_
            simp only [fillE, Act.put, List.setIfInBounds_toArray, List.set_cons_zero, List.set_cons_succ, ev]
            have HJ := Aside0.mk hJ
            clear hJ ev HL_
            go_wp2
            go_roundw
            case rel => exact ⟨k + 1, by omega, by go_num, HJ⟩
            case measure => simp [intOf]; omega
        · obtain rfl : k = 4 := by omega
          go_wp2_with fail
          refine (awake_at wr).mono ?_
          rintro e wz ⟨rfl, hb⟩
          have HZ := Aside0.mk (below_step HL_.out.2.2.1 hb)
          clear hb
          go_wp2
          go_ret
          exact ⟨rfl, HZ.out⟩

end Go.Proofs.Ytpnhkmicepmciaa.Y

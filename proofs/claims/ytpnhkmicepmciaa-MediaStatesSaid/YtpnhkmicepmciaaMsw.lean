/- A part of this claim's walks: functions' contracts, or plain lemmas; conditions: each one's own. -/
import Derived.Test.YtpnhkmicepmciaaCmw
import Derived.Test.YtpnhkmicepmciaaRdm
import Derived.Test.YtpnhkmicepmciaaPar2
import Derived.Test.YtpnhkmicepmciaaPar3
namespace Go.Proofs.Ytpnhkmicepmciaa.Y
open Go.RowKit Go.Proofs.YtpnhkmicepmciaaW.PrintWords Go.Proofs.YtpnhkmicepmciaaW.PrintLast Go.Proofs.YtpnhkmicepmciaaW.PrintMore
set_option linter.unusedVariables false
set_option linter.unusedSimpArgs false
open Go.Proofs.Ytpnhkmicepmciaa.Par
attribute [local go_sem] max2_int min2_int max_two min_two max_three min_three max_four min_four
theorem valid_c {W : World} {X0 X1 : Option Addr} {c0 c1 : Nat} {fs : List S37} {ls : List S39} (h : StV W X0 c0 X1 c1 fs ls) (hs : SmallS fs ls) {b : Bool} (hb : validB fs ls = b) :
    Calls Try.prog 13 #[.agg #[.slice X0 fs.length c0, .slice X1 ls.length c1]] W fun en W' => en = .returned (.bool b) ∧ Below W.heap.size W W' :=
  media_Valid.calls X0 c0 fs X1 c1 ls b W h.1 h.2.1 h.2.2.1 h.2.2.2 ((valid_k fs ls hs.1 hs.2).trans (congrArg some hb))
theorem rvalid_c {W : World} {X0 X1 : Option Addr} {c0 c1 : Nat} {fs : List S37} {ls : List S39} (h : StV W X0 c0 X1 c1 fs ls) (hs : SmallS fs ls) {b : Bool} (hb : validB fs ls = b) :
    Calls Try.prog 14 #[.agg #[.slice X0 fs.length c0, .slice X1 ls.length c1]] W fun en W' => en = .returned (.bool b) ∧ Below W.heap.size W W' :=
  cutroomref36_Valid.calls _ X0 c0 fs X1 c1 ls b W h.1 h.2.1 h.2.2.1 h.2.2.2 ((refValid_k fs ls 140737488351232 (Nat.le_refl _) h.1.2.1 h.2.2.1.2.1 hs.1 hs.2 _ (Nat.le_refl _)).trans (congrArg some hb))
theorem status_c {W : World} {X0 X1 : Option Addr} {c0 c1 : Nat} {fs : List S37} {ls : List S39} (h : StV W X0 c0 X1 c1 fs ls) (m : ByteArray) {n : Int} (hn : statusV fs ls m = n) :
    Calls Try.prog 15 #[.agg #[.slice X0 fs.length c0, .slice X1 ls.length c1], .string m] W fun en W' => en = .returned (.int .i64 n) ∧ Below W.heap.size W W' :=
  media_Status.calls X0 c0 fs X1 c1 ls m n W h.1 h.2.1 h.2.2.1 h.2.2.2 (congrArg some hn)
theorem rstatus_c {W : World} {X0 X1 : Option Addr} {c0 c1 : Nat} {fs : List S37} {ls : List S39} (h : StV W X0 c0 X1 c1 fs ls) (m : ByteArray) {n : Int} (hn : statusV fs ls m = n) :
    Calls Try.prog 16 #[.agg #[.slice X0 fs.length c0, .slice X1 ls.length c1], .string m] W fun en W' => en = .returned (.int .i64 n) ∧ Below W.heap.size W W' :=
  cutroomref36_Status.calls _ X0 c0 fs X1 c1 ls m n W h.1 h.2.1 h.2.2.1 h.2.2.2 ((refStatus_k fs ls m h.1.2.1 h.2.2.1.2.1 _ (Nat.lt_succ_self _)).trans (congrArg some hn))
/-- The copy of a state: what is known of each operation. -/
def clPhi (b0 bs : Nat) (B0 : Option Addr) (d0 : Nat) (B1 : Option Addr) (d1 : Nat) (fm : List S37) (lm : List S39) : Nat → (Nat → Value) → World → Prop
  | 0, v, W => ∃ b, v 0 = .slice (some ⟨b, 0, none⟩) 0 0 ∧ W.heap[b]? = some (.cells #[] 37 (0, 0)) ∧ b0 ≤ b
  | 1, v, _ => v 1 = .pointer (some ⟨bs, 0, none⟩)
  | 2, v, _ => v 2 = .slice B0 fm.length d0
  | 3, v, W => ∃ T0 t0, v 3 = .slice T0 fm.length t0 ∧ Kd.R k37 37 W b0 (fun _ => True) (.slice T0 fm.length t0) fm
  | 4, v, W => ∃ b, v 4 = .slice (some ⟨b, 0, none⟩) 0 0 ∧ W.heap[b]? = some (.cells #[] 39 (0, 0)) ∧ b0 ≤ b
  | 5, v, _ => v 5 = .pointer (some ⟨bs, 1, none⟩)
  | 6, v, _ => v 6 = .slice B1 lm.length d1
  | 7, v, W => ∃ T1 t1, v 7 = .slice T1 lm.length t1 ∧ Kd.R k39 39 W b0 (fun _ => True) (.slice T1 lm.length t1) lm
  | 8, v, _ => v 8 = .agg #[v 3, v 7]
  | 9, v, W => ∃ b, v 9 = .pointer (some ⟨b, 0, none⟩) ∧ W.heap[b]? = some (.cells #[.slice none 0 0, .slice none 0 0] 30 (0, 0)) ∧ b0 ≤ b
  | _, _, _ => True
theorem clPhi_keep {b0 bs B0 d0 B1 d1 fm lm} : ∀ i v W W', clPhi b0 bs B0 d0 B1 d1 fm lm i v W → Below W.heap.size W W' → clPhi b0 bs B0 d0 B1 d1 fm lm i v W'
  | 0, _, _, _, ⟨b, h1, h2, h3⟩, hb => ⟨b, h1, blk_below h2 hb, h3⟩
  | 1, _, _, _, h, _ => h
  | 2, _, _, _, h, _ => h
  | 3, _, _, _, ⟨T0, t0, h1, h2⟩, hb => ⟨T0, t0, h1, Kd.R_below h2 hb⟩
  | 4, _, _, _, ⟨b, h1, h2, h3⟩, hb => ⟨b, h1, blk_below h2 hb, h3⟩
  | 5, _, _, _, h, _ => h
  | 6, _, _, _, h, _ => h
  | 7, _, _, _, ⟨T0, t0, h1, h2⟩, hb => ⟨T0, t0, h1, Kd.R_below h2 hb⟩
  | 8, _, _, _, h, _ => h
  | 9, _, _, _, ⟨b, h1, h2, h3⟩, hb => ⟨b, h1, blk_below h2 hb, h3⟩
  | _ + 10, _, _, _, _, _ => trivial
def apPhi (p : Addr) (sl : Value) (q : Addr) (ag : Value) (cs : Array Value) (ty : TypeId) : Nat → Value → World → Prop
  | 0, x, _ => x = .pointer (some p)
  | 1, x, _ => x = sl
  | 2, x, _ => x = .pointer (some p)
  | 3, x, _ => x = sl
  | 4, x, _ => x = .pointer (some q)
  | 5, x, _ => x = ag
  | 6, x, W => ∃ b, x = .slice (some ⟨b, 0, none⟩) 1 1 ∧ W.heap[b]? = some (.cells cs ty (0, 0))
  | _, _, _ => True
theorem apPhi_keep {p sl q ag cs ty} : ∀ i x W W', apPhi p sl q ag cs ty i x W → Below W.heap.size W W' → apPhi p sl q ag cs ty i x W'
  | 0, _, _, _, h, _ => h
  | 1, _, _, _, h, _ => h
  | 2, _, _, _, h, _ => h
  | 3, _, _, _, h, _ => h
  | 4, _, _, _, h, _ => h
  | 5, _, _, _, h, _ => h
  | 6, _, _, _, ⟨b, h1, h2⟩, hb => ⟨b, h1, blk_below h2 hb⟩
  | _ + 7, _, _, _, _, _ => trivial
def prPhi (p : Addr) (sl : Value) (q : Addr) (m : ByteArray) : Nat → Value → World → Prop
  | 0, x, _ => x = .pointer (some p)
  | 1, x, _ => x = sl
  | 2, x, _ => x = .pointer (some p)
  | 3, x, _ => x = sl
  | 4, x, _ => x = .pointer (some q)
  | 5, x, _ => x = .pointer (some q)
  | 6, x, _ => x = .string m
  | _, _, _ => True
theorem prPhi_keep {p sl q m} : ∀ i x W W', prPhi p sl q m i x W → Below W.heap.size W W' → prPhi p sl q m i x W'
  | 0, _, _, _, h, _ => h
  | 1, _, _, _, h, _ => h
  | 2, _, _, _, h, _ => h
  | 3, _, _, _, h, _ => h
  | 4, _, _, _, h, _ => h
  | 5, _, _, _, h, _ => h
  | 6, _, _, _, h, _ => h
  | _ + 7, _, _, _, _, _ => trivial
theorem rd_mem_l (lm : List S39) (h : 0 < lm.length) : rd_T39 lm 0 ∈ lm := by
  unfold rd_T39
  rw [List.getD_eq_getElem?_getD, List.getElem?_eq_getElem (show (0 : Int).toNat < lm.length by simp; omega)]
  exact List.getElem_mem _
theorem StIs.f0 {w0 W : World} {g ga : Nat} {A1 : Option Addr} {c0 c1 : Nat} {fs : List S37} {ls : List S39} (h : StIs w0 W g (some ⟨ga, 0, none⟩) c0 A1 c1 fs ls) (ii : Int) (h0 : 0 ≤ ii) (h1 : ii < fs.length) (s : ByteArray) :
    (∃ v, W.cell? ⟨ga, ii.toNat * 3 + 0, none⟩ = some v) ∧ W.frozen? ⟨ga, ii.toNat * 3 + 0, none⟩ = false ∧ StIs w0 (W.setCell ⟨ga, ii.toNat * 3 + 0, none⟩ (.string s)) g (some ⟨ga, 0, none⟩) c0 A1 c1 (fs.set ii.toNat ⟨s, (rd_T37 fs ii).f1, (rd_T37 fs ii).f2⟩) ls ∧ W.grownBy (W.setCell ⟨ga, ii.toNat * 3 + 0, none⟩ (.string s)) (some ga) := by
  obtain ⟨h2, h3, h4, h5, h6⟩ := h
  obtain ⟨c, hcl, hM, hcc, hfz⟩ := Kd.R_elem h3 z37 ii h0 h1
  have hc := k37_openM hM
  subst hc
  have hs := Kd.R_seg h3 ii h0 h1 (seg := [.string s]) (j := 0) (okp := fun _ => False) (x' := ⟨s, (rd_T37 fs ii).f1, (rd_T37 fs ii).f2⟩) hcl hcc (by simp [k37, Kd.iso, Kd.pair, Kd.string, Kd.int, Kd.bool, Kd.scalar]) (k37_mkM ..) (fun _ hk => hk.elim)
  have hga := far_row h3 h2 (by decide)
  obtain ⟨hR, hg⟩ := hs
  refine ⟨⟨_, hcc 0 _ rfl⟩, hfz 0, ⟨?_, ?_, ?_, ?_, h6⟩, hg⟩
  · rw [List.length_set]; exact blk_far h2 hga _
  · rw [List.length_set]; exact hR
  · exact Kd.R_over' h4 (Kd.R_typed h3) (by decide) hg
  · exact below_set h5 (Kd.R_base h3 ga rfl)
def csV (nm : ByteArray) : List Value := [.string nm, .string ⟨#[109, 48]⟩, .string ⟨#[109, 49]⟩, .string ⟨#[115, 112, 97, 114, 101]⟩]
theorem csV_ok (nm : ByteArray) : ∀ v ∈ csV nm, ∃ s : ByteArray, v = .string s ∧ True := by
  intro v hv
  simp only [csV, List.mem_cons, List.not_mem_nil, or_false] at hv
  rcases hv with rfl | rfl | rfl | rfl <;> exact ⟨_, rfl, trivial⟩
def vaPhi (S : Value) (vb : Bool) : Nat → Value → World → Prop
  | 0, x, _ => x = S
  | 1, x, _ => x = .bool vb
  | 2, x, _ => x = S
  | 3, x, _ => x = .bool vb
  | 4, x, _ => x = .bool false
  | _, _, _ => True
theorem vaPhi_keep {S vb} : ∀ i x W W', vaPhi S vb i x W → Below W.heap.size W W' → vaPhi S vb i x W'
  | 0, _, _, _, h, _ => h
  | 1, _, _, _, h, _ => h
  | 2, _, _, _, h, _ => h
  | 3, _, _, _, h, _ => h
  | 4, _, _, _, h, _ => h
  | _ + 5, _, _, _, _, _ => trivial
def stPhi (S : Value) (nn : ByteArray) (sv : Int) : Nat → Value → World → Prop
  | 0, x, _ => x = S
  | 1, x, _ => x = .string nn
  | 2, x, _ => x = .int .i64 sv
  | 3, x, _ => x = S
  | 4, x, _ => x = .string nn
  | 5, x, _ => x = .int .i64 sv
  | 6, x, _ => x = .bool false
  | _, _, _ => True
theorem stPhi_keep {S nn sv} : ∀ i x W W', stPhi S nn sv i x W → Below W.heap.size W W' → stPhi S nn sv i x W'
  | 0, _, _, _, h, _ => h
  | 1, _, _, _, h, _ => h
  | 2, _, _, _, h, _ => h
  | 3, _, _, _, h, _ => h
  | 4, _, _, _, h, _ => h
  | 5, _, _, _, h, _ => h
  | 6, _, _, _, h, _ => h
  | _ + 7, _, _, _, _, _ => trivial
/-- What stands while the states are gone through. -/
def MsIs (w2 W : World) (bl : Nat) (A0 : Option Addr) (c0 : Nat) (A1 : Option Addr) (c1 : Nat) (fs : List S37) (ls : List S39) (B0 : Option Addr) (d0 : Nat) (B1 : Option Addr) (d1 : Nat) (fm : List S37) (lm : List S39) (T0 : Option Addr) (t0 : Nat) (T1 : Option Addr) (t1 : Nat) (ft : List S37) (lt : List S39) : Prop :=
  Below w2.heap.size w2 W ∧ W.heap[bl]? = some (.cells #[.slice A0 fs.length c0, .slice A1 ls.length c1, .slice B0 fm.length d0, .slice B1 lm.length d1, .slice T0 ft.length t0, .slice T1 lt.length t1] 30 (0, 0)) ∧ StV W A0 c0 A1 c1 fs ls ∧ StV W B0 d0 B1 d1 fm lm ∧ StV W T0 t0 T1 t1 ft lt
theorem MsIs.below {w2 W W1 bl A0 c0 A1 c1 fs ls B0 d0 B1 d1 fm lm T0 t0 T1 t1 ft lt} (h : MsIs w2 W bl A0 c0 A1 c1 fs ls B0 d0 B1 d1 fm lm T0 t0 T1 t1 ft lt) (hb : Below W.heap.size W W1) : MsIs w2 W1 bl A0 c0 A1 c1 fs ls B0 d0 B1 d1 fm lm T0 t0 T1 t1 ft lt :=
  ⟨below_step h.1 hb, blk_below h.2.1 hb, h.2.2.1.below hb, h.2.2.2.1.below hb, h.2.2.2.2.below hb⟩
theorem MsIs.state {w2 W bl A0 c0 A1 c1 fs ls B0 d0 B1 d1 fm lm T0 t0 T1 t1 ft lt} (h : MsIs w2 W bl A0 c0 A1 c1 fs ls B0 d0 B1 d1 fm lm T0 t0 T1 t1 ft lt) (h1 : SmallS fs ls) (h2 : SmallS fm lm) (h3 : SmallS ft lt) {ad : Addr} (had : ad = ⟨bl, 0, none⟩) (k : Nat) (hk : k < 3) :
    ∃ X0 x0 X1 x1 f l, W.cell? (ad.add (k * 2)) = some (.slice X0 (List.length f) x0) ∧ W.cell? ⟨(ad.add (k * 2)).block, (ad.add (k * 2)).off + 1, none⟩ = some (.slice X1 (List.length l) x1) ∧ StV W X0 x0 X1 x1 f l ∧ SmallS f l := by
  subst had
  have e : ∀ n : Nat, (⟨bl, 0, none⟩ : Addr).add n = ⟨bl, n, none⟩ := fun n => add_plain bl n
  rw [e]
  obtain rfl | rfl | rfl : k = 0 ∨ k = 1 ∨ k = 2 := by omega
  · exact ⟨A0, c0, A1, c1, fs, ls, (blk_cell h.2.1 _).trans rfl, (blk_cell h.2.1 _).trans rfl, h.2.2.1, h1⟩
  · exact ⟨B0, d0, B1, d1, fm, lm, (blk_cell h.2.1 _).trans rfl, (blk_cell h.2.1 _).trans rfl, h.2.2.2.1, h2⟩
  · exact ⟨T0, t0, T1, t1, ft, lt, (blk_cell h.2.1 _).trans rfl, (blk_cell h.2.1 _).trans rfl, h.2.2.2.2, h3⟩
set_option maxHeartbeats 4000000 in
set_option maxRecDepth 100000 in
theorem mediaStates_walk (A0 : Option Addr) (c0 : Nat) (fs : List S37) (A1 : Option Addr) (c1 : Nat) (ls : List S39) (a0 : Option Addr) (len0 cap0 : Nat) (z0 : List Int) (nm : ByteArray) (which : Int) (w : World) (hst : StV w A0 c0 A1 c1 fs ls) (hsm : SmallS fs ls)
    (w0 : (a0 = none ∧ len0 = 0 ∧ cap0 = 0 ∧ z0 = []) ∨ ∃ x, a0 = some x ∧ len0 ≤ cap0 ∧ cap0 ≤ maxLen ∧ z0.length = cap0 ∧ (∀ i, i < z0.length → w.cell? (x.add i) = some (.int .i64 (z0.getD i 0))) ∧ ∀ n ∈ z0, (Lit.int .i64 n).wf = true) (y0 : len0 * 8 ≤ 140737488351232) (hnm : nm.size ≤ 140737488351232) (hwh : (Lit.int .i64 which).wf = true) :
    Calls Try.prog 4 #[.agg #[.slice A0 fs.length c0, .slice A1 ls.length c1], .slice a0 len0 cap0, .string nm, .int .i64 which] w fun e w' => e = .returned (.bool true) ∧ Below w.heap.size w w' := by
  obtain ⟨l0, rfl, hr0, hm0, hw0, hc0⟩ := ReadsInt.ofRowC w0
  have HR := Aside0.mk (Kd.C_of_reads (d := (0 : Int)) (h1 := fun _ => rfl) hr0)
  clear w0 hr0
  have hu30 := Try.underlying30
  have hu37 := Try.underlying37
  have hu39 := Try.underlying39
  have HST := Aside0.mk hst
  have HSM := Aside0.mk hsm
  clear hst hsm
  go_enter Try.func4, Try.ntmps4
  go_wp2_with fail
  obtain ⟨br, hbr⟩ : ∃ b, b = w.heap.size := ⟨_, rfl⟩
  obtain ⟨w2, hw2⟩ : ∃ W, W = w.alloc (.cells #[.slice A0 fs.length c0, .slice A1 ls.length c1] 30) := ⟨_, rfl⟩
  have HB0 : Aside0 (Below w.heap.size w w2) := ⟨hw2 ▸ below_alloc (Below.refl _ _) _⟩
  have HRW : Aside0 (StC w2 br A0 c0 A1 c1 fs ls) := ⟨by rw [hw2, hbr]; exact StC.new HST.out⟩
  have HR2 := Aside0.mk (Kd.C_below HR.out HB0.out)
  rw [← hw2, ← hbr]
  clear hw2 hbr HR HST
  refine (made_calls a0 cap0 l0 12 w2 HR2.out hc0 (by omega)).mono ?_
  rintro e w3 ⟨v0, v1, g, l, rfl, t, hl, hg, hR0, hR1, ht0, ht1, hI, hB⟩
  have hbase := made_base l (by omega) hg
  have hsm := small_le (made_all l hg)
  generalize (runW [] [] l).1 = fm at hR0 hsm hbase
  generalize (runW [] [] l).2.1 = lm at hR1 hsm hbase
  obtain ⟨B0, d0, rfl⟩ := Kd.R_slice hR0
  obtain ⟨B1, d1, rfl⟩ := Kd.R_slice hR1
  have HS := Aside0.mk (StC.new (StV.ofR hR0 hR1))
  have HSS := Aside0.mk hsm
  have HVA := Aside0.mk hbase.valid
  have hbw := below_alloc (Below.refl w3.heap.size w3) (.cells #[.slice B0 fm.length d0, .slice B1 lm.length d1] 30)
  have HB := Aside0.mk (below_step hB hbw)
  clear hR0 hR1 hI hB hsm hg hl l HR2 ht0 ht1 t hbase hbw
  go_wp2_with fail
  obtain ⟨bs, hbs⟩ : ∃ b, b = w3.heap.size := ⟨_, rfl⟩
  obtain ⟨w4, hw4⟩ : ∃ w', w' = w3.alloc (.cells #[.slice B0 fm.length d0, .slice B1 lm.length d1] 30) := ⟨_, rfl⟩
  rw [← hw4, ← hbs] at HS
  rw [← hw4] at HB
  rw [← hw4, ← hbs]
  clear hw4 hbs w3
  refine (valid_c HS.out.2 HSS.out HVA.out).mono ?_
  rintro e w5 ⟨rfl, hb⟩
  replace HS := Aside0.mk (HS.out.below hb)
  replace HB := Aside0.mk (below_step HB.out hb)
  clear hb w4
  go_wp2_with fail
  have HLEN := Aside0.mk (show fm.length * 32 ≤ 140737488355328 ∧ lm.length * 56 ≤ 140737488355328 by have := valid_small HVA.out; omega)
  refine par4_ (n := 11) [(0, some 24), (1, some 25), (2, some 26), (3, some 27), (4, some 28), (5, some 29), (6, some 30), (7, some 31), (8, some 32), (9, some 11)] [] [] (fun _ W => Below w2.heap.size w2 W ∧ StC W bs B0 d0 B1 d1 fm lm) #[true, true, true, true, true, true, true, true, true, true, false] 1 (fun W W' => Below W.heap.size W W') (clPhi w5.heap.size bs B0 d0 B1 d1 fm lm) (by kernel_rfl) rfl (by kernel_rfl) (fun _ _ _ d _ h => by cases d <;> exact h) (fun _ => Below.refl _ _) (fun _ _ _ h1 h2 => below_step h1 h2) clPhi_keep ?_ ⟨below_drew HB.out, HS.out.below (below_drew (Below.refl _ _))⟩ ?_ ?_ ?_
  · intro i v v' W h hp
    match i with
    | 0 => obtain ⟨b, h1, h2⟩ := hp; exact ⟨b, (h 0 rfl).symm.trans h1, h2⟩
    | 1 => exact (h 1 rfl).symm.trans hp
    | 2 => exact (h 2 rfl).symm.trans hp
    | 3 => obtain ⟨b, c, h1, h2⟩ := hp; exact ⟨b, c, (h 3 rfl).symm.trans h1, h2⟩
    | 4 => obtain ⟨b, h1, h2⟩ := hp; exact ⟨b, (h 4 rfl).symm.trans h1, h2⟩
    | 5 => exact (h 5 rfl).symm.trans hp
    | 6 => exact (h 6 rfl).symm.trans hp
    | 7 => obtain ⟨b, c, h1, h2⟩ := hp; exact ⟨b, c, (h 7 rfl).symm.trans h1, h2⟩
    | 8 => show v' 8 = .agg #[v' 3, v' 7]; rw [← h 8 rfl, ← h 3 (by kernel_rfl), ← h 7 (by kernel_rfl)]; exact hp
    | 9 => obtain ⟨b, h1, h2⟩ := hp; exact ⟨b, (h 9 rfl).symm.trans h1, h2⟩
    | j + 10 => trivial
  · intro i hi hF
    simp only [List.map_cons, List.map_nil, List.mem_cons, List.not_mem_nil, or_false] at hi
    rcases hi with rfl | rfl | rfl | rfl | rfl | rfl | rfl | rfl | rfl | rfl
    · intro o ho b W v n hJ hn hR dep oth
      obtain rfl := Option.some.inj ho
      refine d_value (R := fun W W' => Below W.heap.size W W') (i := 0) (Φ := clPhi w5.heap.size bs B0 d0 B1 d1 fm lm) (x := .slice (some ⟨W.heap.size, 0, none⟩) 0 0) (W' := W.alloc (.cells #[] 37)) ?_ (below_alloc (Below.refl _ _) _) ⟨_, upd_at _ _ _, blk_new _ _, hR.size⟩ ⟨below_alloc hJ.1 _, hJ.2.below (below_alloc (Below.refl _ _) _)⟩
      go_simp
    · intro o ho b W v n hJ hn hR dep oth
      obtain rfl := Option.some.inj ho
      have e1 := ev_tmp (oth 9 (by kernel_rfl))
      refine d_value (R := fun W W' => Below W.heap.size W W') (i := 1) (Φ := clPhi w5.heap.size bs B0 d0 B1 d1 fm lm) (x := .pointer (some ⟨bs, 0, none⟩)) (W' := W) ?_ (Below.refl _ _) (upd_at _ _ _) hJ
      replace e1 : b.tmps[9]?.getD undef = .pointer (some ⟨bs, 0, none⟩) := e1
      go_simp
      try rfl
    · intro o ho b W v n hJ hn hR dep oth
      obtain rfl := Option.some.inj ho
      obtain ⟨h1, h2⟩ := dep 1 25 rfl (by kernel_rfl)
      have e1 := ev_tmp (h1.trans h2)
      have hx := hJ.2.g0
      refine d_value (R := fun W W' => Below W.heap.size W W') (i := 2) (Φ := clPhi w5.heap.size bs B0 d0 B1 d1 fm lm) (x := .slice B0 fm.length d0) (W' := W) ?_ (Below.refl _ _) (upd_at _ _ _) hJ
      replace e1 : b.tmps[25]?.getD undef = .pointer (some ⟨bs, 0, none⟩) := e1
      go_simp
    · intro o ho b W v n hJ hn hR dep oth
      obtain rfl := Option.some.inj ho
      obtain ⟨h1, g0, h2, h3, h4⟩ := dep 0 24 rfl (by kernel_rfl)
      obtain ⟨h5, h6⟩ := dep 2 26 rfl (by kernel_rfl)
      refine ok_append0 (R := fun W W' => Below W.heap.size W W') (i := 3) (Φ := fun i x => clPhi w5.heap.size bs B0 d0 B1 d1 fm lm i (upd v i x)) k37 (.tmp 24) (.tmp 26) 27 37 (.agg #[.string ⟨#[]⟩, .int .u64 0, .bool false]) 32 rfl Try.underlying27 info37 rfl (by decide) (by omega) (h1.trans h2) h3 h4 fm B0 fm.length d0 (h5.trans h6) hJ.2.2.1 (fun _ _ h => h) ?_ ?_
      · have := HLEN.out; omega
      · intro v1 w1 hRr hb
        obtain ⟨T0, t0, rfl⟩ := Kd.R_slice hRr
        exact ⟨hb, ⟨T0, t0, upd_at _ _ _, hRr⟩, below_step hJ.1 hb, hJ.2.below hb⟩
    · intro o ho b W v n hJ hn hR dep oth
      obtain rfl := Option.some.inj ho
      refine d_value (R := fun W W' => Below W.heap.size W W') (i := 4) (Φ := clPhi w5.heap.size bs B0 d0 B1 d1 fm lm) (x := .slice (some ⟨W.heap.size, 0, none⟩) 0 0) (W' := W.alloc (.cells #[] 39)) ?_ (below_alloc (Below.refl _ _) _) ⟨_, upd_at _ _ _, blk_new _ _, hR.size⟩ ⟨below_alloc hJ.1 _, hJ.2.below (below_alloc (Below.refl _ _) _)⟩
      go_simp
    · intro o ho b W v n hJ hn hR dep oth
      obtain rfl := Option.some.inj ho
      have e1 := ev_tmp (oth 9 (by kernel_rfl))
      refine d_value (R := fun W W' => Below W.heap.size W W') (i := 5) (Φ := clPhi w5.heap.size bs B0 d0 B1 d1 fm lm) (x := .pointer (some ⟨bs, 1, none⟩)) (W' := W) ?_ (Below.refl _ _) (upd_at _ _ _) hJ
      replace e1 : b.tmps[9]?.getD undef = .pointer (some ⟨bs, 0, none⟩) := e1
      go_simp
      try rfl
    · intro o ho b W v n hJ hn hR dep oth
      obtain rfl := Option.some.inj ho
      obtain ⟨h1, h2⟩ := dep 5 29 rfl (by kernel_rfl)
      have e1 := ev_tmp (h1.trans h2)
      have hx := hJ.2.g1
      refine d_value (R := fun W W' => Below W.heap.size W W') (i := 6) (Φ := clPhi w5.heap.size bs B0 d0 B1 d1 fm lm) (x := .slice B1 lm.length d1) (W' := W) ?_ (Below.refl _ _) (upd_at _ _ _) hJ
      replace e1 : b.tmps[29]?.getD undef = .pointer (some ⟨bs, 1, none⟩) := e1
      go_simp
    · intro o ho b W v n hJ hn hR dep oth
      obtain rfl := Option.some.inj ho
      obtain ⟨h1, g0, h2, h3, h4⟩ := dep 4 28 rfl (by kernel_rfl)
      obtain ⟨h5, h6⟩ := dep 6 30 rfl (by kernel_rfl)
      refine ok_append0 (R := fun W W' => Below W.heap.size W W') (i := 7) (Φ := fun i x => clPhi w5.heap.size bs B0 d0 B1 d1 fm lm i (upd v i x)) k39 (.tmp 28) (.tmp 30) 28 39 (.agg #[.string ⟨#[]⟩, .string ⟨#[]⟩, .int .u64 0, .string ⟨#[]⟩]) 56 rfl Try.underlying28 info39 rfl (by decide) (by omega) (h1.trans h2) h3 h4 lm B1 lm.length d1 (h5.trans h6) hJ.2.2.2.2.1 (fun _ _ h => h) ?_ ?_
      · have := HLEN.out; omega
      · intro v1 w1 hRr hb
        obtain ⟨T0, t0, rfl⟩ := Kd.R_slice hRr
        exact ⟨hb, ⟨T0, t0, upd_at _ _ _, hRr⟩, below_step hJ.1 hb, hJ.2.below hb⟩
    · intro o ho b W v n hJ hn hR dep oth
      obtain rfl := Option.some.inj ho
      obtain ⟨h1, T0, t0, h2, _⟩ := dep 3 27 rfl (by kernel_rfl)
      obtain ⟨h3, T1, t1, h4, _⟩ := dep 7 31 rfl (by kernel_rfl)
      have e1 := ev_tmp (h1.trans h2)
      have e2 := ev_tmp (h3.trans h4)
      refine d_value (R := fun W W' => Below W.heap.size W W') (i := 8) (Φ := clPhi w5.heap.size bs B0 d0 B1 d1 fm lm) (x := .agg #[.slice T0 fm.length t0, .slice T1 lm.length t1]) (W' := W) ?_ (Below.refl _ _) (by show upd v 8 _ 8 = .agg #[upd v 8 _ 3, upd v 8 _ 7]; rw [upd_at, upd_ne (by decide), upd_ne (by decide), h2, h4]) hJ
      replace e1 : b.tmps[27]?.getD undef = .slice T0 fm.length t0 := e1
      replace e2 : b.tmps[31]?.getD undef = .slice T1 lm.length t1 := e2
      go_simp
      try rfl
    · intro o ho b W v n hJ hn hR dep oth
      obtain rfl := Option.some.inj ho
      refine d_value (R := fun W W' => Below W.heap.size W W') (i := 9) (Φ := clPhi w5.heap.size bs B0 d0 B1 d1 fm lm) (x := .pointer (some ⟨W.heap.size, 0, none⟩)) (W' := W.alloc (.cells #[.slice none 0 0, .slice none 0 0] 30)) ?_ (below_alloc (Below.refl _ _) _) ⟨_, upd_at _ _ _, blk_new _ _, hR.size⟩ ⟨below_alloc hJ.1 _, hJ.2.below (below_alloc (Below.refl _ _) _)⟩
      go_simp
  · intro i hi
    cases hi
  · intro v W hk hv hJ
    have e0 := hv 0 (by decide)
    have e1 : v 1 = _ := hv 1 (by decide)
    have e2 : v 2 = _ := hv 2 (by decide)
    have e3 := hv 3 (by decide)
    have e4 := hv 4 (by decide)
    have e5 : v 5 = _ := hv 5 (by decide)
    have e6 : v 6 = _ := hv 6 (by decide)
    have e7 := hv 7 (by decide)
    have e8 : v 8 = _ := hv 8 (by decide)
    have e9 := hv 9 (by decide)
    obtain ⟨q0, e0, -⟩ := e0
    obtain ⟨T0, t0, e3, hR0⟩ := e3
    obtain ⟨q4, e4, -⟩ := e4
    obtain ⟨T1, t1, e7, hR1⟩ := e7
    obtain ⟨bt, e9, hbt, hbg⟩ := e9
    rw [e3, e7] at e8
    have hB5 : Below w5.heap.size w5 W := below_step (below_drew (Below.refl _ _)) hk
    have HSI := Aside0.mk (show StIs w5 ((W.setCell ⟨bt, 0, none⟩ (.slice T0 fm.length t0)).setCell ⟨bt, 1, none⟩ (.slice T1 lm.length t1)) bt T0 t0 T1 t1 fm lm from ⟨blk_put (blk_put hbt 0 _ rfl) 1 _ rfl, Kd.R_set (Kd.R_set hR0 hbt (by decide) 0 _) (blk_put hbt 0 _ rfl) (by decide) 1 _, Kd.R_set (Kd.R_set hR1 hbt (by decide) 0 _) (blk_put hbt 0 _ rfl) (by decide) 1 _, below_set (below_set hB5 hbg) hbg, hbg⟩)
    have he0 : W.cell? ⟨bt, 0, none⟩ = some (.slice none 0 0) := (blk_cell hbt 0).trans rfl
    have he1 : W.cell? ⟨bt, 1, none⟩ = some (.slice none 0 0) := (blk_cell hbt 1).trans rfl
    have hf0 := blk_frozen hbt 0
    have hf1 := blk_frozen hbt 1
    have hlt := blk_lt hbt
    clear hv hJ hk hR0 hR1 hB5
    simp only [fillE, Act.put, List.setIfInBounds_toArray, List.set_cons_zero, List.set_cons_succ, e0, e1, e2, e3, e4, e5, e6, e7, e8, e9]
    refine one_ (i := 10) (N := none) #[true, true, true, true, true, true, true, true, true, true, true] rfl rfl (by kernel_rfl) (by decide) (fun K hK => ?_)
    refine skip_ (w1 := ?_) (by rfl) rfl ?_ ?_
    rotate_left
    · go_simp
      rfl
    refine hK.out _ _ trivial (fun _ => ?_)
    clear hK K he0 he1 hf0 hf1 hlt hbt hbg e0 e1 e2 e3 e4 e5 e6 e7 e8 e9
    obtain ⟨w6, hw6⟩ : ∃ W', W' = (W.setCell ⟨bt, 0, none⟩ (.slice T0 fm.length t0)).setCell ⟨bt, 1, none⟩ (.slice T1 lm.length t1) := ⟨_, rfl⟩
    rw [← hw6] at HSI ⊢
    clear hw6 W
    refine done_ (by kernel_rfl) ?_
    simp only [Exit.then]
    rename_i K5 hK5 x5
    refine hK5 _ _ ?_
    clear hK5 x5
    apply wp_seq_k
    intro K1 hK1
    go_cut [] (fun wc => ∃ T0 t0 T1 t1 ft lt, Aside0 (SmallS ft lt) ∧ Aside0 (StIs w5 wc bt T0 t0 T1 t1 ft lt))
    case first =>
      have hx0 := HSI.out.cells.1
      have hx1 := HSI.out.cells.2
      by_cases h0 : fm.length = 0
      · go_wp2
        go_meet
        case rel => exact ⟨T0, t0, T1, t1, fm, lm, HSS, HSI⟩
      · by_cases h1 : lm.length = 0
        · go_wp2
          go_meet
          case rel => exact ⟨T0, t0, T1, t1, fm, lm, HSS, HSI⟩
        · obtain ⟨ga, rfl⟩ := HSI.out.form0 (by omega)
          obtain ⟨gb, rfl⟩ := HSI.out.form1 (by omega)
          have hp0 : (0 < (fm.length : Int)) = True := eq_true (by omega)
          have hp1 : (0 < (lm.length : Int)) = True := eq_true (by omega)
          go_upto_block 0 with (fail)
          obtain ⟨q, hq⟩ : ∃ q : Int, q = bits .and .i64 which 3 := ⟨_, rfl⟩
          rw [← hq]
          clear hq
          have HVS := Aside0.mk (valid_small HVA.out)
          by_cases q0_ : q = 0
          · have b0 : (q == 0) = true := by simp [q0_]
            go_wp2_with fail
            obtain ⟨ad, e_, hz0, hz1, hz2⟩ := at_T37 (HSI.out.reads.1) 0 (by omega) (by omega)
            injection e_ with e_
            subst e_
            have hy : rd_T37 fm 0 ∈ fm := by unfold rd_T37; rw [List.getD_eq_getElem?_getD, List.getElem?_eq_getElem (show (0 : Int).toNat < fm.length by simp; omega)]; exact List.getElem_mem _
            obtain ⟨y, hyy⟩ : ∃ y, y = rd_T37 fm 0 := ⟨_, rfl⟩
            rw [← hyy] at hy hz0 hz1 hz2
            have e_ : ((⟨ga, 0, none⟩ : Addr).add ((0 : Int).toNat * 3)) = ⟨ga, 0, none⟩ := rfl
            rw [e_] at hz0 hz1 hz2
            have HY := Aside0.mk hy
            have HZ0 := Aside0.mk hz0
            have HZ1 := Aside0.mk hz1
            have HZ2 := Aside0.mk hz2
            clear hyy e_ hy hz0 hz1 hz2
            refine par_ (n := 10) [(0, some 47), (1, some 48), (2, some 49), (3, some 50), (4, some 51), (5, some 52), (6, some 53)] [] (fun _ W => Below w6.heap.size w6 W ∧ StIs w5 W bt (some ⟨ga, 0, none⟩) t0 (some ⟨gb, 0, none⟩) t1 fm lm) #[true, true, true, true, true, true, true, false, false, false] 3 (fun W W' => Below W.heap.size W W') (apPhi ⟨bt, 0, none⟩ (.slice (some ⟨ga, 0, none⟩) fm.length t0) ⟨ga, 0, none⟩ (.agg #[.string y.f0, .int .u64 y.f1, .bool y.f2]) #[.string y.f0, .int .u64 y.f1, .bool y.f2] 37) (by kernel_rfl) rfl (by kernel_rfl) (Below.refl _ _) (fun _ _ _ h1 h2 => below_step h1 h2) apPhi_keep ⟨below_drew (Below.refl _ _), HSI.out.drew⟩ ?_ ?_
            · intro i hi
              simp only [List.map_cons, List.map_nil, List.mem_cons, List.not_mem_nil, or_false] at hi
              rcases hi with rfl | rfl | rfl | rfl | rfl | rfl | rfl <;> intro o ho b W n hJ hn hR dep oth <;> obtain rfl := Option.some.inj ho
              · have e1 := ev_tmp (oth 11 (by kernel_rfl))
                refine ok_value (R := fun W W' => Below W.heap.size W W') (i := 0) (Φ := apPhi ⟨bt, 0, none⟩ (.slice (some ⟨ga, 0, none⟩) fm.length t0) ⟨ga, 0, none⟩ (.agg #[.string y.f0, .int .u64 y.f1, .bool y.f2]) #[.string y.f0, .int .u64 y.f1, .bool y.f2] 37) (x := .pointer (some ⟨bt, 0, none⟩)) (W' := W) ?_ (Below.refl _ _) rfl hJ
                replace e1 : b.tmps[11]?.getD undef = .pointer (some ⟨bt, 0, none⟩) := e1
                go_simp
              · have e1 := ev_tmp (dep 0 47 rfl (by kernel_rfl))
                have hx := hJ.2.cells.1
                refine ok_value (R := fun W W' => Below W.heap.size W W') (i := 1) (Φ := apPhi ⟨bt, 0, none⟩ (.slice (some ⟨ga, 0, none⟩) fm.length t0) ⟨ga, 0, none⟩ (.agg #[.string y.f0, .int .u64 y.f1, .bool y.f2]) #[.string y.f0, .int .u64 y.f1, .bool y.f2] 37) (x := .slice (some ⟨ga, 0, none⟩) fm.length t0) (W' := W) ?_ (Below.refl _ _) rfl hJ
                replace e1 : b.tmps[47]?.getD undef = .pointer (some ⟨bt, 0, none⟩) := e1
                go_simp
              · have e1 := ev_tmp (oth 11 (by kernel_rfl))
                refine ok_value (R := fun W W' => Below W.heap.size W W') (i := 2) (Φ := apPhi ⟨bt, 0, none⟩ (.slice (some ⟨ga, 0, none⟩) fm.length t0) ⟨ga, 0, none⟩ (.agg #[.string y.f0, .int .u64 y.f1, .bool y.f2]) #[.string y.f0, .int .u64 y.f1, .bool y.f2] 37) (x := .pointer (some ⟨bt, 0, none⟩)) (W' := W) ?_ (Below.refl _ _) rfl hJ
                replace e1 : b.tmps[11]?.getD undef = .pointer (some ⟨bt, 0, none⟩) := e1
                go_simp
              · have e1 := ev_tmp (dep 2 49 rfl (by kernel_rfl))
                have hx := hJ.2.cells.1
                refine ok_value (R := fun W W' => Below W.heap.size W W') (i := 3) (Φ := apPhi ⟨bt, 0, none⟩ (.slice (some ⟨ga, 0, none⟩) fm.length t0) ⟨ga, 0, none⟩ (.agg #[.string y.f0, .int .u64 y.f1, .bool y.f2]) #[.string y.f0, .int .u64 y.f1, .bool y.f2] 37) (x := .slice (some ⟨ga, 0, none⟩) fm.length t0) (W' := W) ?_ (Below.refl _ _) rfl hJ
                replace e1 : b.tmps[49]?.getD undef = .pointer (some ⟨bt, 0, none⟩) := e1
                go_simp
              · have e1 := ev_tmp (dep 3 50 rfl (by kernel_rfl))
                refine ok_value (R := fun W W' => Below W.heap.size W W') (i := 4) (Φ := apPhi ⟨bt, 0, none⟩ (.slice (some ⟨ga, 0, none⟩) fm.length t0) ⟨ga, 0, none⟩ (.agg #[.string y.f0, .int .u64 y.f1, .bool y.f2]) #[.string y.f0, .int .u64 y.f1, .bool y.f2] 37) (x := .pointer (some ⟨ga, 0, none⟩)) (W' := W) ?_ (Below.refl _ _) rfl hJ
                replace e1 : b.tmps[50]?.getD undef = .slice (some ⟨ga, 0, none⟩) fm.length t0 := e1
                go_simp
                try rfl
              · have e1 := ev_tmp (dep 4 51 rfl (by kernel_rfl))
                have hz0 := (hJ.1.cell (World.block_lt_of_cell? w6 _ HZ0.out)).trans HZ0.out
                have hz1 := (hJ.1.cell (World.block_lt_of_cell? w6 _ HZ1.out)).trans HZ1.out
                have hz2 := (hJ.1.cell (World.block_lt_of_cell? w6 _ HZ2.out)).trans HZ2.out
                refine ok_value (R := fun W W' => Below W.heap.size W W') (i := 5) (Φ := apPhi ⟨bt, 0, none⟩ (.slice (some ⟨ga, 0, none⟩) fm.length t0) ⟨ga, 0, none⟩ (.agg #[.string y.f0, .int .u64 y.f1, .bool y.f2]) #[.string y.f0, .int .u64 y.f1, .bool y.f2] 37) (x := .agg #[.string y.f0, .int .u64 y.f1, .bool y.f2]) (W' := W) ?_ (Below.refl _ _) rfl hJ
                replace e1 : b.tmps[51]?.getD undef = .pointer (some ⟨ga, 0, none⟩) := e1
                go_simp
                try rfl
              · have e1 := ev_tmp (dep 5 52 rfl (by kernel_rfl))
                refine ok_value (R := fun W W' => Below W.heap.size W W') (i := 6) (Φ := apPhi ⟨bt, 0, none⟩ (.slice (some ⟨ga, 0, none⟩) fm.length t0) ⟨ga, 0, none⟩ (.agg #[.string y.f0, .int .u64 y.f1, .bool y.f2]) #[.string y.f0, .int .u64 y.f1, .bool y.f2] 37) (x := .slice (some ⟨W.heap.size, 0, none⟩) 1 1) (W' := W.alloc (.cells #[.string y.f0, .int .u64 y.f1, .bool y.f2] 37)) ?_ (below_alloc (Below.refl _ _) _) ⟨_, rfl, blk_new _ _⟩ ⟨below_alloc hJ.1 _, hJ.2.below (below_alloc (Below.refl _ _) _)⟩
                replace e1 : b.tmps[52]?.getD undef = .agg #[.string y.f0, .int .u64 y.f1, .bool y.f2] := e1
                go_simp
                try rfl
            · intro v W hk hv hJ
              have f0 : v 0 = _ := hv 0 (by decide)
              have f1 : v 1 = _ := hv 1 (by decide)
              have f2 : v 2 = _ := hv 2 (by decide)
              have f3 : v 3 = _ := hv 3 (by decide)
              have f4 : v 4 = _ := hv 4 (by decide)
              have f5 : v 5 = _ := hv 5 (by decide)
              obtain ⟨b, f6, hb⟩ := hv 6 (by decide)
              have hC : Kd.C k37 W (some ⟨b, 0, none⟩) 1 [y] := C_of_blk hb (Reps.c3 (by exact k37_mkM W 0 (fun _ => True) y) (Reps.none _ _)) (by simp)
              have HI := Aside0.mk hJ.2
              clear hv hk hJ HSI hb
              simp only [fillE, Act.put, List.setIfInBounds_toArray, List.set_cons_zero, List.set_cons_succ, f0, f1, f2, f3, f4, f5, f6]
              refine one_ (i := 7) (N := some 54) #[true, true, true, true, true, true, true, true, false, false] rfl rfl (by kernel_rfl) (by decide) (fun K hK => ?_)
              refine Kd.R_append_rows_step (w0 := w5) k37 w5.heap.size (by rfl) (.tmp 48) (.tmp 53) 27 37 (.agg #[.string ⟨#[]⟩, .int .u64 0, .bool false]) 32 rfl Try.underlying27 info37 rfl (by decide) (by omega) (.slice (some ⟨ga, 0, none⟩) fm.length t0) fm [y] (some ⟨b, 0, none⟩) 1 1 (fun _ => True) (fun _ => False) rfl rfl ?aO ?aR (fun _ _ h => h) (fun _ h => h.elim) (fun _ _ => trivial) ?aB ?aS ?aL ?_
              (case aO => exact HI.out.2.1)
              (case aR => exact hC)
              (case aB => exact HI.out.2.2.2.1)
              (case aS => exact HI.out.2.2.2.1.size)
              (case aL => have := HVS.out; omega)
              intro u0 w8 ho hb1 hg1 hat1
              obtain ⟨T2, t2, rfl⟩ := Kd.R_slice ho
              have hbt : w8.heap[bt]? = _ := blk_grown HI.out.1 hg1 (fun h => far_row HI.out.2.1 HI.out.1 (by decide) (Option.some.inj h))
              have hoth := Kd.R_over' HI.out.2.2.1 (Kd.R_typed HI.out.2.1) (by decide) hg1
              have hge := HI.out.2.2.2.2
              have HN := Aside0.mk (show StIs w5 (w8.setCell ⟨bt, 0, none⟩ (.slice T2 (fm ++ [y]).length t2)) bt T2 t2 (some ⟨gb, 0, none⟩) t1 (fm ++ [y]) lm from ⟨blk_put hbt 0 _ rfl, Kd.R_set ho hbt (by decide) 0 _, Kd.R_set hoth hbt (by decide) 0 _, below_set hb1 hge, hge⟩)
              rw [show (fm ++ [y]).length = fm.length + 1 from by simp] at HN
              have he0 : w8.cell? ⟨bt, 0, none⟩ = some _ := (blk_cell hbt 0).trans rfl
              have hf := blk_frozen hbt 0
              have hlt := blk_lt hbt
              refine hK.out _ _ trivial (fun _ => ?_)
              clear hK K ho hb1 hg1 hat1 hC hoth hge HI hbt f0 f1 f2 f3 f4 f5 f6
              refine plan_ [(8, 55, false)] ?_
              repeat (
               refine plan_pure (v := ?_) (a' := ?_) rfl rfl (by kernel_rfl) (Or.inl ⟨by rfl, ?_⟩) ?_ ?_ (fun _ _ _ h => h)
               rotate_left
               · intro w'
                 go_simp
                 with_reducible rfl
               rotate_left
               · simp only [Act.put, List.setIfInBounds_toArray, List.set_cons_zero, List.set_cons_succ]
                 rfl)
              refine plan_end ?_
              refine one_ (i := 9) (N := none) #[true, true, true, true, true, true, true, true, true, true] rfl rfl (by kernel_rfl) (by decide) (fun K hK => ?_)
              refine skip_ (w1 := ?_) (by rfl) rfl ?_ ?_
              rotate_left
              · go_simp
                rfl
              refine hK.out _ _ trivial (fun _ => ?_)
              clear hK K he0 hf hlt
              refine done_ (by kernel_rfl) ?_
              go_wp2
              go_meet
              case rel => exact ⟨T2, t2, some ⟨gb, 0, none⟩, t1, fm ++ [y], lm, ⟨⟨fun x hx => (List.mem_append.1 hx).elim (HSS.out.1 x) (fun h => by rw [List.mem_singleton.1 h]; exact HSS.out.1 y HY.out), HSS.out.2⟩⟩, HN⟩
          · have b0 : (q == 0) = false := by simp [q0_]
            by_cases q1_ : q = 1
            · have b1 : (q == 1) = true := by simp [q1_]
              go_wp2_with fail
              obtain ⟨ad, e_, hz0, hz1, hz2, hz3⟩ := at_T39 (HSI.out.reads.2.2.1) 0 (by omega) (by omega)
              injection e_ with e_
              subst e_
              have hy : rd_T39 lm 0 ∈ lm := by unfold rd_T39; rw [List.getD_eq_getElem?_getD, List.getElem?_eq_getElem (show (0 : Int).toNat < lm.length by simp; omega)]; exact List.getElem_mem _
              obtain ⟨y, hyy⟩ : ∃ y, y = rd_T39 lm 0 := ⟨_, rfl⟩
              rw [← hyy] at hy hz0 hz1 hz2 hz3
              have e_ : ((⟨gb, 0, none⟩ : Addr).add ((0 : Int).toNat * 4)) = ⟨gb, 0, none⟩ := rfl
              rw [e_] at hz0 hz1 hz2 hz3
              have HY := Aside0.mk hy
              have HZ0 := Aside0.mk hz0
              have HZ1 := Aside0.mk hz1
              have HZ2 := Aside0.mk hz2
              have HZ3 := Aside0.mk hz3
              clear hyy e_ hy hz0 hz1 hz2 hz3
              refine par_ (n := 10) [(0, some 58), (1, some 59), (2, some 60), (3, some 61), (4, some 62), (5, some 63), (6, some 64)] [] (fun _ W => Below w6.heap.size w6 W ∧ StIs w5 W bt (some ⟨ga, 0, none⟩) t0 (some ⟨gb, 0, none⟩) t1 fm lm) #[true, true, true, true, true, true, true, false, false, false] 3 (fun W W' => Below W.heap.size W W') (apPhi ⟨bt, 1, none⟩ (.slice (some ⟨gb, 0, none⟩) lm.length t1) ⟨gb, 0, none⟩ (.agg #[.string y.f0, .string y.f1, .int .u64 y.f2, .string y.f3]) #[.string y.f0, .string y.f1, .int .u64 y.f2, .string y.f3] 39) (by kernel_rfl) rfl (by kernel_rfl) (Below.refl _ _) (fun _ _ _ h1 h2 => below_step h1 h2) apPhi_keep ⟨below_drew (Below.refl _ _), HSI.out.drew⟩ ?_ ?_
              · intro i hi
                simp only [List.map_cons, List.map_nil, List.mem_cons, List.not_mem_nil, or_false] at hi
                rcases hi with rfl | rfl | rfl | rfl | rfl | rfl | rfl <;> intro o ho b W n hJ hn hR dep oth <;> obtain rfl := Option.some.inj ho
                · have e1 := ev_tmp (oth 11 (by kernel_rfl))
                  refine ok_value (R := fun W W' => Below W.heap.size W W') (i := 0) (Φ := apPhi ⟨bt, 1, none⟩ (.slice (some ⟨gb, 0, none⟩) lm.length t1) ⟨gb, 0, none⟩ (.agg #[.string y.f0, .string y.f1, .int .u64 y.f2, .string y.f3]) #[.string y.f0, .string y.f1, .int .u64 y.f2, .string y.f3] 39) (x := .pointer (some ⟨bt, 1, none⟩)) (W' := W) ?_ (Below.refl _ _) rfl hJ
                  replace e1 : b.tmps[11]?.getD undef = .pointer (some ⟨bt, 0, none⟩) := e1
                  go_simp
                  try rfl
                · have e1 := ev_tmp (dep 0 58 rfl (by kernel_rfl))
                  have hx := hJ.2.cells.2
                  refine ok_value (R := fun W W' => Below W.heap.size W W') (i := 1) (Φ := apPhi ⟨bt, 1, none⟩ (.slice (some ⟨gb, 0, none⟩) lm.length t1) ⟨gb, 0, none⟩ (.agg #[.string y.f0, .string y.f1, .int .u64 y.f2, .string y.f3]) #[.string y.f0, .string y.f1, .int .u64 y.f2, .string y.f3] 39) (x := .slice (some ⟨gb, 0, none⟩) lm.length t1) (W' := W) ?_ (Below.refl _ _) rfl hJ
                  replace e1 : b.tmps[58]?.getD undef = .pointer (some ⟨bt, 1, none⟩) := e1
                  go_simp
                · have e1 := ev_tmp (oth 11 (by kernel_rfl))
                  refine ok_value (R := fun W W' => Below W.heap.size W W') (i := 2) (Φ := apPhi ⟨bt, 1, none⟩ (.slice (some ⟨gb, 0, none⟩) lm.length t1) ⟨gb, 0, none⟩ (.agg #[.string y.f0, .string y.f1, .int .u64 y.f2, .string y.f3]) #[.string y.f0, .string y.f1, .int .u64 y.f2, .string y.f3] 39) (x := .pointer (some ⟨bt, 1, none⟩)) (W' := W) ?_ (Below.refl _ _) rfl hJ
                  replace e1 : b.tmps[11]?.getD undef = .pointer (some ⟨bt, 0, none⟩) := e1
                  go_simp
                  try rfl
                · have e1 := ev_tmp (dep 2 60 rfl (by kernel_rfl))
                  have hx := hJ.2.cells.2
                  refine ok_value (R := fun W W' => Below W.heap.size W W') (i := 3) (Φ := apPhi ⟨bt, 1, none⟩ (.slice (some ⟨gb, 0, none⟩) lm.length t1) ⟨gb, 0, none⟩ (.agg #[.string y.f0, .string y.f1, .int .u64 y.f2, .string y.f3]) #[.string y.f0, .string y.f1, .int .u64 y.f2, .string y.f3] 39) (x := .slice (some ⟨gb, 0, none⟩) lm.length t1) (W' := W) ?_ (Below.refl _ _) rfl hJ
                  replace e1 : b.tmps[60]?.getD undef = .pointer (some ⟨bt, 1, none⟩) := e1
                  go_simp
                · have e1 := ev_tmp (dep 3 61 rfl (by kernel_rfl))
                  refine ok_value (R := fun W W' => Below W.heap.size W W') (i := 4) (Φ := apPhi ⟨bt, 1, none⟩ (.slice (some ⟨gb, 0, none⟩) lm.length t1) ⟨gb, 0, none⟩ (.agg #[.string y.f0, .string y.f1, .int .u64 y.f2, .string y.f3]) #[.string y.f0, .string y.f1, .int .u64 y.f2, .string y.f3] 39) (x := .pointer (some ⟨gb, 0, none⟩)) (W' := W) ?_ (Below.refl _ _) rfl hJ
                  replace e1 : b.tmps[61]?.getD undef = .slice (some ⟨gb, 0, none⟩) lm.length t1 := e1
                  go_simp
                  try rfl
                · have e1 := ev_tmp (dep 4 62 rfl (by kernel_rfl))
                  have hz0 := (hJ.1.cell (World.block_lt_of_cell? w6 _ HZ0.out)).trans HZ0.out
                  have hz1 := (hJ.1.cell (World.block_lt_of_cell? w6 _ HZ1.out)).trans HZ1.out
                  have hz2 := (hJ.1.cell (World.block_lt_of_cell? w6 _ HZ2.out)).trans HZ2.out
                  have hz3 := (hJ.1.cell (World.block_lt_of_cell? w6 _ HZ3.out)).trans HZ3.out
                  refine ok_value (R := fun W W' => Below W.heap.size W W') (i := 5) (Φ := apPhi ⟨bt, 1, none⟩ (.slice (some ⟨gb, 0, none⟩) lm.length t1) ⟨gb, 0, none⟩ (.agg #[.string y.f0, .string y.f1, .int .u64 y.f2, .string y.f3]) #[.string y.f0, .string y.f1, .int .u64 y.f2, .string y.f3] 39) (x := .agg #[.string y.f0, .string y.f1, .int .u64 y.f2, .string y.f3]) (W' := W) ?_ (Below.refl _ _) rfl hJ
                  replace e1 : b.tmps[62]?.getD undef = .pointer (some ⟨gb, 0, none⟩) := e1
                  go_simp
                  try rfl
                · have e1 := ev_tmp (dep 5 63 rfl (by kernel_rfl))
                  refine ok_value (R := fun W W' => Below W.heap.size W W') (i := 6) (Φ := apPhi ⟨bt, 1, none⟩ (.slice (some ⟨gb, 0, none⟩) lm.length t1) ⟨gb, 0, none⟩ (.agg #[.string y.f0, .string y.f1, .int .u64 y.f2, .string y.f3]) #[.string y.f0, .string y.f1, .int .u64 y.f2, .string y.f3] 39) (x := .slice (some ⟨W.heap.size, 0, none⟩) 1 1) (W' := W.alloc (.cells #[.string y.f0, .string y.f1, .int .u64 y.f2, .string y.f3] 39)) ?_ (below_alloc (Below.refl _ _) _) ⟨_, rfl, blk_new _ _⟩ ⟨below_alloc hJ.1 _, hJ.2.below (below_alloc (Below.refl _ _) _)⟩
                  replace e1 : b.tmps[63]?.getD undef = .agg #[.string y.f0, .string y.f1, .int .u64 y.f2, .string y.f3] := e1
                  go_simp
                  try rfl
              · intro v W hk hv hJ
                have f0 : v 0 = _ := hv 0 (by decide)
                have f1 : v 1 = _ := hv 1 (by decide)
                have f2 : v 2 = _ := hv 2 (by decide)
                have f3 : v 3 = _ := hv 3 (by decide)
                have f4 : v 4 = _ := hv 4 (by decide)
                have f5 : v 5 = _ := hv 5 (by decide)
                obtain ⟨b, f6, hb⟩ := hv 6 (by decide)
                have hC : Kd.C k39 W (some ⟨b, 0, none⟩) 1 [y] := C_of_blk hb (Reps.c4 (by exact k39_mkM W 0 (fun _ => True) y) (Reps.none _ _)) (by simp)
                have HI := Aside0.mk hJ.2
                clear hv hk hJ HSI hb
                simp only [fillE, Act.put, List.setIfInBounds_toArray, List.set_cons_zero, List.set_cons_succ, f0, f1, f2, f3, f4, f5, f6]
                refine one_ (i := 7) (N := some 65) #[true, true, true, true, true, true, true, true, false, false] rfl rfl (by kernel_rfl) (by decide) (fun K hK => ?_)
                refine Kd.R_append_rows_step (w0 := w5) k39 w5.heap.size (by rfl) (.tmp 59) (.tmp 64) 28 39 (.agg #[.string ⟨#[]⟩, .string ⟨#[]⟩, .int .u64 0, .string ⟨#[]⟩]) 56 rfl Try.underlying28 info39 rfl (by decide) (by omega) (.slice (some ⟨gb, 0, none⟩) lm.length t1) lm [y] (some ⟨b, 0, none⟩) 1 1 (fun _ => True) (fun _ => False) rfl rfl ?aO ?aR (fun _ _ h => h) (fun _ h => h.elim) (fun _ _ => trivial) ?aB ?aS ?aL ?_
                (case aO => exact HI.out.2.2.1)
                (case aR => exact hC)
                (case aB => exact HI.out.2.2.2.1)
                (case aS => exact HI.out.2.2.2.1.size)
                (case aL => have := HVS.out; omega)
                intro u0 w8 ho hb1 hg1 hat1
                obtain ⟨T2, t2, rfl⟩ := Kd.R_slice ho
                have hbt : w8.heap[bt]? = _ := blk_grown HI.out.1 hg1 (fun h => far_row HI.out.2.2.1 HI.out.1 (by decide) (Option.some.inj h))
                have hoth := Kd.R_over' HI.out.2.1 (Kd.R_typed HI.out.2.2.1) (by decide) hg1
                have hge := HI.out.2.2.2.2
                have HN := Aside0.mk (show StIs w5 (w8.setCell ⟨bt, 1, none⟩ (.slice T2 (lm ++ [y]).length t2)) bt (some ⟨ga, 0, none⟩) t0 T2 t2 fm (lm ++ [y]) from ⟨blk_put hbt 1 _ rfl, Kd.R_set hoth hbt (by decide) 1 _, Kd.R_set ho hbt (by decide) 1 _, below_set hb1 hge, hge⟩)
                rw [show (lm ++ [y]).length = lm.length + 1 from by simp] at HN
                have he1 : w8.cell? ⟨bt, 1, none⟩ = some _ := (blk_cell hbt 1).trans rfl
                have hf := blk_frozen hbt 1
                have hlt := blk_lt hbt
                refine hK.out _ _ trivial (fun _ => ?_)
                clear hK K ho hb1 hg1 hat1 hC hoth hge HI hbt f0 f1 f2 f3 f4 f5 f6
                refine plan_ [(8, 66, false)] ?_
                repeat (
                 refine plan_pure (v := ?_) (a' := ?_) rfl rfl (by kernel_rfl) (Or.inl ⟨by rfl, ?_⟩) ?_ ?_ (fun _ _ _ h => h)
                 rotate_left
                 · intro w'
                   go_simp
                   with_reducible rfl
                 rotate_left
                 · simp only [Act.put, List.setIfInBounds_toArray, List.set_cons_zero, List.set_cons_succ]
                   rfl)
                refine plan_end ?_
                refine one_ (i := 9) (N := none) #[true, true, true, true, true, true, true, true, true, true] rfl rfl (by kernel_rfl) (by decide) (fun K hK => ?_)
                refine skip_ (w1 := ?_) (by rfl) rfl ?_ ?_
                rotate_left
                · go_simp
                  rfl
                refine hK.out _ _ trivial (fun _ => ?_)
                clear hK K he1 hf hlt
                refine done_ (by kernel_rfl) ?_
                go_wp2
                go_meet
                case rel => exact ⟨some ⟨ga, 0, none⟩, t0, T2, t2, fm, lm ++ [y], ⟨⟨HSS.out.1, fun x hx => (List.mem_append.1 hx).elim (HSS.out.2 x) (fun h => by rw [List.mem_singleton.1 h]; exact HSS.out.2 y HY.out)⟩⟩, HN⟩
            · have b1 : (q == 1) = false := by simp [q1_]
              by_cases q2_ : q = 2
              · have b2 : (q == 2) = true := by simp [q2_]
                go_wp2_with fail
                obtain ⟨ad, e_, hz0, hz1, hz2, hz3⟩ := at_T39 (HSI.out.reads.2.2.1) 0 (by omega) (by omega)
                injection e_ with e_
                subst e_
                have hy : rd_T39 lm 0 ∈ lm := by unfold rd_T39; rw [List.getD_eq_getElem?_getD, List.getElem?_eq_getElem (show (0 : Int).toNat < lm.length by simp; omega)]; exact List.getElem_mem _
                obtain ⟨y, hyy⟩ : ∃ y, y = rd_T39 lm 0 := ⟨_, rfl⟩
                have hl3 := HSI.out.l3 0 (by omega) (by omega) y.f0
                rw [← hyy] at hy hz0 hl3
                have e_ : ((⟨gb, 0, none⟩ : Addr).add ((0 : Int).toNat * 4)) = ⟨gb, 0, none⟩ := rfl
                rw [e_] at hz0
                have HY := Aside0.mk hy
                have HZ0 := Aside0.mk hz0
                clear hyy e_ hy hz0 hz1 hz2 hz3 hl3
                refine par_ (n := 10) [(0, some 69), (1, some 70), (2, some 71), (3, some 72), (4, some 73), (5, some 74), (6, some 75)] [] (fun _ W => Below w6.heap.size w6 W ∧ StIs w5 W bt (some ⟨ga, 0, none⟩) t0 (some ⟨gb, 0, none⟩) t1 fm lm) #[true, true, true, true, true, true, true, false, false, false] 3 (fun W W' => Below W.heap.size W W') (prPhi ⟨bt, 1, none⟩ (.slice (some ⟨gb, 0, none⟩) lm.length t1) ⟨gb, 0, none⟩ y.f0) (by kernel_rfl) rfl (by kernel_rfl) (Below.refl _ _) (fun _ _ _ h1 h2 => below_step h1 h2) prPhi_keep ⟨below_drew (Below.refl _ _), HSI.out.drew⟩ ?_ ?_
                · intro i hi
                  simp only [List.map_cons, List.map_nil, List.mem_cons, List.not_mem_nil, or_false] at hi
                  rcases hi with rfl | rfl | rfl | rfl | rfl | rfl | rfl <;> intro o ho b W n hJ hn hR dep oth <;> obtain rfl := Option.some.inj ho
                  · have e1 := ev_tmp (oth 11 (by kernel_rfl))
                    refine ok_value (R := fun W W' => Below W.heap.size W W') (i := 0) (Φ := prPhi ⟨bt, 1, none⟩ (.slice (some ⟨gb, 0, none⟩) lm.length t1) ⟨gb, 0, none⟩ y.f0) (x := .pointer (some ⟨bt, 1, none⟩)) (W' := W) ?_ (Below.refl _ _) rfl hJ
                    replace e1 : b.tmps[11]?.getD undef = .pointer (some ⟨bt, 0, none⟩) := e1
                    go_simp
                    try rfl
                  · have e1 := ev_tmp (dep 0 69 rfl (by kernel_rfl))
                    have hx := hJ.2.cells.2
                    refine ok_value (R := fun W W' => Below W.heap.size W W') (i := 1) (Φ := prPhi ⟨bt, 1, none⟩ (.slice (some ⟨gb, 0, none⟩) lm.length t1) ⟨gb, 0, none⟩ y.f0) (x := .slice (some ⟨gb, 0, none⟩) lm.length t1) (W' := W) ?_ (Below.refl _ _) rfl hJ
                    replace e1 : b.tmps[69]?.getD undef = .pointer (some ⟨bt, 1, none⟩) := e1
                    go_simp
                  · have e1 := ev_tmp (oth 11 (by kernel_rfl))
                    refine ok_value (R := fun W W' => Below W.heap.size W W') (i := 2) (Φ := prPhi ⟨bt, 1, none⟩ (.slice (some ⟨gb, 0, none⟩) lm.length t1) ⟨gb, 0, none⟩ y.f0) (x := .pointer (some ⟨bt, 1, none⟩)) (W' := W) ?_ (Below.refl _ _) rfl hJ
                    replace e1 : b.tmps[11]?.getD undef = .pointer (some ⟨bt, 0, none⟩) := e1
                    go_simp
                    try rfl
                  · have e1 := ev_tmp (dep 2 71 rfl (by kernel_rfl))
                    have hx := hJ.2.cells.2
                    refine ok_value (R := fun W W' => Below W.heap.size W W') (i := 3) (Φ := prPhi ⟨bt, 1, none⟩ (.slice (some ⟨gb, 0, none⟩) lm.length t1) ⟨gb, 0, none⟩ y.f0) (x := .slice (some ⟨gb, 0, none⟩) lm.length t1) (W' := W) ?_ (Below.refl _ _) rfl hJ
                    replace e1 : b.tmps[71]?.getD undef = .pointer (some ⟨bt, 1, none⟩) := e1
                    go_simp
                  · have e1 := ev_tmp (dep 3 72 rfl (by kernel_rfl))
                    refine ok_value (R := fun W W' => Below W.heap.size W W') (i := 4) (Φ := prPhi ⟨bt, 1, none⟩ (.slice (some ⟨gb, 0, none⟩) lm.length t1) ⟨gb, 0, none⟩ y.f0) (x := .pointer (some ⟨gb, 0, none⟩)) (W' := W) ?_ (Below.refl _ _) rfl hJ
                    replace e1 : b.tmps[72]?.getD undef = .slice (some ⟨gb, 0, none⟩) lm.length t1 := e1
                    go_simp
                    try rfl
                  · have e1 := ev_tmp (dep 4 73 rfl (by kernel_rfl))
                    refine ok_value (R := fun W W' => Below W.heap.size W W') (i := 5) (Φ := prPhi ⟨bt, 1, none⟩ (.slice (some ⟨gb, 0, none⟩) lm.length t1) ⟨gb, 0, none⟩ y.f0) (x := .pointer (some ⟨gb, 0, none⟩)) (W' := W) ?_ (Below.refl _ _) rfl hJ
                    replace e1 : b.tmps[73]?.getD undef = .pointer (some ⟨gb, 0, none⟩) := e1
                    go_simp
                    try rfl
                  · have e1 := ev_tmp (dep 5 74 rfl (by kernel_rfl))
                    have hz0 := (hJ.1.cell (World.block_lt_of_cell? w6 _ HZ0.out)).trans HZ0.out
                    refine ok_value (R := fun W W' => Below W.heap.size W W') (i := 6) (Φ := prPhi ⟨bt, 1, none⟩ (.slice (some ⟨gb, 0, none⟩) lm.length t1) ⟨gb, 0, none⟩ y.f0) (x := .string y.f0) (W' := W) ?_ (Below.refl _ _) rfl hJ
                    replace e1 : b.tmps[74]?.getD undef = .pointer (some ⟨gb, 0, none⟩) := e1
                    go_simp
                · intro v W hk hv hJ
                  have f0 : v 0 = _ := hv 0 (by decide)
                  have f1 : v 1 = _ := hv 1 (by decide)
                  have f2 : v 2 = _ := hv 2 (by decide)
                  have f3 : v 3 = _ := hv 3 (by decide)
                  have f4 : v 4 = _ := hv 4 (by decide)
                  have f5 : v 5 = _ := hv 5 (by decide)
                  have f6 : v 6 = _ := hv 6 (by decide)
                  have HI := Aside0.mk hJ.2
                  clear hv hk hJ HSI
                  simp only [fillE, Act.put, List.setIfInBounds_toArray, List.set_cons_zero, List.set_cons_succ, f0, f1, f2, f3, f4, f5, f6]
                  refine plan_ [(7, 76, false), (8, 77, false)] ?_
                  repeat (
                   refine plan_pure (v := ?_) (a' := ?_) rfl rfl (by kernel_rfl) (Or.inl ⟨by rfl, ?_⟩) ?_ ?_ (fun _ _ _ h => h)
                   rotate_left
                   · intro w'
                     go_simp
                     try with_reducible rfl
                   rotate_left
                   · simp only [Act.put, List.setIfInBounds_toArray, List.set_cons_zero, List.set_cons_succ]
                     rfl)
                  refine plan_end ?_
                  obtain ⟨⟨u_, hu_⟩, hf, hN, -⟩ := HI.out.l3 0 (by omega) (by omega) y.f0
                  have HN := Aside0.mk hN
                  replace hu_ : W.cell? ⟨gb, 3, none⟩ = some u_ := hu_
                  replace hf : W.frozen? ⟨gb, 3, none⟩ = false := hf
                  clear hN f0 f1 f2 f3 f4 f5 f6
                  refine one_ (i := 9) (N := none) #[true, true, true, true, true, true, true, true, true, true] rfl rfl (by kernel_rfl) (by decide) (fun K hK => ?_)
                  refine skip_ (w1 := W.setCell ⟨gb, 3, none⟩ (.string y.f0)) (by rfl) rfl ?_ ?_
                  · go_simp
                    try rfl
                  refine hK.out _ _ trivial (fun _ => ?_)
                  clear hK K hu_ hf
                  refine done_ (by kernel_rfl) ?_
                  go_wp2
                  go_meet
                  case rel => exact ⟨_, t0, _, t1, fm, _, ⟨⟨HSS.out.1, fun x hx => by
                    rcases List.mem_or_eq_of_mem_set hx with h | rfl
                    · exact HSS.out.2 x h
                    · have hm := HSS.out.2 _ (rd_mem_l lm (by omega))
                      exact ⟨hm.1, hm.2.1, (HSS.out.2 y HY.out).1⟩⟩⟩, HN⟩
              · have b2 : (q == 2) = false := by simp [q2_]
                by_cases q3_ : q = 3
                · have b3 : (q == 3) = true := by simp [q3_]
                  obtain ⟨⟨u_, hu_⟩, hf, hN, -⟩ := HSI.out.f0 0 (by omega) (by omega) ⟨#[110, 111, 32, 110, 97, 109, 101]⟩
                  have HN := Aside0.mk hN
                  replace hu_ : w6.cell? ⟨ga, 0, none⟩ = some u_ := hu_
                  replace hf : w6.frozen? ⟨ga, 0, none⟩ = false := hf
                  clear hN
                  go_wp2
                  go_meet
                  case rel => exact ⟨_, t0, _, t1, _, lm, ⟨⟨fun x hx => by
                    rcases List.mem_or_eq_of_mem_set hx with h | rfl
                    · exact HSS.out.1 x h
                    · exact (by decide : (⟨#[110, 111, 32, 110, 97, 109, 101]⟩ : ByteArray).size ≤ 140737488351232), HSS.out.2⟩⟩, HN⟩
                · have b3 : (q == 3) = false := by simp [q3_]
                  go_wp2
                  go_meet
                  case rel => exact ⟨_, t0, _, t1, fm, lm, HSS, HSI⟩
    case rest =>
      clear HSI w6
      obtain ⟨T0, t0, T1, t1, ft, lt, HSt, HSI⟩ := hcut
      have hb5 := HSI.out.2.2.2.1
      have HRC := Aside0.mk ((HRW.out.below HB.out).below hb5)
      have HSC := Aside0.mk (HS.out.below hb5)
      have HTC := Aside0.mk (show StC wc bt T0 t0 T1 t1 ft lt from ⟨HSI.out.1, StV.ofR HSI.out.2.1 HSI.out.2.2.1⟩)
      have HBC := Aside0.mk (below_step HB.out hb5)
      have hx0 := HRC.out.g0
      have hx1 := HRC.out.g1
      have hx2 := HSC.out.g0
      have hx3 := HSC.out.g1
      have hx4 := HTC.out.g0
      have hx5 := HTC.out.g1
      clear hb5 HSI HRW HS HB w5
      go_wp2_with fail
      obtain ⟨w6, hw6⟩ : ∃ W', W' = wc.alloc (.cells #[.slice A0 fs.length c0, .slice A1 ls.length c1, .slice B0 fm.length d0, .slice B1 lm.length d1, .slice T0 ft.length t0, .slice T1 lt.length t1] 30) := ⟨_, rfl⟩
      have hbw : Below wc.heap.size wc w6 := hw6 ▸ below_alloc (Below.refl _ _) _
      have HM : Aside0 (MsIs w2 w6 wc.heap.size A0 c0 A1 c1 fs ls B0 d0 B1 d1 fm lm T0 t0 T1 t1 ft lt) := ⟨⟨below_step HBC.out hbw, by rw [hw6]; exact blk_new _ _, HRC.out.2.below hbw, HSC.out.2.below hbw, HTC.out.2.below hbw⟩⟩
      rw [← hw6]
      obtain ⟨bl, hbl⟩ : ∃ b, b = wc.heap.size := ⟨_, rfl⟩
      rw [← hbl] at HM ⊢
      obtain ⟨ad, had⟩ : ∃ a : Addr, a = ⟨bl, 0, none⟩ := ⟨_, rfl⟩
      rw [← had]
      have HAD := Aside0.mk had
      clear hw6 hbw hbl HBC HSC HRC HTC hx0 hx1 hx2 hx3 hx4 hx5 had wc
      go_loopw [89] (fun i wr => ∃ k : Nat, k ≤ 3 ∧ i = .int .i64 k ∧ Aside0 (MsIs w2 wr bl A0 c0 A1 c1 fs ls B0 d0 B1 d1 fm lm T0 t0 T1 t1 ft lt)) (fun i _ => 3 - (intOf i).toNat)
      case atStart => exact ⟨0, by omega, rfl, HM⟩
      case round =>
        clear HM w6
        obtain ⟨k, hk, rfl, HM⟩ := hrel
        by_cases hlt : k < 3
        · obtain ⟨X0, x0, X1, x1, f, l, hy0, hy1, hv, hs⟩ := HM.out.state HSM.out HSS.out HSt.out HAD.out k hlt
          have HV := Aside0.mk hv
          have HSf := Aside0.mk hs
          clear hv hs
          have hk3 : decide ((k : Int) < 3) = true := decide_eq_true (by omega)
          go_wp2_with fail
          obtain ⟨wx, hwx⟩ : ∃ W', W' = wr.alloc (.cells #[.slice X0 f.length x0, .slice X1 l.length x1] 30) := ⟨_, rfl⟩
          have HX := Aside0.mk (StC.new HV.out)
          have hbw : Below wr.heap.size wr wx := hwx ▸ below_alloc (Below.refl _ _) _
          rw [← hwx] at HX ⊢
          replace HM := Aside0.mk (HM.out.below hbw)
          obtain ⟨bx, hbx⟩ : ∃ b, b = wr.heap.size := ⟨_, rfl⟩
          rw [← hbx] at HX ⊢
          clear hwx hbw hbx HV hy0 hy1 wr
          obtain ⟨vb, hvb⟩ : ∃ b, validB f l = b := ⟨_, rfl⟩
          have HVB := Aside0.mk hvb
          clear hvb
          refine par_ (n := 5) [(0, some 93), (1, some 94), (2, some 95), (3, some 96), (4, some 97)] [] (fun _ W => MsIs w2 W bl A0 c0 A1 c1 fs ls B0 d0 B1 d1 fm lm T0 t0 T1 t1 ft lt ∧ StC W bx X0 x0 X1 x1 f l) #[true, true, true, true, true] 0 (fun W W' => Below W.heap.size W W') (vaPhi (.agg #[.slice X0 f.length x0, .slice X1 l.length x1]) vb) (by kernel_rfl) rfl (by kernel_rfl) (Below.refl _ _) (fun _ _ _ h1 h2 => below_step h1 h2) vaPhi_keep ⟨HM.out.below (below_drew (Below.refl _ _)), HX.out.below (below_drew (Below.refl _ _))⟩ ?_ ?_
          · intro i hi
            simp only [List.map_cons, List.map_nil, List.mem_cons, List.not_mem_nil, or_false] at hi
            rcases hi with rfl | rfl | rfl | rfl | rfl <;> intro o ho b W n hJ hn hR dep oth <;> obtain rfl := Option.some.inj ho
            · have e1 := ev_tmp (oth 13 (by kernel_rfl))
              have hx0 := hJ.2.g0
              have hx1 := hJ.2.g1
              refine ok_value (R := fun W W' => Below W.heap.size W W') (i := 0) (Φ := vaPhi (.agg #[.slice X0 f.length x0, .slice X1 l.length x1]) vb) (x := .agg #[.slice X0 f.length x0, .slice X1 l.length x1]) (W' := W) ?_ (Below.refl _ _) rfl hJ
              replace e1 : b.tmps[13]?.getD undef = .pointer (some ⟨bx, 0, none⟩) := e1
              go_simp
            · have e1 : b.eval (.tmp 93) = _ := dep 0 93 rfl (by kernel_rfl)
              exact ok_call (R := fun W W' => Below W.heap.size W W') (i := 1) (Φ := vaPhi (.agg #[.slice X0 f.length x0, .slice X1 l.length x1]) vb) Try.func13 (by kernel_rfl) rfl #[.agg #[.slice X0 f.length x0, .slice X1 l.length x1]] rfl (by rw [← e1]; simp [Act.eval]) ((valid_c hJ.2.2 HSf.out HVB.out).mono fun e W' ⟨he, hb⟩ => ⟨_, he, hb, rfl, hJ.1.below hb, hJ.2.below hb⟩)
            · have e1 := ev_tmp (oth 13 (by kernel_rfl))
              have hx0 := hJ.2.g0
              have hx1 := hJ.2.g1
              refine ok_value (R := fun W W' => Below W.heap.size W W') (i := 2) (Φ := vaPhi (.agg #[.slice X0 f.length x0, .slice X1 l.length x1]) vb) (x := .agg #[.slice X0 f.length x0, .slice X1 l.length x1]) (W' := W) ?_ (Below.refl _ _) rfl hJ
              replace e1 : b.tmps[13]?.getD undef = .pointer (some ⟨bx, 0, none⟩) := e1
              go_simp
            · have e1 : b.eval (.tmp 95) = _ := dep 2 95 rfl (by kernel_rfl)
              exact ok_call (R := fun W W' => Below W.heap.size W W') (i := 3) (Φ := vaPhi (.agg #[.slice X0 f.length x0, .slice X1 l.length x1]) vb) Try.func14 (by kernel_rfl) rfl #[.agg #[.slice X0 f.length x0, .slice X1 l.length x1]] rfl (by rw [← e1]; simp [Act.eval]) ((rvalid_c hJ.2.2 HSf.out HVB.out).mono fun e W' ⟨he, hb⟩ => ⟨_, he, hb, rfl, hJ.1.below hb, hJ.2.below hb⟩)
            · have e1 := ev_tmp (dep 1 94 rfl (by kernel_rfl))
              have e2 := ev_tmp (dep 3 96 rfl (by kernel_rfl))
              refine ok_value (R := fun W W' => Below W.heap.size W W') (i := 4) (Φ := vaPhi (.agg #[.slice X0 f.length x0, .slice X1 l.length x1]) vb) (x := .bool false) (W' := W) ?_ (Below.refl _ _) rfl hJ
              replace e1 : b.tmps[94]?.getD undef = .bool vb := e1
              replace e2 : b.tmps[96]?.getD undef = .bool vb := e2
              cases vb <;> go_simp
          · intro v W hk2 hv hJ
            have ev : v 4 = .bool false := hv 4 (by decide)
            clear hv hk2
            refine done_ (by kernel_rfl) ?_
            simp only [fillE, Act.put, List.setIfInBounds_toArray, List.set_cons_zero, List.set_cons_succ, ev, hk3]
            replace HM := Aside0.mk hJ.1
            replace HX := Aside0.mk hJ.2
            clear hJ ev HVB wx
            go_wp2_with fail
            obtain ⟨w7, hw7⟩ : ∃ W', W' = W.alloc (.cells (csV nm).toArray 9) := ⟨_, rfl⟩
            have hbw : Below W.heap.size W w7 := hw7 ▸ below_alloc (Below.refl _ _) _
            have HN : Aside0 (w7.heap[W.heap.size]? = some (.cells (csV nm).toArray 9 (0, 0))) := ⟨by rw [hw7]; exact blk_new _ _⟩
            change Code.wp _ _ _ _ (W.alloc (.cells (csV nm).toArray 9))
            rw [← hw7]
            replace HM := Aside0.mk (HM.out.below hbw)
            replace HX := Aside0.mk (HX.out.below hbw)
            obtain ⟨bn, hbn⟩ : ∃ b, b = W.heap.size := ⟨_, rfl⟩
            rw [← hbn] at HN ⊢
            clear hw7 hbw hbn W
            go_loopw [101] (fun i wr => ∃ j : Nat, j ≤ 4 ∧ i = .int .i64 j ∧ Aside0 (MsIs w2 wr bl A0 c0 A1 c1 fs ls B0 d0 B1 d1 fm lm T0 t0 T1 t1 ft lt) ∧ Aside0 (StC wr bx X0 x0 X1 x1 f l) ∧ Aside0 (wr.heap[bn]? = some (.cells (csV nm).toArray 9 (0, 0)))) (fun i _ => 4 - (intOf i).toNat)
            case atStart => exact ⟨0, by omega, rfl, HM, HX, HN⟩
            case round =>
              clear HM HX HN w7
              obtain ⟨j, hj, rfl, HM, HX, HN⟩ := hrel
              by_cases hjl : j < 4
              · obtain ⟨u, hu, nn, rfl, _⟩ := arr_at (csV_ok nm) j hjl
                have hn : wr.cell? ⟨bn, j, none⟩ = some (.string nn) := (blk_cell HN.out j).trans hu
                clear hu
                go_wp2_with fail
                obtain ⟨sv, hsv⟩ : ∃ s, statusV f l nn = s := ⟨_, rfl⟩
                have HSV := Aside0.mk hsv
                clear hsv hn
                refine par_ (n := 7) [(0, some 105), (1, some 106), (2, some 107), (3, some 108), (4, some 109), (5, some 110), (6, some 111)] [] (fun _ W => (MsIs w2 W bl A0 c0 A1 c1 fs ls B0 d0 B1 d1 fm lm T0 t0 T1 t1 ft lt ∧ W.heap[bn]? = some (.cells (csV nm).toArray 9 (0, 0))) ∧ StC W bx X0 x0 X1 x1 f l) #[true, true, true, true, true, true, true] 0 (fun W W' => Below W.heap.size W W') (stPhi (.agg #[.slice X0 f.length x0, .slice X1 l.length x1]) nn sv) (by kernel_rfl) rfl (by kernel_rfl) (Below.refl _ _) (fun _ _ _ h1 h2 => below_step h1 h2) stPhi_keep ⟨⟨HM.out.below (below_drew (Below.refl _ _)), blk_below HN.out (below_drew (Below.refl _ _))⟩, HX.out.below (below_drew (Below.refl _ _))⟩ ?_ ?_
                · intro i hi
                  simp only [List.map_cons, List.map_nil, List.mem_cons, List.not_mem_nil, or_false] at hi
                  rcases hi with rfl | rfl | rfl | rfl | rfl | rfl | rfl <;> intro o ho b W n hJ hn hR dep oth <;> obtain rfl := Option.some.inj ho
                  · have e1 := ev_tmp (oth 13 (by kernel_rfl))
                    have hx0 := hJ.2.g0
                    have hx1 := hJ.2.g1
                    refine ok_value (R := fun W W' => Below W.heap.size W W') (i := 0) (Φ := stPhi (.agg #[.slice X0 f.length x0, .slice X1 l.length x1]) nn sv) (x := .agg #[.slice X0 f.length x0, .slice X1 l.length x1]) (W' := W) ?_ (Below.refl _ _) rfl hJ
                    replace e1 : b.tmps[13]?.getD undef = .pointer (some ⟨bx, 0, none⟩) := e1
                    go_simp
                  · exact ok_value (R := fun W W' => Below W.heap.size W W') (i := 1) (Φ := stPhi (.agg #[.slice X0 f.length x0, .slice X1 l.length x1]) nn sv) rfl (Below.refl _ _) ((oth 15 (by kernel_rfl)).trans rfl) hJ
                  · have e1 : b.eval (.tmp 105) = _ := dep 0 105 rfl (by kernel_rfl)
                    have e2 : b.eval (.tmp 106) = _ := dep 1 106 rfl (by kernel_rfl)
                    exact ok_call (R := fun W W' => Below W.heap.size W W') (i := 2) (Φ := stPhi (.agg #[.slice X0 f.length x0, .slice X1 l.length x1]) nn sv) Try.func15 (by kernel_rfl) rfl #[.agg #[.slice X0 f.length x0, .slice X1 l.length x1], .string nn] rfl (by rw [← e1, ← e2]; simp [Act.eval]) ((status_c hJ.2.2 nn HSV.out).mono fun e W' ⟨he, hb⟩ => ⟨_, he, hb, rfl, ⟨hJ.1.1.below hb, blk_below hJ.1.2 hb⟩, hJ.2.below hb⟩)
                  · have e1 := ev_tmp (oth 13 (by kernel_rfl))
                    have hx0 := hJ.2.g0
                    have hx1 := hJ.2.g1
                    refine ok_value (R := fun W W' => Below W.heap.size W W') (i := 3) (Φ := stPhi (.agg #[.slice X0 f.length x0, .slice X1 l.length x1]) nn sv) (x := .agg #[.slice X0 f.length x0, .slice X1 l.length x1]) (W' := W) ?_ (Below.refl _ _) rfl hJ
                    replace e1 : b.tmps[13]?.getD undef = .pointer (some ⟨bx, 0, none⟩) := e1
                    go_simp
                  · exact ok_value (R := fun W W' => Below W.heap.size W W') (i := 4) (Φ := stPhi (.agg #[.slice X0 f.length x0, .slice X1 l.length x1]) nn sv) rfl (Below.refl _ _) ((oth 15 (by kernel_rfl)).trans rfl) hJ
                  · have e1 : b.eval (.tmp 108) = _ := dep 3 108 rfl (by kernel_rfl)
                    have e2 : b.eval (.tmp 109) = _ := dep 4 109 rfl (by kernel_rfl)
                    exact ok_call (R := fun W W' => Below W.heap.size W W') (i := 5) (Φ := stPhi (.agg #[.slice X0 f.length x0, .slice X1 l.length x1]) nn sv) Try.func16 (by kernel_rfl) rfl #[.agg #[.slice X0 f.length x0, .slice X1 l.length x1], .string nn] rfl (by rw [← e1, ← e2]; simp [Act.eval]) ((rstatus_c hJ.2.2 nn HSV.out).mono fun e W' ⟨he, hb⟩ => ⟨_, he, hb, rfl, ⟨hJ.1.1.below hb, blk_below hJ.1.2 hb⟩, hJ.2.below hb⟩)
                  · have e1 := ev_tmp (dep 2 107 rfl (by kernel_rfl))
                    have e2 := ev_tmp (dep 5 110 rfl (by kernel_rfl))
                    refine ok_value (R := fun W W' => Below W.heap.size W W') (i := 6) (Φ := stPhi (.agg #[.slice X0 f.length x0, .slice X1 l.length x1]) nn sv) (x := .bool false) (W' := W) ?_ (Below.refl _ _) rfl hJ
                    replace e1 : b.tmps[107]?.getD undef = .int .i64 sv := e1
                    replace e2 : b.tmps[110]?.getD undef = .int .i64 sv := e2
                    go_simp
                · intro v W hk2 hv hJ
                  have ev : v 6 = .bool false := hv 6 (by decide)
                  clear hv hk2
                  refine done_ (by kernel_rfl) ?_
                  simp only [fillE, Act.put, List.setIfInBounds_toArray, List.set_cons_zero, List.set_cons_succ, ev]
                  replace HM := Aside0.mk hJ.1.1
                  replace HN := Aside0.mk hJ.1.2
                  replace HX := Aside0.mk hJ.2
                  clear hJ ev
                  go_wp2
                  go_roundw
                  case rel => exact ⟨j + 1, by omega, by go_num, HM, HX, HN⟩
                  case measure => simp [intOf]; omega
              · obtain rfl : j = 4 := by omega
                go_wp2
                go_roundw
                case rel => exact ⟨k + 1, by omega, by go_num, HM⟩
                case measure => simp [intOf]; omega
        · obtain rfl : k = 3 := by omega
          go_wp2_with fail
          refine (awake_at wr).mono ?_
          rintro e wz ⟨rfl, hb⟩
          have HZ := Aside0.mk (below_then HB0.out HB0.out.size (below_step HM.out.1 hb))
          clear hb
          go_wp2
          go_ret
          exact ⟨rfl, HZ.out⟩

end Go.Proofs.Ytpnhkmicepmciaa.Y

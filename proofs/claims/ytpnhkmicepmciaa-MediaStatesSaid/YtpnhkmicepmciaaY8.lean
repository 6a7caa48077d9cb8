/- A part of this claim's walks: functions' contracts, or plain lemmas; conditions: each one's own. -/
import Derived.Test.YtpnhkmicepmciaaY0
import Derived.Test.YtpnhkmicepmciaaY4
import Derived.Test.YtpnhkmicepmciaaY5
import Derived.Test.YtpnhkmicepmciaaY6
import Derived.Test.YtpnhkmicepmciaaY7
import Derived.Test.YtpnhkmicepmciaaPar
namespace Go.Proofs.Ytpnhkmicepmciaa.Y
open Go.RowKit Go.Proofs.YtpnhkmicepmciaaW.PrintWords Go.Proofs.YtpnhkmicepmciaaW.PrintLast Go.Proofs.YtpnhkmicepmciaaW.PrintMore Go.Proofs.Ytpnhkmicepmciaa.Par
attribute [local go_sem] max2_int min2_int max_two min_two max_three min_three max_four min_four   -- for this text's walks alone
set_option linter.unusedVariables false
set_option linter.unusedSimpArgs false
def StIs (w0 W : World) (g : Nat) (A0 : Option Addr) (c0 : Nat) (A1 : Option Addr) (c1 : Nat) (fs : List S37) (ls : List S39) : Prop :=
 W.heap[g]? = some (.cells #[.slice A0 fs.length c0, .slice A1 ls.length c1] 30 (0, 0)) ∧
  Kd.R k37 37 W w0.heap.size (fun _ => True) (.slice A0 fs.length c0) fs ∧
  Kd.R k39 39 W w0.heap.size (fun _ => True) (.slice A1 ls.length c1) ls ∧ Below w0.heap.size w0 W ∧ w0.heap.size ≤ g
def StAt (w0 W : World) (g : Nat) (fs : List S37) (ls : List S39) : Prop := ∃ A0 c0 A1 c1, StIs w0 W g A0 c0 A1 c1 fs ls
section
variable {w0 W W1 : World} {g ga : Nat} {A0 A1 : Option Addr} {c0 c1 : Nat} {fs : List S37} {ls : List S39}
theorem StIs.below (h : StIs w0 W g A0 c0 A1 c1 fs ls) (hb : Below W.heap.size W W1) : StIs w0 W1 g A0 c0 A1 c1 fs ls := by
 obtain ⟨h1, h2, h3, h4, h5⟩ := h
 exact ⟨blk_below h1 hb, Kd.R_below h2 hb, Kd.R_below h3 hb, below_then h4 h4.size hb, h5⟩
theorem StAt.below (h : StAt w0 W g fs ls) (hb : Below W.heap.size W W1) : StAt w0 W1 g fs ls := by
 obtain ⟨A0, c0, A1, c1, h⟩ := h
 exact ⟨A0, c0, A1, c1, h.below hb⟩
theorem StIs.drew (h : StIs w0 W g A0 c0 A1 c1 fs ls) : StIs w0 W.drew g A0 c0 A1 c1 fs ls := h.below (below_drew (Below.refl _ _))
theorem StIs.len0 (h : StIs w0 W g A0 c0 A1 c1 fs ls) : fs.length ≤ 9223372036854775807 := (Kd.R_reads' h.2.1).2.2.2.1
theorem StIs.form0 (h : StIs w0 W g A0 c0 A1 c1 fs ls) (hp : 0 < fs.length) : ∃ ga, A0 = some ⟨ga, 0, none⟩ := by
 obtain ⟨ga, cap, hv, _⟩ := Kd.R_form h.2.1 hp
 injection hv with hA
 exact ⟨ga, hA⟩
theorem StIs.form1 (h : StIs w0 W g A0 c0 A1 c1 fs ls) (hp : 0 < ls.length) : ∃ ga, A1 = some ⟨ga, 0, none⟩ := by
 obtain ⟨ga, cap, hv, _⟩ := Kd.R_form h.2.2.1 hp
 injection hv with hA
 exact ⟨ga, hA⟩
theorem far_row {α : Type} {d : Kd α} {e base n cap b t : Nat} {ok : Nat → Prop} {xs : List α} {cs : Array Value} (h : d.R e W base ok (.slice (some ⟨ga, 0, none⟩) n cap) xs) (hb : W.heap[b]? = some (.cells cs t (0, 0))) (ht : e ≠ t) : b ≠ ga := by
 intro hh
 exact Kd.R_ne h hb ht (by rw [hh]; rfl)
theorem StIs.f1 (h : StIs w0 W g (some ⟨ga, 0, none⟩) c0 A1 c1 fs ls) (ii : Int) (h0 : 0 ≤ ii) (h1 : ii < fs.length) (s : Int) :
  (∃ v, W.cell? ⟨ga, ii.toNat * 3 + 1, none⟩ = some v) ∧ W.frozen? ⟨ga, ii.toNat * 3 + 1, none⟩ = false ∧ StIs w0 (W.setCell ⟨ga, ii.toNat * 3 + 1, none⟩ (.int .u64 s)) g (some ⟨ga, 0, none⟩) c0 A1 c1 (fs.set ii.toNat ⟨(rd_T37 fs ii).f0, s, (rd_T37 fs ii).f2⟩) ls ∧ W.grownBy (W.setCell ⟨ga, ii.toNat * 3 + 1, none⟩ (.int .u64 s)) (some ga) := by
 obtain ⟨h2, h3, h4, h5, h6⟩ := h
 obtain ⟨c, hcl, hM, hcc, hfz⟩ := Kd.R_elem h3 z37 ii h0 h1
 have hc := k37_openM hM
 subst hc
 have hs := Kd.R_seg h3 ii h0 h1 (seg := [.int .u64 s]) (j := 1) (okp := fun _ => False) (x' := ⟨(rd_T37 fs ii).f0, s, (rd_T37 fs ii).f2⟩) hcl hcc (by simp [k37, Kd.iso, Kd.pair, Kd.string, Kd.int, Kd.bool, Kd.scalar]) (k37_mkM ..) (fun _ hk => hk.elim)
 have hga := far_row h3 h2 (by decide)
 obtain ⟨hR, hg⟩ := hs
 refine ⟨⟨_, hcc 1 _ rfl⟩, hfz 1, ⟨?_, ?_, ?_, ?_, h6⟩, hg⟩
 ·rw [List.length_set]; exact blk_far h2 hga _
 ·rw [List.length_set]; exact hR
 ·exact Kd.R_over' h4 (Kd.R_typed h3) (by decide) hg
 ·exact below_set h5 (Kd.R_base h3 ga rfl)
theorem StIs.f2 (h : StIs w0 W g (some ⟨ga, 0, none⟩) c0 A1 c1 fs ls) (ii : Int) (h0 : 0 ≤ ii) (h1 : ii < fs.length) (s : Bool) :
  (∃ v, W.cell? ⟨ga, ii.toNat * 3 + 2, none⟩ = some v) ∧ W.frozen? ⟨ga, ii.toNat * 3 + 2, none⟩ = false ∧ StIs w0 (W.setCell ⟨ga, ii.toNat * 3 + 2, none⟩ (.bool s)) g (some ⟨ga, 0, none⟩) c0 A1 c1 (fs.set ii.toNat ⟨(rd_T37 fs ii).f0, (rd_T37 fs ii).f1, s⟩) ls ∧ W.grownBy (W.setCell ⟨ga, ii.toNat * 3 + 2, none⟩ (.bool s)) (some ga) := by
 obtain ⟨h2, h3, h4, h5, h6⟩ := h
 obtain ⟨c, hcl, hM, hcc, hfz⟩ := Kd.R_elem h3 z37 ii h0 h1
 have hc := k37_openM hM
 subst hc
 have hs := Kd.R_seg h3 ii h0 h1 (seg := [.bool s]) (j := 2) (okp := fun _ => False) (x' := ⟨(rd_T37 fs ii).f0, (rd_T37 fs ii).f1, s⟩) hcl hcc (by simp [k37, Kd.iso, Kd.pair, Kd.string, Kd.int, Kd.bool, Kd.scalar]) (k37_mkM ..) (fun _ hk => hk.elim)
 have hga := far_row h3 h2 (by decide)
 obtain ⟨hR, hg⟩ := hs
 refine ⟨⟨_, hcc 2 _ rfl⟩, hfz 2, ⟨?_, ?_, ?_, ?_, h6⟩, hg⟩
 ·rw [List.length_set]; exact blk_far h2 hga _
 ·rw [List.length_set]; exact hR
 ·exact Kd.R_over' h4 (Kd.R_typed h3) (by decide) hg
 ·exact below_set h5 (Kd.R_base h3 ga rfl)
theorem StIs.l1 (h : StIs w0 W g A0 c0 (some ⟨ga, 0, none⟩) c1 fs ls) (ii : Int) (h0 : 0 ≤ ii) (h1 : ii < ls.length) (s : ByteArray) :
  (∃ v, W.cell? ⟨ga, ii.toNat * 4 + 1, none⟩ = some v) ∧ W.frozen? ⟨ga, ii.toNat * 4 + 1, none⟩ = false ∧ StIs w0 (W.setCell ⟨ga, ii.toNat * 4 + 1, none⟩ (.string s)) g A0 c0 (some ⟨ga, 0, none⟩) c1 fs (ls.set ii.toNat ⟨(rd_T39 ls ii).f0, s, (rd_T39 ls ii).f2, (rd_T39 ls ii).f3⟩) ∧ W.grownBy (W.setCell ⟨ga, ii.toNat * 4 + 1, none⟩ (.string s)) (some ga) := by
 obtain ⟨h2, h3, h4, h5, h6⟩ := h
 obtain ⟨c, hcl, hM, hcc, hfz⟩ := Kd.R_elem h4 z39 ii h0 h1
 have hc := k39_openM hM
 subst hc
 have hs := Kd.R_seg h4 ii h0 h1 (seg := [.string s]) (j := 1) (okp := fun _ => False) (x' := ⟨(rd_T39 ls ii).f0, s, (rd_T39 ls ii).f2, (rd_T39 ls ii).f3⟩) hcl hcc (by simp [k39, Kd.iso, Kd.pair, Kd.string, Kd.int, Kd.bool, Kd.scalar]) (k39_mkM ..) (fun _ hk => hk.elim)
 have hga := far_row h4 h2 (by decide)
 obtain ⟨hR, hg⟩ := hs
 refine ⟨⟨_, hcc 1 _ rfl⟩, hfz 1, ⟨?_, ?_, ?_, ?_, h6⟩, hg⟩
 ·rw [List.length_set]; exact blk_far h2 hga _
 ·exact Kd.R_over' h3 (Kd.R_typed h4) (by decide) hg
 ·rw [List.length_set]; exact hR
 ·exact below_set h5 (Kd.R_base h4 ga rfl)
theorem StIs.l2 (h : StIs w0 W g A0 c0 (some ⟨ga, 0, none⟩) c1 fs ls) (ii : Int) (h0 : 0 ≤ ii) (h1 : ii < ls.length) (s : Int) :
  (∃ v, W.cell? ⟨ga, ii.toNat * 4 + 2, none⟩ = some v) ∧ W.frozen? ⟨ga, ii.toNat * 4 + 2, none⟩ = false ∧ StIs w0 (W.setCell ⟨ga, ii.toNat * 4 + 2, none⟩ (.int .u64 s)) g A0 c0 (some ⟨ga, 0, none⟩) c1 fs (ls.set ii.toNat ⟨(rd_T39 ls ii).f0, (rd_T39 ls ii).f1, s, (rd_T39 ls ii).f3⟩) ∧ W.grownBy (W.setCell ⟨ga, ii.toNat * 4 + 2, none⟩ (.int .u64 s)) (some ga) := by
 obtain ⟨h2, h3, h4, h5, h6⟩ := h
 obtain ⟨c, hcl, hM, hcc, hfz⟩ := Kd.R_elem h4 z39 ii h0 h1
 have hc := k39_openM hM
 subst hc
 have hs := Kd.R_seg h4 ii h0 h1 (seg := [.int .u64 s]) (j := 2) (okp := fun _ => False) (x' := ⟨(rd_T39 ls ii).f0, (rd_T39 ls ii).f1, s, (rd_T39 ls ii).f3⟩) hcl hcc (by simp [k39, Kd.iso, Kd.pair, Kd.string, Kd.int, Kd.bool, Kd.scalar]) (k39_mkM ..) (fun _ hk => hk.elim)
 have hga := far_row h4 h2 (by decide)
 obtain ⟨hR, hg⟩ := hs
 refine ⟨⟨_, hcc 2 _ rfl⟩, hfz 2, ⟨?_, ?_, ?_, ?_, h6⟩, hg⟩
 ·rw [List.length_set]; exact blk_far h2 hga _
 ·exact Kd.R_over' h3 (Kd.R_typed h4) (by decide) hg
 ·rw [List.length_set]; exact hR
 ·exact below_set h5 (Kd.R_base h4 ga rfl)
theorem StIs.l3 (h : StIs w0 W g A0 c0 (some ⟨ga, 0, none⟩) c1 fs ls) (ii : Int) (h0 : 0 ≤ ii) (h1 : ii < ls.length) (s : ByteArray) :
  (∃ v, W.cell? ⟨ga, ii.toNat * 4 + 3, none⟩ = some v) ∧ W.frozen? ⟨ga, ii.toNat * 4 + 3, none⟩ = false ∧ StIs w0 (W.setCell ⟨ga, ii.toNat * 4 + 3, none⟩ (.string s)) g A0 c0 (some ⟨ga, 0, none⟩) c1 fs (ls.set ii.toNat ⟨(rd_T39 ls ii).f0, (rd_T39 ls ii).f1, (rd_T39 ls ii).f2, s⟩) ∧ W.grownBy (W.setCell ⟨ga, ii.toNat * 4 + 3, none⟩ (.string s)) (some ga) := by
 obtain ⟨h2, h3, h4, h5, h6⟩ := h
 obtain ⟨c, hcl, hM, hcc, hfz⟩ := Kd.R_elem h4 z39 ii h0 h1
 have hc := k39_openM hM
 subst hc
 have hs := Kd.R_seg h4 ii h0 h1 (seg := [.string s]) (j := 3) (okp := fun _ => False) (x' := ⟨(rd_T39 ls ii).f0, (rd_T39 ls ii).f1, (rd_T39 ls ii).f2, s⟩) hcl hcc (by simp [k39, Kd.iso, Kd.pair, Kd.string, Kd.int, Kd.bool, Kd.scalar]) (k39_mkM ..) (fun _ hk => hk.elim)
 have hga := far_row h4 h2 (by decide)
 obtain ⟨hR, hg⟩ := hs
 refine ⟨⟨_, hcc 3 _ rfl⟩, hfz 3, ⟨?_, ?_, ?_, ?_, h6⟩, hg⟩
 ·rw [List.length_set]; exact blk_far h2 hga _
 ·exact Kd.R_over' h3 (Kd.R_typed h4) (by decide) hg
 ·rw [List.length_set]; exact hR
 ·exact below_set h5 (Kd.R_base h4 ga rfl)
end
theorem modify_last {α : Type} (l : List α) (x : α) (f : α → α) : (l ++ [x]).modify l.length f = l ++ [f x] := by
 induction l with
 | nil => rfl
 | cons a l ih => simp [ih]
theorem set_modify {α : Type} (l : List α) (z : α) (i : Nat) (hi : i < l.length) (f : α → α) : l.set i (f (l.getD i z)) = l.modify i f := by
 apply List.ext_getElem
 ·simp
 ·intro j h1 h2
  rw [List.getElem_set, List.getElem_modify]
  split
  ·rename_i h; subst h; simp [List.getD_eq_getElem?_getD, List.getElem?_eq_getElem hi]
  ·rfl
theorem getD_set {α : Type} (l : List α) (z : α) (i : Nat) (hi : i < l.length) (y : α) : (l.set i y).getD i z = y := by
 simp [List.getD_eq_getElem?_getD, hi]
theorem file_upd (fs : List S37) (ii : Int) (h0 : 0 ≤ ii) (h1 : ii < fs.length) (s : Int) :
  (fs.set ii.toNat ⟨(rd_T37 fs ii).f0, s, (rd_T37 fs ii).f2⟩).set ii.toNat ⟨(rd_T37 (fs.set ii.toNat ⟨(rd_T37 fs ii).f0, s, (rd_T37 fs ii).f2⟩) ii).f0, (rd_T37 (fs.set ii.toNat ⟨(rd_T37 fs ii).f0, s, (rd_T37 fs ii).f2⟩) ii).f1, true⟩ = fs.modify ii.toNat fun x => ⟨x.f0, s, true⟩ := by
 have hi : ii.toNat < fs.length := by omega
 have h : ∀ y, rd_T37 (fs.set ii.toNat y) ii = y := fun y => getD_set fs _ _ hi y
 rw [h, List.set_set, ← set_modify fs z37 _ hi]
 rfl
def arriveF (fs : List S37) (f : ByteArray) (s : Int) : Int × List S37 :=
 if firstAt (fun x : S37 => x.f0.toList == f.toList) fs = -1 then
  if 32 ≤ fs.length then (18, fs) else (0, fs ++ [⟨f, s, true⟩])
 else (0, fs.modify (firstAt (fun x : S37 => x.f0.toList == f.toList) fs).toNat fun x => ⟨x.f0, s, true⟩)
set_option maxHeartbeats 1000000 in
set_option maxRecDepth 100000 in
theorem arrive_calls (g : Nat) (k : Int) (m f p : ByteArray) (s : Int) (fs : List S37) (ls : List S39) (w0 w : World) (hS : StAt w0 w g fs ls) :
  Calls Try.prog 41 #[.pointer (some ⟨g, 0, none⟩), .agg #[.int .i64 k, .string m, .string f, .string p, .int .u64 s]] w fun e w' => e = .returned (.int .i64 (arriveF fs f s).1) ∧ StAt w0 w' g (arriveF fs f s).2 ls := by
 obtain ⟨A0, c0, A1, c1, hb, hR0, hR1, hB, hg⟩ := hS
 obtain ⟨res, hres⟩ : ∃ res, res = arriveF fs f s := ⟨_, rfl⟩
 rw [← hres]
 have HRES := Aside0.mk hres
 have BK := Aside0.mk hb
 have HR0 := Aside0.mk hR0
 have HR1 := Aside0.mk hR1
 have HB := Aside0.mk hB
 have HG := Aside0.mk hg
 have hlg : g < w.heap.size := blk_lt hb
 have hu30 := Try.underlying30
 have hu45 := Try.underlying45
 have hlen0 : fs.length ≤ 9223372036854775807 := (Kd.R_reads' hR0).2.2.2.1
 have n0 := World.new_ne w ⟨g, 0, none⟩ (blk_cell hb 0)
 clear hres hb hR0 hR1 hB hg
 have hc0 : w.cell? ⟨g, 0, none⟩ = some (.slice A0 fs.length c0) := (blk_cell BK.out 0).trans rfl
 have hc1 : w.cell? ⟨g, 1, none⟩ = some (.slice A1 ls.length c1) := (blk_cell BK.out 1).trans rfl
 go_enter Try.func41, Try.ntmps41
 go_wp2
 obtain ⟨bx, hbx⟩ : ∃ bx, bx = w.heap.size := ⟨_, rfl⟩
 obtain ⟨w2, hw2⟩ : ∃ w2, w2 = w.alloc (.cells #[.int .i64 k, .string m, .string f, .string p, .int .u64 s] 45) := ⟨_, rfl⟩
 have XK := Aside0.mk (show w2.heap[bx]? = some (.cells #[.int .i64 k, .string m, .string f, .string p, .int .u64 s] 45 (0, 0)) by rw [hw2, hbx]; exact blk_new _ _)
 have ST := Aside0.mk (show StAt w0 w2 g fs ls from StAt.below ⟨A0, c0, A1, c1, BK.out, HR0.out, HR1.out, HB.out, HG.out⟩ (by rw [hw2]; exact (Below.refl _ _).alloc (Nat.le_refl _) _))
 rw [← hw2, ← hbx]
 clear hw2 hbx hc0 hc1 n0 BK HR0 HR1 HB
 obtain ⟨A0, c0, A1, c1, hb, hR0, hR1, hB, _⟩ := ST.out
 have HR0 := Aside0.mk hR0
 have HR1 := Aside0.mk hR1
 have HB := Aside0.mk hB
 have BK1 := Aside0.mk hb
 have hc0 : w2.cell? ⟨g, 0, none⟩ = some (.slice A0 fs.length c0) := (blk_cell hb 0).trans rfl
 have hc1 : w2.cell? ⟨g, 1, none⟩ = some (.slice A1 ls.length c1) := (blk_cell hb 1).trans rfl
 have hx2 : w2.cell? ⟨bx, 2, none⟩ = some (.string f) := (blk_cell XK.out 2).trans rfl
 clear hb hR0 hR1 hB
 have C0 := Aside0.mk (show Kd.C k37 w2.drew A0 fs.length fs from Kd.C_below (Kd.R_reads' HR0.out).2.2 (below_drew (Below.refl _ _)))
 have C1 := Aside0.mk (show Kd.C k39 w2.drew A1 ls.length ls from Kd.C_below (Kd.R_reads' HR1.out).2.2 (below_drew (Below.refl _ _)))
 have L0 := Aside0.mk (Kd.R_reads' HR0.out).2.1
 have L1 := Aside0.mk (Kd.R_reads' HR1.out).2.1
 go_region_held3 (fun w' => w'.cell? ⟨g, 0, none⟩ = some (.slice A0 fs.length c0) ∧ w'.cell? ⟨g, 1, none⟩ = some (.slice A1 ls.length c1) ∧ w'.cell? ⟨bx, 2, none⟩ = some (.string f)) (first | go_keep | exact ⟨pw_cell_below (w := w2.drew) hb hc0, pw_cell_below (w := w2.drew) hb hc1, pw_cell_below (w := w2.drew) hb hx2⟩)
  ((go_at_call 40; refine (media_State_file.calls A0 c0 fs A1 c1 ls f _ _ C0.out L0.out C1.out L1.out rfl).mono ?_; rintro e w3 ⟨rfl, hb⟩))
 clear hc0 hc1 hx2 C0 C1 L0 L1
 have hb2 : Below w2.heap.size w2 w3 := below_then (below_drew (Below.refl _ _)) (Nat.le_refl _) hb
 have XK2 := Aside0.mk (blk_below XK.out hb2)
 have BK2 := Aside0.mk (blk_below BK1.out hb2)
 have HR02 := Aside0.mk (Kd.R_below HR0.out hb2)
 have HR12 := Aside0.mk (Kd.R_below HR1.out hb2)
 have HB2 := Aside0.mk (below_then HB.out HB.out.size hb2)
 have ST2 := Aside0.mk (show StAt w0 w3 g fs ls from ⟨A0, c0, A1, c1, BK2.out, HR02.out, HR12.out, HB2.out, HG.out⟩)
 clear hb hb2 XK ST HR0 HR1 HB BK1
 obtain ⟨ix, hix⟩ : ∃ ix, ix = firstAt (fun x : S37 => x.f0.toList == f.toList) fs := ⟨_, rfl⟩
 rw [← hix]
 have HIX := Aside0.mk hix
 have hrange := firstAt_range (fun x : S37 => x.f0.toList == f.toList) fs
 rw [← hix] at hrange
 clear hix
 go_upto_if 13 with fail
 go_cut [5] (fun s5 wx => ∃ (fs2 : List S37) (ii : Int), s5 = .int .i64 ii ∧ Aside0 (0 ≤ ii ∧ ii < fs2.length) ∧ Aside0 (wx.heap[bx]? = some (.cells #[.int .i64 k, .string m, .string f, .string p, .int .u64 s] 45 (0, 0))) ∧ Aside0 (StAt w0 wx g fs2 ls) ∧ Aside0 (res = (0, fs2.modify ii.toNat fun x => ⟨x.f0, s, true⟩)))
 case first =>
  by_cases hm1 : ix = -1
  ·have hm1b : (ix == -1) = true := beq_iff_eq.2 hm1
   have HM1 := Aside0.mk hm1
   clear hrange hm1
   have hb := BK2.out
   have hc0 : w3.cell? ⟨g, 0, none⟩ = some (.slice A0 fs.length c0) := (blk_cell hb 0).trans rfl
   have hx2 : w3.cell? ⟨bx, 2, none⟩ = some (.string f) := (blk_cell XK2.out 2).trans rfl
   have hfz0 := blk_frozen hb 0
   have lg3 : g < w3.heap.size := blk_lt hb
   have lx3 : bx < w3.heap.size := blk_lt XK2.out
   have hne : (Value.slice A0 fs.length c0).ownBlock ≠ some g := Ne.symm (Kd.R_ne HR02.out hb (by decide))
   have hneX : (Value.slice A0 fs.length c0).ownBlock ≠ some bx := Ne.symm (Kd.R_ne HR02.out XK2.out (by decide))
   have n0 := World.new_ne w3 ⟨g, 0, none⟩ hc0
   have n1 := World.new_ne w3 ⟨bx, 2, none⟩ hx2
   clear hb
   by_cases h32 : 32 ≤ fs.length
   ·have b32 : decide ((32 : Int) ≤ (fs.length : Int)) = true := decide_eq_true (by omega)
    have hr : res = (18, fs) := by rw [HRES.out]; unfold arriveF; rw [← HIX.out, if_pos HM1.out, if_pos h32]
    subst hr
    go_wp2
    go_ret
    exact ⟨rfl, ST2.out⟩
   ·have b32 : decide ((32 : Int) ≤ (fs.length : Int)) = false := decide_eq_false (by omega)
    go_wp2
    refine start_ (n := 19) (S := fun w' => w'.cell? ⟨g, 0, none⟩ = some (.slice A0 fs.length c0) ∧ w'.cell? ⟨bx, 2, none⟩ = some (.string f)) (ds := [18]) #[false, false, false, false, false, false, false, false, false, false, false, false, false, false, false, false, false, false, false] (by kernel_rfl) rfl rfl ⟨(pw_cell_below (w := w3) (below_drew (Below.refl _ _)) hc0), (pw_cell_below (w := w3) (below_drew (Below.refl _ _)) hx2)⟩ (fun hHeld => ?_)
    generalize hw4 : w3.drew = w4 at hHeld ⊢
    have HB4 : Below w3.heap.size w3 w4 := hw4 ▸ below_drew (Below.refl _ _)
    have BK4 := Aside0.mk (blk_below BK2.out HB4)
    have XK4 := Aside0.mk (blk_below XK2.out HB4)
    have HR03 := Aside0.mk (Kd.R_below HR02.out HB4)
    have HR13 := Aside0.mk (Kd.R_below HR12.out HB4)
    have HB3 := Aside0.mk (below_then HB2.out HB2.out.size HB4)
    have HC0 := Aside0.mk hHeld.1
    have HX2 := Aside0.mk hHeld.2
    have HF0 := Aside0.mk (blk_frozen BK4.out 0)
    have HNE := Aside0.mk (Kd.R_ne HR03.out BK4.out (by decide))
    have HNX := Aside0.mk (Kd.R_ne HR03.out XK4.out (by decide))
    have GX := Aside0.mk (show bx ≠ g from fun e => by have h := XK4.out; rw [e, BK4.out] at h; cases h)
    have LG4 := Aside0.mk (blk_lt BK4.out)
    have LX4 := Aside0.mk (blk_lt XK4.out)
    clear hw4 HB4
    refine plan_ [(0, 20, false), (1, 21, false), (2, 22, false), (3, 23, false), (6, 26, false), (7, 27, false), (8, 28, false), (10, 30, false), (4, 24, true), (5, 25, false), (9, 29, true), (11, 31, true), (12, 32, false)] ?_
    repeat (first
     | (
      refine plan_pure (v := ?_) (a' := ?_) rfl rfl (by kernel_rfl) (Or.inl ⟨by rfl, ?_⟩) ?_ ?_ (fun _ _ _ h => h)
      rotate_left
      ·intro w'
       go_simp
       with_reducible rfl
      rotate_left
      ·simp only [Act.put, List.setIfInBounds_toArray, List.set_cons_zero, List.set_cons_succ, i64_w, i32_w]
       rfl)
     | (
      refine plan_take (v := ?_) (a' := ?_) rfl rfl (by kernel_rfl) (Or.inl ⟨by rfl, ?_⟩) hHeld ?_ ?_ (fun _ _ _ h => h)
      rotate_left
      ·rintro w' ⟨s0, s1⟩
       go_simp
       with_reducible rfl
      rotate_left
      ·simp only [Act.put, List.setIfInBounds_toArray, List.set_cons_zero, List.set_cons_succ, i64_w, i32_w]
       rfl))
    refine plan_end ?_
    refine one_ (i := 13) (N := some 33) #[true, true, true, true, true, true, true, true, true, true, true, true, true, true, false, false, false, false, false] rfl rfl (by kernel_rfl) (by decide) (fun K hK => ?_)
    refine value_ (w1 := ?_) (v := ?_) (by rfl) rfl ?_ ?_
    rotate_left 2
    ·go_simp
     constructor
     ·rfl
     ·rfl
    refine hK.out _ _ ⟨(pw_cell_below (below_alloc (Below.refl _ _) _) HC0.out), (pw_cell_below (below_alloc (Below.refl _ _) _) HX2.out)⟩ (fun hHeld => ?_)
    clear hK K
    refine norm_ (a' := ?_) ?_ ?_
    rotate_left
    ·show Act.put _ (some 33) _ = _
     simp only [Act.put, List.setIfInBounds_toArray, List.set_cons_zero, List.set_cons_succ, i64_w, i32_w]
     rfl
    refine one_ (i := 14) (N := some 34) #[true, true, true, true, true, true, true, true, true, true, true, true, true, true, true, false, false, false, false] rfl rfl (by kernel_rfl) (by decide) (fun K hK => ?_)
    refine Kd.R_append_step (w0 := w0) k37 w0.heap.size (by rfl) (.tmp 29) (.tmp 33) 27 37 (.agg #[.string ⟨#[]⟩, .int .u64 0, .bool false]) 32 rfl Try.underlying27 info37 rfl (by decide) (by omega) (.slice A0 fs.length c0) fs ⟨f, 0, false⟩ [.string f, .int .u64 0, .bool false] (fun _ => True) (fun _ => False) rfl rfl ?aP (fun _ hk => hk.elim) (fun _ _ => trivial) ?aO ?aB ?aS ?aL ?_
    (case aP => exact k37_mkM ..)
    (case aO => exact HR03.out)
    (case aB => exact HB3.out)
    (case aS => exact HB3.out.size)
    (case aL => omega)
    intro v1 w5 ho hb1 hg1 hat1
    obtain ⟨A1', c1', rfl⟩ := Kd.R_slice ho
    have BK5 := Aside0.mk (blk_grown BK4.out hg1 HNE.out)
    have hc0' : w5.cell? ⟨g, 0, none⟩ = some (.slice A0 fs.length c0) := (hg1.cell_far _ (by exact LG4.out) (by exact HNE.out)).trans HC0.out
    have hx2' : w5.cell? ⟨bx, 2, none⟩ = some (.string f) := (hg1.cell_far _ (by exact LX4.out) (by exact HNX.out)).trans HX2.out
    have hfz0 : w5.frozen? ⟨g, 0, none⟩ = false := (hg1.frozen_far _ (by exact LG4.out) (by exact HNE.out)).trans HF0.out
    refine hK.out _ _ ⟨hc0', hx2'⟩ (fun hHeld => ?_)
    clear hK K
    refine norm_ (a' := ?_) ?_ ?_
    rotate_left
    ·show Act.put _ (some 34) _ = _
     simp only [Act.put, List.setIfInBounds_toArray, List.set_cons_zero, List.set_cons_succ, i64_w, i32_w]
     rfl
    refine plan_ [(15, 5, false), (16, 35, false), (17, 36, false)] ?_
    repeat (
     refine plan_pure (v := ?_) (a' := ?_) rfl rfl (by kernel_rfl) (Or.inl ⟨by rfl, ?_⟩) ?_ ?_ (fun _ _ _ h => h)
     rotate_left
     ·intro w'
      go_simp
      with_reducible rfl
     rotate_left
     ·simp only [Act.put, List.setIfInBounds_toArray, List.set_cons_zero, List.set_cons_succ, i64_w, i32_w]
      rfl)
    refine plan_end ?_
    refine last_ (i := 18) (N := none) #[true, true, true, true, true, true, true, true, true, true, true, true, true, true, true, true, true, true, true] rfl rfl (by kernel_rfl) (by decide) (fun K hK => ?_)
    refine skip_ (w1 := ?_) (by rfl) rfl ?_ ?_
    rotate_left
    ·go_simp
     rfl
    refine hK.out _ _ ?_
    clear hK K
    refine done_ (by kernel_rfl) ?_
    try go_wp2
    go_meet
    case rel =>
     refine ⟨fs ++ [⟨f, 0, false⟩], fs.length, rfl, ⟨by simp; omega⟩, ⟨?_⟩, ⟨?_⟩, ⟨?_⟩⟩
     ·exact blk_far (blk_grown XK4.out hg1 HNX.out) (fun e => GX.out e) _
     ·refine ⟨A1', c1', A1, c1, ?_, ?_, ?_, ?_, HG.out⟩
      ·exact blk_put BK5.out 0 _ (by simp)
      ·exact Kd.R_set ho BK5.out (by decide) 0 _
      ·exact Kd.R_set (Kd.R_over' HR13.out (Kd.R_typed HR03.out) (by decide) hg1) BK5.out (by decide) 0 _
      ·exact below_set hb1 HG.out
     ·rw [HRES.out]; unfold arriveF; rw [← HIX.out, if_pos HM1.out, if_neg h32, show ((fs.length : Int)).toNat = fs.length from by omega, modify_last]
  ·have hm1b : (ix == -1) = false := beq_eq_false_iff_ne.2 hm1
   go_wp2
   go_meet
   case rel =>
    refine ⟨fs, ix, rfl, ⟨by omega⟩, XK2, ST2, ⟨?_⟩⟩
    rw [HRES.out]; unfold arriveF; rw [← HIX.out, if_neg hm1]
 case rest =>
  obtain ⟨fs2, ii, rfl, HI, XK5, ST5, HRES2⟩ := hcut
  obtain ⟨A0, c0, A1, c1, hs⟩ := ST5.out
  obtain ⟨ga, rfl⟩ := hs.form0 (by have := HI.out; omega)
  have hc0 : wc.cell? ⟨g, 0, none⟩ = some (.slice (some ⟨ga, 0, none⟩) fs2.length c0) := (blk_cell hs.1 0).trans rfl
  have hx4 : wc.cell? ⟨bx, 4, none⟩ = some (.int .u64 s) := (blk_cell XK5.out 4).trans rfl
  obtain ⟨⟨v1, hv1⟩, hf1, hs1, hg1⟩ := hs.f1 ii HI.out.1 HI.out.2 s
  have HS := Aside0.mk hs
  have HS1 := Aside0.mk hs1
  have HG1 := Aside0.mk hg1
  have p0 := eq_true HI.out.1
  have q0 := eq_true HI.out.2
  clear hs hs1 hg1
  go_wp2
  refine start_ (n := 18) (S := fun w' => w'.cell? ⟨g, 0, none⟩ = some (.slice (some ⟨ga, 0, none⟩) fs2.length c0) ∧ w'.cell? ⟨bx, 4, none⟩ = some (.int .u64 s)) (ds := [14, 17]) #[false, false, false, false, false, false, false, false, false, false, false, false, false, false, false, false, false, false] (by kernel_rfl) rfl rfl ⟨(pw_cell_below (w := wc) (below_drew (Below.refl _ _)) hc0), (pw_cell_below (w := wc) (below_drew (Below.refl _ _)) hx4)⟩ (fun hHeld => ?_)
  refine plan_ [(0, 37, false), (1, 38, false), (2, 39, false), (4, 41, false), (5, 42, false), (6, 43, false), (7, 44, false), (9, 46, false), (10, 47, false), (3, 40, true), (8, 45, true), (11, 48, true), (12, 49, false), (13, 50, false)] ?_
  repeat (first
   | (
    refine plan_pure (v := ?_) (a' := ?_) rfl rfl (by kernel_rfl) (Or.inl ⟨by rfl, ?_⟩) ?_ ?_ (fun _ _ _ h => h)
    rotate_left
    ·intro w'
     go_simp
     with_reducible rfl
    rotate_left
    ·simp only [Act.put, List.setIfInBounds_toArray, List.set_cons_zero, List.set_cons_succ, i64_w, i32_w]
     rfl)
   | (
    refine plan_take (v := ?_) (a' := ?_) rfl rfl (by kernel_rfl) (Or.inl ⟨by rfl, ?_⟩) hHeld ?_ ?_ (fun _ _ _ h => h)
    rotate_left
    ·rintro w' ⟨s0, s1⟩
     go_simp
     with_reducible rfl
    rotate_left
    ·simp only [Act.put, List.setIfInBounds_toArray, List.set_cons_zero, List.set_cons_succ, i64_w, i32_w]
     rfl))
  refine plan_end ?_
  refine last_ (i := 14) (N := none) #[true, true, true, true, true, true, true, true, true, true, true, true, true, true, true, false, false, false] rfl rfl (by kernel_rfl) (by decide) (fun K hK => ?_)
  refine skip_ (w1 := ?_) (by rfl) rfl ?_ ?_
  rotate_left
  ·go_simp
   rfl
  obtain ⟨w6, hw6⟩ : ∃ w6, w6 = (wc.setCell ⟨ga, ii.toNat * 3 + 1, none⟩ (.int .u64 s)).drew := ⟨_, rfl⟩
  rw [← hw6]
  have HS6 := Aside0.mk (hw6 ▸ HS1.out.drew)
  obtain ⟨⟨v2, hv2⟩, hf2, hs2, hg2⟩ := HS6.out.f2 ii HI.out.1 (by rw [List.length_set]; exact HI.out.2) true
  have HS2 := Aside0.mk hs2
  have HG2 := Aside0.mk hg2
  have XK6 := Aside0.mk (show w6.heap[bx]? = _ from hw6 ▸ blk_drew (blk_far XK5.out (far_row HS.out.2.1 XK5.out (by decide)) _))
  clear hs2 hg2 hw6
  refine hK.out _ _ ?_
  clear hK K
  refine plan_ [(15, 51, false), (16, 52, false)] ?_
  repeat (
   refine plan_pure (v := ?_) (a' := ?_) rfl rfl (by kernel_rfl) (Or.inl ⟨by rfl, ?_⟩) ?_ ?_ (fun _ _ _ h => h)
   rotate_left
   ·intro w'
    go_simp
    with_reducible rfl
   rotate_left
   ·simp only [Act.put, List.setIfInBounds_toArray, List.set_cons_zero, List.set_cons_succ, i64_w, i32_w]
    rfl)
  refine plan_end ?_
  refine last_ (i := 17) (N := none) #[true, true, true, true, true, true, true, true, true, true, true, true, true, true, true, true, true, true] rfl rfl (by kernel_rfl) (by decide) (fun K hK => ?_)
  refine skip_ (w1 := ?_) (by rfl) rfl ?_ ?_
  rotate_left
  ·go_simp
   rfl
  refine hK.out _ _ ?_
  clear hK K
  refine done_ (by kernel_rfl) ?_
  go_wp2
  go_ret
  rw [HRES2.out, ← file_upd fs2 ii HI.out.1 HI.out.2 s]
  exact ⟨rfl, _, _, _, _, HS2.out⟩
section
variable {w0 W W1 : World} {g ga : Nat} {A0 A1 : Option Addr} {c0 c1 : Nat} {fs : List S37} {ls : List S39}
theorem StIs.cells (h : StIs w0 W g A0 c0 A1 c1 fs ls) : W.cell? ⟨g, 0, none⟩ = some (.slice A0 fs.length c0) ∧ W.cell? ⟨g, 1, none⟩ = some (.slice A1 ls.length c1) := ⟨(blk_cell h.1 0).trans rfl, (blk_cell h.1 1).trans rfl⟩
theorem StIs.reads (h : StIs w0 W g A0 c0 A1 c1 fs ls) : Kd.C k37 W A0 fs.length fs ∧ fs.length ≤ c0 ∧ Kd.C k39 W A1 ls.length ls ∧ ls.length ≤ c1 := ⟨(Kd.R_reads' h.2.1).2.2, (Kd.R_reads' h.2.1).2.1, (Kd.R_reads' h.2.2.1).2.2, (Kd.R_reads' h.2.2.1).2.1⟩
theorem StIs.at_ (h : StIs w0 W g A0 c0 A1 c1 fs ls) : StAt w0 W g fs ls := ⟨A0, c0, A1, c1, h⟩
end
def connectF (fs : List S37) (ls : List S39) (m f : ByteArray) : Int × List S39 :=
 if linkV ls m = -1 then
  if presentV fs f = -1 then (7, ls) else if 16 ≤ ls.length then (18, ls) else (0, ls ++ [⟨m, f, (rd_T37 fs (presentV fs f)).f1, ⟨#[]⟩⟩])
 else (8, ls)
set_option maxHeartbeats 1000000 in
set_option maxRecDepth 100000 in
theorem connect_calls (g : Nat) (k : Int) (m f p : ByteArray) (s : Int) (fs : List S37) (ls : List S39) (res : Int × List S39) (w0 w : World) (hS : StAt w0 w g fs ls) (hres : res = connectF fs ls m f) :
  Calls Try.prog 42 #[.pointer (some ⟨g, 0, none⟩), .agg #[.int .i64 k, .string m, .string f, .string p, .int .u64 s]] w fun e w' => e = .returned (.int .i64 res.1) ∧ StAt w0 w' g fs res.2 := by
 obtain ⟨A0, c0, A1, c1, hs⟩ := hS
 have HRES := Aside0.mk hres
 have HS := Aside0.mk hs
 have hlg : g < w.heap.size := blk_lt hs.1
 have hu30 := Try.underlying30
 have hu45 := Try.underlying45
 have hc0 := hs.cells.1
 have hc1 := hs.cells.2
 have n0 := World.new_ne w ⟨g, 0, none⟩ hc0
 clear hres hs
 go_enter Try.func42, Try.ntmps42
 go_wp2
 obtain ⟨bx, hbx⟩ : ∃ bx, bx = w.heap.size := ⟨_, rfl⟩
 obtain ⟨w2, hw2⟩ : ∃ w2, w2 = w.alloc (.cells #[.int .i64 k, .string m, .string f, .string p, .int .u64 s] 45) := ⟨_, rfl⟩
 have XK2 := Aside0.mk (show w2.heap[bx]? = some (.cells #[.int .i64 k, .string m, .string f, .string p, .int .u64 s] 45 (0, 0)) by rw [hw2, hbx]; exact blk_new _ _)
 have HS2 := Aside0.mk (show StIs w0 w2 g A0 c0 A1 c1 fs ls from HS.out.below (by rw [hw2]; exact (Below.refl _ _).alloc (Nat.le_refl _) _))
 rw [← hw2, ← hbx]
 clear hw2 hbx hc0 hc1 n0 HS
 have hc0 := HS2.out.cells.1
 have hc1 := HS2.out.cells.2
 have hx2 : w2.cell? ⟨bx, 2, none⟩ = some (.string f) := (blk_cell XK2.out 2).trans rfl
 have RD := Aside0.mk HS2.out.drew.reads
 go_region_held3 (fun w' => w'.cell? ⟨g, 0, none⟩ = some (.slice A0 fs.length c0) ∧ w'.cell? ⟨g, 1, none⟩ = some (.slice A1 ls.length c1) ∧ w'.cell? ⟨bx, 2, none⟩ = some (.string f)) (first | go_keep | exact ⟨pw_cell_below (w := w2.drew) hb hc0, pw_cell_below (w := w2.drew) hb hc1, pw_cell_below (w := w2.drew) hb hx2⟩)
  (((go_at_call 30; refine (media_State_present.calls A0 c0 fs A1 c1 ls f _ _ RD.out.1 RD.out.2.1 RD.out.2.2.1 RD.out.2.2.2 (presentV_f fs ls f)).mono ?_); rintro e w3 ⟨rfl, hb⟩))
 clear hc0 hc1 RD hx2
 have hb2 : Below w2.heap.size w2 w3 := below_then (below_drew (Below.refl _ _)) (Nat.le_refl _) hb
 have XK3 := Aside0.mk (blk_below XK2.out hb2)
 have HS3 := Aside0.mk (HS2.out.below hb2)
 clear hb hb2 XK2 HS2
 go_wp2
 have hc0 := HS3.out.cells.1
 have hc1 := HS3.out.cells.2
 have hx1 : w3.cell? ⟨bx, 1, none⟩ = some (.string m) := (blk_cell XK3.out 1).trans rfl
 have RD := Aside0.mk HS3.out.drew.reads
 go_region_held3 (fun w' => w'.cell? ⟨g, 0, none⟩ = some (.slice A0 fs.length c0) ∧ w'.cell? ⟨g, 1, none⟩ = some (.slice A1 ls.length c1) ∧ w'.cell? ⟨bx, 1, none⟩ = some (.string m)) (first | go_keep | exact ⟨pw_cell_below (w := w3.drew) hb hc0, pw_cell_below (w := w3.drew) hb hc1, pw_cell_below (w := w3.drew) hb hx1⟩)
  (((go_at_call 29; refine (media_State_link.calls A0 c0 fs A1 c1 ls m _ _ RD.out.1 RD.out.2.1 RD.out.2.2.1 RD.out.2.2.2 (linkV_f fs ls m)).mono ?_); rintro e w4 ⟨rfl, hb⟩))
 clear hc0 hc1 RD hx1
 have hb2 : Below w3.heap.size w3 w4 := below_then (below_drew (Below.refl _ _)) (Nat.le_refl _) hb
 have XK4 := Aside0.mk (blk_below XK3.out hb2)
 have HS4 := Aside0.mk (HS3.out.below hb2)
 clear hb hb2 XK3 HS3
 obtain ⟨pv, hpv⟩ : ∃ pv, pv = presentV fs f := ⟨_, rfl⟩
 obtain ⟨lv, hlv⟩ : ∃ lv, lv = linkV ls m := ⟨_, rfl⟩
 have hr := presentV_range fs f
 have HRES2 := Aside0.mk HRES.out
 unfold connectF at HRES2
 rw [← hpv, ← hlv]
 rw [← hpv] at hr
 rw [← hpv, ← hlv] at HRES2
 have HR := Aside0.mk hr
 clear hpv hlv HRES hr
 by_cases h1 : lv = -1
 ·have b1 : (lv == -1) = true := beq_iff_eq.2 h1
  have b1' : (lv != -1) = false := by rw [bne, b1]; rfl
  have b1'' : decide (lv = -1) = true := decide_eq_true h1
  have H1 := Aside0.mk (HRES2.out.trans (if_pos h1))
  clear HRES2 h1
  by_cases h2 : pv = -1
  ·have b2 : (pv == -1) = true := beq_iff_eq.2 h2
   obtain rfl := H1.out.trans (if_pos h2)
   go_wp2
   go_ret
   exact ⟨rfl, HS4.out.at_⟩
  ·have b2 : (pv == -1) = false := beq_eq_false_iff_ne.2 h2
   have H2 := Aside0.mk (H1.out.trans (if_neg h2))
   have hc1 := HS4.out.cells.2
   have n1 := World.new_ne w4 ⟨g, 1, none⟩ hc1
   have hr := HR.out.resolve_left h2
   clear H1 h2 HR
   by_cases h3 : 16 ≤ ls.length
   ·have b3 : decide ((16 : Int) ≤ (ls.length : Int)) = true := decide_eq_true (by omega)
    obtain rfl := H2.out.trans (if_pos h3)
    go_wp2
    go_ret
    exact ⟨rfl, HS4.out.at_⟩
   ·have b3 : decide ((16 : Int) ≤ (ls.length : Int)) = false := decide_eq_false (by omega)
    obtain rfl := H2.out.trans (if_neg h3)
    obtain ⟨ga, rfl⟩ := HS4.out.form0 (by omega)
    have hc0 := HS4.out.cells.1
    have hx1 : w4.cell? ⟨bx, 1, none⟩ = some (.string m) := (blk_cell XK4.out 1).trans rfl
    have hx2 : w4.cell? ⟨bx, 2, none⟩ = some (.string f) := (blk_cell XK4.out 2).trans rfl
    have hcf : w4.cell? ⟨ga, pv.toNat * 3 + 1, none⟩ = some (.int .u64 (rd_T37 fs pv).f1) := by
     obtain ⟨ad, hA, _, h, _⟩ := at_T37 HS4.out.reads.1 pv hr.1 hr.2
     cases hA
     rw [add_plain] at h
     exact h
    have p0 := eq_true hr.1
    have q0 := eq_true hr.2
    go_wp2
    refine start_ (n := 23) (S := fun w' => w'.cell? ⟨g, 0, none⟩ = some (.slice (some ⟨ga, 0, none⟩) fs.length c0) ∧ w'.cell? ⟨g, 1, none⟩ = some (.slice A1 ls.length c1) ∧ w'.cell? ⟨bx, 1, none⟩ = some (.string m) ∧ w'.cell? ⟨bx, 2, none⟩ = some (.string f) ∧ w'.cell? ⟨ga, pv.toNat * 3 + 1, none⟩ = some (.int .u64 (rd_T37 fs pv).f1)) (ds := [22]) #[false, false, false, false, false, false, false, false, false, false, false, false, false, false, false, false, false, false, false, false, false, false, false] (by kernel_rfl) rfl rfl ⟨(pw_cell_below (w := w4) (below_drew (Below.refl _ _)) hc0), (pw_cell_below (w := w4) (below_drew (Below.refl _ _)) hc1), (pw_cell_below (w := w4) (below_drew (Below.refl _ _)) hx1), (pw_cell_below (w := w4) (below_drew (Below.refl _ _)) hx2), (pw_cell_below (w := w4) (below_drew (Below.refl _ _)) hcf)⟩ (fun hHeld => ?_)
    generalize hw5 : w4.drew = w5 at hHeld ⊢
    have HB5 : Below w4.heap.size w4 w5 := hw5 ▸ below_drew (Below.refl _ _)
    have XK5 := Aside0.mk (blk_below XK4.out HB5)
    have HS5 := Aside0.mk (HS4.out.below HB5)
    have HC0 := Aside0.mk hHeld.1
    have HC1 := Aside0.mk hHeld.2.1
    have HC2 := Aside0.mk hHeld.2.2.1
    have HC3 := Aside0.mk hHeld.2.2.2.1
    have HC4 := Aside0.mk hHeld.2.2.2.2
    have HF1 := Aside0.mk (blk_frozen HS5.out.1 1)
    have HNE := Aside0.mk (Kd.R_ne HS5.out.2.2.1 HS5.out.1 (by decide))
    have HNX := Aside0.mk (Kd.R_ne HS5.out.2.2.1 XK5.out (by decide))
    have HNA := Aside0.mk (show some ga ≠ (Value.slice A1 ls.length c1).ownBlock from fun e => by
     obtain ⟨cs, hcs⟩ := Kd.R_typed HS5.out.2.1 ga rfl
     exact Kd.R_ne HS5.out.2.2.1 hcs (by decide) e)
    have LG5 := Aside0.mk (blk_lt HS5.out.1)
    have LX5 := Aside0.mk (blk_lt XK5.out)
    have LA5 := Aside0.mk (Kd.R_lt HS5.out.2.1 ga rfl)
    clear hw5 HB5
    refine plan_ [(0, 30, false), (1, 31, false), (2, 32, false), (3, 33, false), (5, 35, false), (7, 37, false), (9, 39, false), (10, 40, false), (11, 41, false), (13, 43, false), (4, 34, true), (6, 36, true), (8, 38, true), (12, 42, true), (14, 44, false), (15, 45, false), (16, 46, true), (17, 47, false)] ?_
    repeat (first
     | (
      refine plan_pure (v := ?_) (a' := ?_) rfl rfl (by kernel_rfl) (Or.inl ⟨by rfl, ?_⟩) ?_ ?_ (fun _ _ _ h => h)
      rotate_left
      ·intro w'
       go_simp
       with_reducible rfl
      rotate_left
      ·simp only [Act.put, List.setIfInBounds_toArray, List.set_cons_zero, List.set_cons_succ, i64_w, i32_w]
       rfl)
     | (
      refine plan_take (v := ?_) (a' := ?_) rfl rfl (by kernel_rfl) (Or.inl ⟨by rfl, ?_⟩) hHeld ?_ ?_ (fun _ _ _ h => h)
      rotate_left
      ·rintro w' ⟨s0, s1, s2, s3, s4⟩
       go_simp
       with_reducible rfl
      rotate_left
      ·simp only [Act.put, List.setIfInBounds_toArray, List.set_cons_zero, List.set_cons_succ, i64_w, i32_w]
       rfl))
    refine plan_end ?_
    refine one_ (i := 18) (N := some 48) #[true, true, true, true, true, true, true, true, true, true, true, true, true, true, true, true, true, true, true, false, false, false, false] rfl rfl (by kernel_rfl) (by decide) (fun K hK => ?_)
    refine value_ (w1 := ?_) (v := ?_) (by rfl) rfl ?_ ?_
    rotate_left 2
    ·go_simp
     constructor
     ·rfl
     ·rfl
    refine hK.out _ _ ⟨(pw_cell_below (below_alloc (Below.refl _ _) _) HC0.out), (pw_cell_below (below_alloc (Below.refl _ _) _) HC1.out), (pw_cell_below (below_alloc (Below.refl _ _) _) HC2.out), (pw_cell_below (below_alloc (Below.refl _ _) _) HC3.out), (pw_cell_below (below_alloc (Below.refl _ _) _) HC4.out)⟩ (fun hHeld => ?_)
    clear hK K
    refine norm_ (a' := ?_) ?_ ?_
    rotate_left
    ·show Act.put _ (some 48) _ = _
     simp only [Act.put, List.setIfInBounds_toArray, List.set_cons_zero, List.set_cons_succ, i64_w, i32_w]
     rfl
    refine one_ (i := 19) (N := some 49) #[true, true, true, true, true, true, true, true, true, true, true, true, true, true, true, true, true, true, true, true, false, false, false] rfl rfl (by kernel_rfl) (by decide) (fun K hK => ?_)
    refine Kd.R_append_step (w0 := w0) k39 w0.heap.size (by rfl) (.tmp 34) (.tmp 48) 28 39 (.agg #[.string ⟨#[]⟩, .string ⟨#[]⟩, .int .u64 0, .string ⟨#[]⟩]) 56 rfl Try.underlying28 info39 rfl (by decide) (by omega) (.slice A1 ls.length c1) ls ⟨m, f, (rd_T37 fs pv).f1, ⟨#[]⟩⟩ [.string m, .string f, .int .u64 (rd_T37 fs pv).f1, .string ⟨#[]⟩] (fun _ => True) (fun _ => False) rfl rfl ?aP (fun _ hk => hk.elim) (fun _ _ => trivial) ?aO ?aB ?aS ?aL ?_
    (case aP => exact k39_mkM ..)
    (case aO => exact HS5.out.2.2.1)
    (case aB => exact HS5.out.2.2.2.1)
    (case aS => exact HS5.out.2.2.2.1.size)
    (case aL => omega)
    intro v1 w6 ho hb1 hg1 hat1
    obtain ⟨A1', c1', rfl⟩ := Kd.R_slice ho
    have BK6 := Aside0.mk (blk_grown HS5.out.1 hg1 HNE.out)
    have hc1' : w6.cell? ⟨g, 1, none⟩ = some (.slice A1 ls.length c1) := (hg1.cell_far _ (by exact LG5.out) (by exact HNE.out)).trans HS5.out.cells.2
    have hfz1 : w6.frozen? ⟨g, 1, none⟩ = false := (hg1.frozen_far _ (by exact LG5.out) (by exact HNE.out)).trans HF1.out
    refine hK.out _ _ ⟨((hg1.cell_far _ (by exact LG5.out) (by exact HNE.out)).trans HC0.out), hc1', ((hg1.cell_far _ (by exact LX5.out) (by exact HNX.out)).trans HC2.out), ((hg1.cell_far _ (by exact LX5.out) (by exact HNX.out)).trans HC3.out), ((hg1.cell_far _ (by exact LA5.out) (by exact HNA.out)).trans HC4.out)⟩ (fun hHeld => ?_)
    clear hK K
    refine norm_ (a' := ?_) ?_ ?_
    rotate_left
    ·show Act.put _ (some 49) _ = _
     simp only [Act.put, List.setIfInBounds_toArray, List.set_cons_zero, List.set_cons_succ, i64_w, i32_w]
     rfl
    refine plan_ [(20, 50, false), (21, 51, false)] ?_
    repeat (
     refine plan_pure (v := ?_) (a' := ?_) rfl rfl (by kernel_rfl) (Or.inl ⟨by rfl, ?_⟩) ?_ ?_ (fun _ _ _ h => h)
     rotate_left
     ·intro w'
      go_simp
      with_reducible rfl
     rotate_left
     ·simp only [Act.put, List.setIfInBounds_toArray, List.set_cons_zero, List.set_cons_succ, i64_w, i32_w]
      rfl)
    refine plan_end ?_
    refine last_ (i := 22) (N := none) #[true, true, true, true, true, true, true, true, true, true, true, true, true, true, true, true, true, true, true, true, true, true, true] rfl rfl (by kernel_rfl) (by decide) (fun K hK => ?_)
    refine skip_ (w1 := ?_) (by rfl) rfl ?_ ?_
    rotate_left
    ·go_simp
     rfl
    refine hK.out _ _ ?_
    clear hK K
    refine done_ (by kernel_rfl) ?_
    go_wp2
    go_ret
    refine ⟨rfl, some ⟨ga, 0, none⟩, c0, A1', c1', ?_, ?_, ?_, ?_, HS5.out.2.2.2.2⟩
    ·exact blk_put BK6.out 1 _ (by simp)
    ·exact Kd.R_set (Kd.R_over' HS5.out.2.1 (Kd.R_typed HS5.out.2.2.1) (by decide) hg1) BK6.out (by decide) 1 _
    ·exact Kd.R_set ho BK6.out (by decide) 1 _
    ·exact below_set hb1 HS5.out.2.2.2.2
 ·have b1 : (lv == -1) = false := beq_eq_false_iff_ne.2 h1
  have b1' : (lv != -1) = true := by rw [bne, b1]; rfl
  obtain rfl := HRES2.out.trans (if_neg h1)
  go_wp2
  go_ret
  exact ⟨rfl, HS4.out.at_⟩
def stepF (k : Int) (m f p : ByteArray) (s : Int) (fs : List S37) (ls : List S39) : Int × List S37 × List S39 :=
 if k = 1 then ((arriveF fs f s).1, (arriveF fs f s).2, ls)
 else if k = 3 then ((connectF fs ls m f).1, fs, (connectF fs ls m f).2)
 else if k = 2 then
  if presentV fs f = -1 then (7, fs, ls) else (0, fs.modify (presentV fs f).toNat fun x => ⟨x.f0, x.f1, false⟩, ls)
 else if k = 4 then
  if linkV ls m = -1 then (7, fs, ls) else if presentV fs f = -1 then (7, fs, ls)
  else (0, fs, ls.modify (linkV ls m).toNat fun x => ⟨x.f0, f, (rd_T37 fs (presentV fs f)).f1, x.f3⟩)
 else if k = 5 then
  if p.toList = m.toList then (1, fs, ls)
  else if linkV ls m = -1 then (7, fs, ls)
  else if p.toList = [] then (0, fs, ls.modify (linkV ls m).toNat fun x => ⟨x.f0, x.f1, x.f2, p⟩)
  else if linkV ls p = -1 then (7, fs, ls)
  else (0, fs, ls.modify (linkV ls m).toNat fun x => ⟨x.f0, x.f1, x.f2, p⟩)
 else (0, fs, ls)
theorem link_upd (ls : List S39) (ii : Int) (h0 : 0 ≤ ii) (h1 : ii < ls.length) (f : ByteArray) (s : Int) :
  (ls.set ii.toNat ⟨(rd_T39 ls ii).f0, f, (rd_T39 ls ii).f2, (rd_T39 ls ii).f3⟩).set ii.toNat ⟨(rd_T39 (ls.set ii.toNat ⟨(rd_T39 ls ii).f0, f, (rd_T39 ls ii).f2, (rd_T39 ls ii).f3⟩) ii).f0, (rd_T39 (ls.set ii.toNat ⟨(rd_T39 ls ii).f0, f, (rd_T39 ls ii).f2, (rd_T39 ls ii).f3⟩) ii).f1, s, (rd_T39 (ls.set ii.toNat ⟨(rd_T39 ls ii).f0, f, (rd_T39 ls ii).f2, (rd_T39 ls ii).f3⟩) ii).f3⟩ = ls.modify ii.toNat fun x => ⟨x.f0, f, s, x.f3⟩ := by
 have hi : ii.toNat < ls.length := by omega
 have h : ∀ y, rd_T39 (ls.set ii.toNat y) ii = y := fun y => getD_set ls _ _ hi y
 rw [h, List.set_set, ← set_modify ls z39 _ hi]
 rfl
set_option maxHeartbeats 2000000 in
set_option maxRecDepth 100000 in
theorem step_calls (g : Nat) (k : Int) (m f p : ByteArray) (s : Int) (fs : List S37) (ls : List S39) (res : Int × List S37 × List S39) (w0 w : World) (hS : StAt w0 w g fs ls) (hres : res = stepF k m f p s fs ls) :
  Calls Try.prog 35 #[.pointer (some ⟨g, 0, none⟩), .agg #[.int .i64 k, .string m, .string f, .string p, .int .u64 s]] w fun e w' => e = .returned (.int .i64 res.1) ∧ StAt w0 w' g res.2.1 res.2.2 := by
 obtain ⟨A0, c0, A1, c1, hs⟩ := hS
 have HRES := Aside0.mk hres
 have HS := Aside0.mk hs
 have hlg : g < w.heap.size := blk_lt hs.1
 have hu30 := Try.underlying30
 have hu45 := Try.underlying45
 have hc0 := hs.cells.1
 have hc1 := hs.cells.2
 have n0 := World.new_ne w ⟨g, 0, none⟩ hc0
 clear hres hs
 go_enter Try.func35, Try.ntmps35
 go_wp2
 obtain ⟨bx, hbx⟩ : ∃ bx, bx = w.heap.size := ⟨_, rfl⟩
 obtain ⟨w2, hw2⟩ : ∃ w2, w2 = w.alloc (.cells #[.int .i64 k, .string m, .string f, .string p, .int .u64 s] 45) := ⟨_, rfl⟩
 have XK2 := Aside0.mk (show w2.heap[bx]? = some (.cells #[.int .i64 k, .string m, .string f, .string p, .int .u64 s] 45 (0, 0)) by rw [hw2, hbx]; exact blk_new _ _)
 have HS2 := Aside0.mk (show StIs w0 w2 g A0 c0 A1 c1 fs ls from HS.out.below (by rw [hw2]; exact (Below.refl _ _).alloc (Nat.le_refl _) _))
 rw [← hw2, ← hbx]
 clear hw2 hbx hc0 hc1 n0 HS
 refine start_ (n := 14) (S := fun w' => w'.cell? ⟨g, 0, none⟩ = some (.slice A0 fs.length c0) ∧ w'.cell? ⟨g, 1, none⟩ = some (.slice A1 ls.length c1) ∧ w'.cell? ⟨bx, 1, none⟩ = some (.string m) ∧ w'.cell? ⟨bx, 2, none⟩ = some (.string f)) (ds := []) #[false, false, false, false, false, false, false, false, false, false, false, false, false, false] (by kernel_rfl) rfl rfl ⟨(HS2.out.drew.cells.1), (HS2.out.drew.cells.2), ((blk_cell (blk_drew XK2.out) 1).trans rfl), ((blk_cell (blk_drew XK2.out) 2).trans rfl)⟩ (fun hHeld => ?_)
 generalize hw3 : w2.drew = w3 at hHeld ⊢
 have HB3 : Below w2.heap.size w2 w3 := hw3 ▸ below_drew (Below.refl _ _)
 have XK3 := Aside0.mk (blk_below XK2.out HB3)
 have HS3 := Aside0.mk (HS2.out.below HB3)
 clear hw3 HB3
 refine plan_ [(0, 7, false), (1, 8, false), (3, 10, false), (6, 13, false), (7, 14, false), (9, 16, false), (2, 9, true), (4, 11, true), (8, 15, true), (10, 17, true)] ?_
 repeat (first
  | (
   refine plan_pure (v := ?_) (a' := ?_) rfl rfl (by kernel_rfl) (Or.inl ⟨by rfl, ?_⟩) ?_ ?_ (fun _ _ _ h => h)
   rotate_left
   ·intro w'
    go_simp
    with_reducible rfl
   rotate_left
   ·simp only [Act.put, List.setIfInBounds_toArray, List.set_cons_zero, List.set_cons_succ, i64_w, i32_w]
    rfl)
  | (
   refine plan_take (v := ?_) (a' := ?_) rfl rfl (by kernel_rfl) (Or.inl ⟨by rfl, ?_⟩) hHeld ?_ ?_ (fun _ _ _ h => h)
   rotate_left
   ·rintro w' ⟨s0, s1, s2, s3⟩
    go_simp
    with_reducible rfl
   rotate_left
   ·simp only [Act.put, List.setIfInBounds_toArray, List.set_cons_zero, List.set_cons_succ, i64_w, i32_w]
    rfl))
 refine plan_end ?_
 refine one_ (i := 5) (N := some 12) #[true, true, true, true, true, true, true, true, true, true, true, false, false, false] rfl rfl (by kernel_rfl) (by decide) (fun K hK => ?_)
 refine goes_ Try.func30 (by kernel_rfl) rfl #[.agg #[.slice A0 fs.length c0, .slice A1 ls.length c1], .string f] (by rfl) rfl rfl (by (try simp only [List.map_toArray, List.map_cons, List.map_nil]); first | done | rfl) ?_
 have RD := HS3.out.reads
 with_reducible refine (media_State_present.calls A0 c0 fs A1 c1 ls f _ _ RD.1 RD.2.1 RD.2.2.1 RD.2.2.2 (presentV_f fs ls f)).mono ?_
 rintro e w4 ⟨rfl, hb⟩
 refine ⟨_, rfl, ?_⟩
 have XK4 := Aside0.mk (blk_below XK3.out hb)
 have HS4 := Aside0.mk (HS3.out.below hb)
 clear hb RD
 refine hK.out _ _ ⟨HS4.out.cells.1, HS4.out.cells.2, ((blk_cell XK4.out 1).trans rfl), ((blk_cell XK4.out 2).trans rfl)⟩ (fun hHeld => ?_)
 clear hK K
 refine norm_ (a' := ?_) ?_ ?_
 rotate_left
 ·show Act.put _ (some 12) _ = _
  simp only [Act.put, List.setIfInBounds_toArray, List.set_cons_zero, List.set_cons_succ, i64_w, i32_w]
  rfl
 refine one_ (i := 11) (N := some 18) #[true, true, true, true, true, true, true, true, true, true, true, true, false, false] rfl rfl (by kernel_rfl) (by decide) (fun K hK => ?_)
 refine goes_ Try.func29 (by kernel_rfl) rfl #[.agg #[.slice A0 fs.length c0, .slice A1 ls.length c1], .string m] (by rfl) rfl rfl (by (try simp only [List.map_toArray, List.map_cons, List.map_nil]); first | done | rfl) ?_
 have RD := HS4.out.reads
 with_reducible refine (media_State_link.calls A0 c0 fs A1 c1 ls m _ _ RD.1 RD.2.1 RD.2.2.1 RD.2.2.2 (linkV_f fs ls m)).mono ?_
 rintro e w5 ⟨rfl, hb⟩
 refine ⟨_, rfl, ?_⟩
 have XK5 := Aside0.mk (blk_below XK4.out hb)
 have HS5 := Aside0.mk (HS4.out.below hb)
 clear hb RD
 refine hK.out _ _ ⟨HS5.out.cells.1, HS5.out.cells.2, ((blk_cell XK5.out 1).trans rfl), ((blk_cell XK5.out 2).trans rfl)⟩ (fun hHeld => ?_)
 clear hK K
 refine norm_ (a' := ?_) ?_ ?_
 rotate_left
 ·show Act.put _ (some 18) _ = _
  simp only [Act.put, List.setIfInBounds_toArray, List.set_cons_zero, List.set_cons_succ, i64_w, i32_w]
  rfl
 refine plan_ [(12, 5, false), (13, 6, false)] ?_
 repeat (
  refine plan_pure (v := ?_) (a' := ?_) rfl rfl (by kernel_rfl) (Or.inl ⟨by rfl, ?_⟩) ?_ ?_ (fun _ _ _ h => h)
  rotate_left
  ·intro w'
   go_simp
   with_reducible rfl
  rotate_left
  ·simp only [Act.put, List.setIfInBounds_toArray, List.set_cons_zero, List.set_cons_succ, i64_w, i32_w]
   rfl)
 refine plan_end ?_
 refine done_ (by kernel_rfl) ?_
 unfold stepF at HRES
 have hx0 : w5.cell? ⟨bx, 0, none⟩ = some (.int .i64 k) := (blk_cell XK5.out 0).trans rfl
 have hx1 : w5.cell? ⟨bx, 1, none⟩ = some (.string m) := (blk_cell XK5.out 1).trans rfl
 have hx2 : w5.cell? ⟨bx, 2, none⟩ = some (.string f) := (blk_cell XK5.out 2).trans rfl
 have hx3 : w5.cell? ⟨bx, 3, none⟩ = some (.string p) := (blk_cell XK5.out 3).trans rfl
 have hx4 : w5.cell? ⟨bx, 4, none⟩ = some (.int .u64 s) := (blk_cell XK5.out 4).trans rfl
 clear hHeld
 have hl := linkV_range ls m
 have hp := presentV_range fs f
 have HL := Aside0.mk hl
 have HP := Aside0.mk hp
 clear hl hp
 by_cases h1 : k = 1
 ·have b1 : (k == 1) = true := beq_iff_eq.2 h1
  have H1 := HRES.out.trans (if_pos h1)
  subst H1
  clear HRES h1
  go_wp2_with fail
  refine (arrive_calls g k m f p s fs ls w0 _ HS5.out.at_).mono ?_
  rintro e w6 ⟨rfl, hst⟩
  go_wp2
  go_ret
  exact ⟨rfl, hst⟩
 have b1 : (k == 1) = false := beq_eq_false_iff_ne.2 h1
 have HRES2 := Aside0.mk (HRES.out.trans (if_neg h1))
 clear HRES h1
 by_cases h3 : k = 3
 ·have b3 : (k == 3) = true := beq_iff_eq.2 h3
  have H1 := HRES2.out.trans (if_pos h3)
  subst H1
  clear HRES2 h3
  go_wp2_with fail
  refine (connect_calls g k m f p s fs ls _ w0 _ HS5.out.at_ rfl).mono ?_
  rintro e w6 ⟨rfl, hst⟩
  go_wp2
  go_ret
  exact ⟨rfl, hst⟩
 have b3 : (k == 3) = false := beq_eq_false_iff_ne.2 h3
 have HRES3 := Aside0.mk (HRES2.out.trans (if_neg h3))
 clear HRES2 h3
 by_cases h2 : k = 2
 ·have b2 : (k == 2) = true := beq_iff_eq.2 h2
  have H1 := Aside0.mk (HRES3.out.trans (if_pos h2))
  clear HRES3 h2
  by_cases hpv : presentV fs f = -1
  ·have bp : (presentV fs f == -1) = true := beq_iff_eq.2 hpv
   obtain rfl := H1.out.trans (if_pos hpv)
   go_wp2
   go_ret
   exact ⟨rfl, HS5.out.at_⟩
  ·have bp : (presentV fs f == -1) = false := beq_eq_false_iff_ne.2 hpv
   have hr := HP.out.resolve_left hpv
   obtain rfl := H1.out.trans (if_neg hpv)
   obtain ⟨ga, rfl⟩ := HS5.out.form0 (by omega)
   have hc0 := HS5.out.cells.1
   obtain ⟨⟨v1, hv1⟩, hf1, hs1, _⟩ := HS5.out.f2 (presentV fs f) hr.1 hr.2 false
   have HS6 := Aside0.mk hs1
   have p0 := eq_true hr.1
   have q0 := eq_true hr.2
   have n0 := World.new_ne w5 ⟨g, 0, none⟩ hc0
   clear hs1
   go_wp2
   go_ret
   refine ⟨rfl, ?_⟩
   rw [← set_modify fs z37 _ (by omega)]
   exact HS6.out.at_
 have b2 : (k == 2) = false := beq_eq_false_iff_ne.2 h2
 have HRES4 := Aside0.mk (HRES3.out.trans (if_neg h2))
 clear HRES3 h2
 by_cases h4 : k = 4
 ·have b4 : (k == 4) = true := beq_iff_eq.2 h4
  have H1 := Aside0.mk (HRES4.out.trans (if_pos h4))
  clear HRES4 h4
  by_cases hlv : linkV ls m = -1
  ·have bl : (linkV ls m == -1) = true := beq_iff_eq.2 hlv
   obtain rfl := H1.out.trans (if_pos hlv)
   go_wp2
   go_ret
   exact ⟨rfl, HS5.out.at_⟩
  ·have bl : (linkV ls m == -1) = false := beq_eq_false_iff_ne.2 hlv
   have H2 := Aside0.mk (H1.out.trans (if_neg hlv))
   clear H1
   by_cases hpv : presentV fs f = -1
   ·have bp : (presentV fs f == -1) = true := beq_iff_eq.2 hpv
    obtain rfl := H2.out.trans (if_pos hpv)
    go_wp2
    go_ret
    exact ⟨rfl, HS5.out.at_⟩
   ·have bp : (presentV fs f == -1) = false := beq_eq_false_iff_ne.2 hpv
    obtain rfl := H2.out.trans (if_neg hpv)
    have hr := HP.out.resolve_left hpv
    have hl := HL.out.resolve_left hlv
    obtain ⟨ga, rfl⟩ := HS5.out.form0 (by omega)
    obtain ⟨la, rfl⟩ := HS5.out.form1 (by omega)
    have hcf : w5.cell? ⟨ga, (presentV fs f).toNat * 3 + 1, none⟩ = some (.int .u64 (rd_T37 fs (presentV fs f)).f1) := by
     obtain ⟨ad, hA, _, h, _⟩ := at_T37 HS5.out.reads.1 (presentV fs f) hr.1 hr.2
     cases hA
     rw [add_plain] at h
     exact h
    have p0 := eq_true hr.1
    have q0 := eq_true hr.2
    have p1 := eq_true hl.1
    have q1 := eq_true hl.2
    go_wp2
    refine start_ (n := 26) (S := fun w' => w'.cell? ⟨g, 0, none⟩ = some (.slice (some ⟨ga, 0, none⟩) fs.length c0) ∧ w'.cell? ⟨g, 1, none⟩ = some (.slice (some ⟨la, 0, none⟩) ls.length c1) ∧ w'.cell? ⟨bx, 2, none⟩ = some (.string f) ∧ w'.cell? ⟨ga, (presentV fs f).toNat * 3 + 1, none⟩ = some (.int .u64 (rd_T37 fs (presentV fs f)).f1)) (ds := [22, 25]) #[false, false, false, false, false, false, false, false, false, false, false, false, false, false, false, false, false, false, false, false, false, false, false, false, false, false] (by kernel_rfl) rfl rfl ⟨(HS5.out.drew.cells.1), (HS5.out.drew.cells.2), ((blk_cell (blk_drew XK5.out) 2).trans rfl), hcf⟩ (fun hHeld => ?_)
    generalize hw6 : w5.drew = w6 at hHeld ⊢
    have HB6 : Below w5.heap.size w5 w6 := hw6 ▸ below_drew (Below.refl _ _)
    have XK6 := Aside0.mk (blk_below XK5.out HB6)
    have HS6 := Aside0.mk (HS5.out.below HB6)
    clear hw6 HB6
    obtain ⟨⟨v1, hv1⟩, hf1, hs1, _⟩ := HS6.out.l1 (linkV ls m) hl.1 hl.2 f
    have HP1 := Aside0.mk hs1
    clear hs1
    refine plan_ [(0, 50, false), (1, 51, false), (2, 52, false), (4, 54, false), (5, 55, false), (6, 56, false), (7, 57, false), (9, 59, false), (10, 60, false), (12, 62, false), (13, 63, false), (14, 64, false), (16, 66, false), (3, 53, true), (8, 58, true), (11, 61, true), (15, 65, true), (17, 67, false), (18, 68, false), (19, 69, true), (20, 70, false), (21, 71, false)] ?_
    repeat (first
     | (
      refine plan_pure (v := ?_) (a' := ?_) rfl rfl (by kernel_rfl) (Or.inl ⟨by rfl, ?_⟩) ?_ ?_ (fun _ _ _ h => h)
      rotate_left
      ·intro w'
       go_simp
       with_reducible rfl
      rotate_left
      ·simp only [Act.put, List.setIfInBounds_toArray, List.set_cons_zero, List.set_cons_succ, i64_w, i32_w]
       rfl)
     | (
      refine plan_take (v := ?_) (a' := ?_) rfl rfl (by kernel_rfl) (Or.inl ⟨by rfl, ?_⟩) hHeld ?_ ?_ (fun _ _ _ h => h)
      rotate_left
      ·rintro w' ⟨s0, s1, s2, s3⟩
       go_simp
       with_reducible rfl
      rotate_left
      ·simp only [Act.put, List.setIfInBounds_toArray, List.set_cons_zero, List.set_cons_succ, i64_w, i32_w]
       rfl))
    refine plan_end ?_
    refine last_ (i := 22) (N := none) #[true, true, true, true, true, true, true, true, true, true, true, true, true, true, true, true, true, true, true, true, true, true, true, false, false, false] rfl rfl (by kernel_rfl) (by decide) (fun K hK => ?_)
    refine skip_ (w1 := ?_) (by rfl) rfl ?_ ?_
    rotate_left
    ·go_simp
     rfl
    obtain ⟨w7, hw7⟩ : ∃ w7, w7 = (w6.setCell ⟨la, (linkV ls m).toNat * 4 + 1, none⟩ (.string f)) := ⟨_, rfl⟩
    rw [← hw7]
    have HS7 := Aside0.mk (hw7 ▸ HP1.out)
    obtain ⟨⟨v2, hv2⟩, hf2, hs2, _⟩ := HS7.out.l2 (linkV ls m) hl.1 (by rw [List.length_set]; exact hl.2) (rd_T37 fs (presentV fs f)).f1
    have HP2 := Aside0.mk hs2
    clear hs2 hw7
    refine hK.out _ _ ?_
    clear hK K
    refine plan_ [(23, 72, false), (24, 73, false)] ?_
    repeat (
     refine plan_pure (v := ?_) (a' := ?_) rfl rfl (by kernel_rfl) (Or.inl ⟨by rfl, ?_⟩) ?_ ?_ (fun _ _ _ h => h)
     rotate_left
     ·intro w'
      go_simp
      with_reducible rfl
     rotate_left
     ·simp only [Act.put, List.setIfInBounds_toArray, List.set_cons_zero, List.set_cons_succ, i64_w, i32_w]
      rfl)
    refine plan_end ?_
    refine last_ (i := 25) (N := none) #[true, true, true, true, true, true, true, true, true, true, true, true, true, true, true, true, true, true, true, true, true, true, true, true, true, true] rfl rfl (by kernel_rfl) (by decide) (fun K hK => ?_)
    refine skip_ (w1 := ?_) (by rfl) rfl ?_ ?_
    rotate_left
    ·go_simp
     rfl
    refine hK.out _ _ ?_
    clear hK K
    refine done_ (by kernel_rfl) ?_
    go_wp2
    go_ret
    rw [← link_upd ls (linkV ls m) hl.1 hl.2]
    exact ⟨rfl, HP2.out.at_⟩
 have b4 : (k == 4) = false := beq_eq_false_iff_ne.2 h4
 have HRES5 := Aside0.mk (HRES4.out.trans (if_neg h4))
 clear HRES4 h4
 by_cases h5 : k = 5
 ·have b5 : (k == 5) = true := beq_iff_eq.2 h5
  have H1 := Aside0.mk (HRES5.out.trans (if_pos h5))
  clear HRES5 h5
  by_cases hpm : p.toList = m.toList
  ·have bpm : (p.toList == m.toList) = true := beq_iff_eq.2 hpm
   obtain rfl := H1.out.trans (if_pos hpm)
   go_wp2
   go_ret
   exact ⟨rfl, HS5.out.at_⟩
  have bpm : (p.toList == m.toList) = false := beq_eq_false_iff_ne.2 hpm
  have H2 := Aside0.mk (H1.out.trans (if_neg hpm))
  clear H1 hpm
  by_cases hlv : linkV ls m = -1
  ·have bl : (linkV ls m == -1) = true := beq_iff_eq.2 hlv
   have bl' : decide (linkV ls m = -1) = true := decide_eq_true hlv
   obtain rfl := H2.out.trans (if_pos hlv)
   go_wp2
   refine start_ (n := 16) (S := fun w' => w'.cell? ⟨g, 0, none⟩ = some (.slice A0 fs.length c0) ∧ w'.cell? ⟨g, 1, none⟩ = some (.slice A1 ls.length c1) ∧ w'.cell? ⟨bx, 3, none⟩ = some (.string p)) (ds := []) #[false, false, false, false, false, false, false, false, false, false, false, false, false, false, false, false] (by kernel_rfl) rfl rfl ⟨(HS5.out.drew.cells.1), (HS5.out.drew.cells.2), ((blk_cell (blk_drew XK5.out) 3).trans rfl)⟩ (fun hHeld => ?_)
   generalize hw6 : w5.drew = w6 at hHeld ⊢
   have HB6 : Below w5.heap.size w5 w6 := hw6 ▸ below_drew (Below.refl _ _)
   have XK6 := Aside0.mk (blk_below XK5.out HB6)
   have HS6 := Aside0.mk (HS5.out.below HB6)
   clear hw6 HB6
   refine plan_ [(0, 81, false), (1, 82, false), (2, 83, false)] ?_
   repeat (
    refine plan_pure (v := ?_) (a' := ?_) rfl rfl (by kernel_rfl) (Or.inl ⟨by rfl, ?_⟩) ?_ ?_ (fun _ _ _ h => h)
    rotate_left
    ·intro w'
     go_simp
     with_reducible rfl
    rotate_left
    ·simp only [Act.put, List.setIfInBounds_toArray, List.set_cons_zero, List.set_cons_succ, i64_w, i32_w]
     rfl)
   refine plan_end ?_
   refine pure_ (i := 3) (N := some 84) (v := undef) (a' := ?_) #[true, true, true, true, false, false, false, false, false, false, false, false, false, false, false, false] rfl rfl (by kernel_rfl) (fun _ _ _ h => h) (Or.inr ⟨by rfl, rfl⟩) ?_ ?_
   rotate_left
   ·simp only [Act.put, List.setIfInBounds_toArray, List.set_cons_zero, List.set_cons_succ, i64_w, i32_w]
    rfl
   refine pure_ (i := 4) (N := some 85) (v := undef) (a' := ?_) #[true, true, true, true, true, false, false, false, false, false, false, false, false, false, false, false] rfl rfl (by kernel_rfl) (fun _ _ _ h => h) (Or.inr ⟨by rfl, rfl⟩) ?_ ?_
   rotate_left
   ·simp only [Act.put, List.setIfInBounds_toArray, List.set_cons_zero, List.set_cons_succ, i64_w, i32_w]
    rfl
   refine pure_ (i := 5) (N := some 86) (v := undef) (a' := ?_) #[true, true, true, true, true, true, false, false, false, false, false, false, false, false, false, false] rfl rfl (by kernel_rfl) (fun _ _ _ h => h) (Or.inr ⟨by rfl, rfl⟩) ?_ ?_
   rotate_left
   ·simp only [Act.put, List.setIfInBounds_toArray, List.set_cons_zero, List.set_cons_succ, i64_w, i32_w]
    rfl
   refine pure_ (i := 6) (N := some 87) (v := undef) (a' := ?_) #[true, true, true, true, true, true, true, false, false, false, false, false, false, false, false, false] rfl rfl (by kernel_rfl) (fun _ _ _ h => h) (Or.inr ⟨by rfl, rfl⟩) ?_ ?_
   rotate_left
   ·simp only [Act.put, List.setIfInBounds_toArray, List.set_cons_zero, List.set_cons_succ, i64_w, i32_w]
    rfl
   refine pure_ (i := 7) (N := some 88) (v := undef) (a' := ?_) #[true, true, true, true, true, true, true, true, false, false, false, false, false, false, false, false] rfl rfl (by kernel_rfl) (fun _ _ _ h => h) (Or.inr ⟨by rfl, rfl⟩) ?_ ?_
   rotate_left
   ·simp only [Act.put, List.setIfInBounds_toArray, List.set_cons_zero, List.set_cons_succ, i64_w, i32_w]
    rfl
   refine pure_ (i := 8) (N := some 89) (v := undef) (a' := ?_) #[true, true, true, true, true, true, true, true, true, false, false, false, false, false, false, false] rfl rfl (by kernel_rfl) (fun _ _ _ h => h) (Or.inr ⟨by rfl, rfl⟩) ?_ ?_
   rotate_left
   ·simp only [Act.put, List.setIfInBounds_toArray, List.set_cons_zero, List.set_cons_succ, i64_w, i32_w]
    rfl
   refine pure_ (i := 9) (N := some 90) (v := undef) (a' := ?_) #[true, true, true, true, true, true, true, true, true, true, false, false, false, false, false, false] rfl rfl (by kernel_rfl) (fun _ _ _ h => h) (Or.inr ⟨by rfl, rfl⟩) ?_ ?_
   rotate_left
   ·simp only [Act.put, List.setIfInBounds_toArray, List.set_cons_zero, List.set_cons_succ, i64_w, i32_w]
    rfl
   refine pure_ (i := 10) (N := some 91) (v := undef) (a' := ?_) #[true, true, true, true, true, true, true, true, true, true, true, false, false, false, false, false] rfl rfl (by kernel_rfl) (fun _ _ _ h => h) (Or.inr ⟨by rfl, rfl⟩) ?_ ?_
   rotate_left
   ·simp only [Act.put, List.setIfInBounds_toArray, List.set_cons_zero, List.set_cons_succ, i64_w, i32_w]
    rfl
   refine pure_ (i := 11) (N := some 92) (v := undef) (a' := ?_) #[true, true, true, true, true, true, true, true, true, true, true, true, false, false, false, false] rfl rfl (by kernel_rfl) (fun _ _ _ h => h) (Or.inr ⟨by rfl, rfl⟩) ?_ ?_
   rotate_left
   ·simp only [Act.put, List.setIfInBounds_toArray, List.set_cons_zero, List.set_cons_succ, i64_w, i32_w]
    rfl
   refine pure_ (i := 12) (N := some 93) (v := undef) (a' := ?_) #[true, true, true, true, true, true, true, true, true, true, true, true, true, false, false, false] rfl rfl (by kernel_rfl) (fun _ _ _ h => h) (Or.inr ⟨by rfl, rfl⟩) ?_ ?_
   rotate_left
   ·simp only [Act.put, List.setIfInBounds_toArray, List.set_cons_zero, List.set_cons_succ, i64_w, i32_w]
    rfl
   refine pure_ (i := 13) (N := some 94) (v := undef) (a' := ?_) #[true, true, true, true, true, true, true, true, true, true, true, true, true, true, false, false] rfl rfl (by kernel_rfl) (fun _ _ _ h => h) (Or.inr ⟨by rfl, rfl⟩) ?_ ?_
   rotate_left
   ·simp only [Act.put, List.setIfInBounds_toArray, List.set_cons_zero, List.set_cons_succ, i64_w, i32_w]
    rfl
   refine pure_ (i := 14) (N := some 95) (v := undef) (a' := ?_) #[true, true, true, true, true, true, true, true, true, true, true, true, true, true, true, false] rfl rfl (by kernel_rfl) (fun _ _ _ h => h) (Or.inr ⟨by rfl, rfl⟩) ?_ ?_
   rotate_left
   ·simp only [Act.put, List.setIfInBounds_toArray, List.set_cons_zero, List.set_cons_succ, i64_w, i32_w]
    rfl
   refine pure_ (i := 15) (N := some 96) (v := ?_) (a' := ?_) #[true, true, true, true, true, true, true, true, true, true, true, true, true, true, true, true] rfl rfl (by kernel_rfl) (fun _ _ _ h => h) (Or.inl ⟨by rfl, ?_⟩) ?_ ?_
   rotate_left
   ·intro w'
    go_simp
    with_reducible rfl
   rotate_left
   ·simp only [Act.put, List.setIfInBounds_toArray, List.set_cons_zero, List.set_cons_succ, i64_w, i32_w]
    rfl
   refine done_ (by kernel_rfl) ?_
   go_wp2
   go_ret
   exact ⟨rfl, HS6.out.at_⟩
  have bl : (linkV ls m == -1) = false := beq_eq_false_iff_ne.2 hlv
  have bl' : decide (linkV ls m = -1) = false := decide_eq_false hlv
  have H3 := Aside0.mk (H2.out.trans (if_neg hlv))
  have hl := HL.out.resolve_left hlv
  obtain ⟨la, rfl⟩ := HS5.out.form1 (by omega)
  have p1 := eq_true hl.1
  have q1 := eq_true hl.2
  clear H2
  by_cases hpe : p.toList = []
  ·have be : (p.toList == ([] : List UInt8)) = true := beq_iff_eq.2 hpe
   have be' : p.toList.isEmpty = true := by rw [hpe]; rfl
   have be'' : (p.toList != ([] : List UInt8)) = false := by rw [bne, be]; rfl
   obtain rfl := H3.out.trans (if_pos hpe)
   clear hpe
   go_wp2
   refine start_ (n := 16) (S := fun w' => w'.cell? ⟨g, 0, none⟩ = some (.slice A0 fs.length c0) ∧ w'.cell? ⟨g, 1, none⟩ = some (.slice (some ⟨la, 0, none⟩) ls.length c1) ∧ w'.cell? ⟨bx, 3, none⟩ = some (.string p)) (ds := []) #[false, false, false, false, false, false, false, false, false, false, false, false, false, false, false, false] (by kernel_rfl) rfl rfl ⟨(HS5.out.drew.cells.1), (HS5.out.drew.cells.2), ((blk_cell (blk_drew XK5.out) 3).trans rfl)⟩ (fun hHeld => ?_)
   generalize hw6 : w5.drew = w6 at hHeld ⊢
   have HB6 : Below w5.heap.size w5 w6 := hw6 ▸ below_drew (Below.refl _ _)
   have XK6 := Aside0.mk (blk_below XK5.out HB6)
   have HS6 := Aside0.mk (HS5.out.below HB6)
   clear hw6 HB6
   refine plan_ [(0, 81, false), (1, 82, false), (2, 83, false), (3, 84, false), (4, 85, true), (5, 86, false), (6, 87, false)] ?_
   repeat (first
    | (
     refine plan_pure (v := ?_) (a' := ?_) rfl rfl (by kernel_rfl) (Or.inl ⟨by rfl, ?_⟩) ?_ ?_ (fun _ _ _ h => h)
     rotate_left
     ·intro w'
      go_simp
      with_reducible rfl
     rotate_left
     ·simp only [Act.put, List.setIfInBounds_toArray, List.set_cons_zero, List.set_cons_succ, i64_w, i32_w]
      rfl)
    | (
     refine plan_take (v := ?_) (a' := ?_) rfl rfl (by kernel_rfl) (Or.inl ⟨by rfl, ?_⟩) hHeld ?_ ?_ (fun _ _ _ h => h)
     rotate_left
     ·rintro w' ⟨s0, s1, s2⟩
      go_simp
      with_reducible rfl
     rotate_left
     ·simp only [Act.put, List.setIfInBounds_toArray, List.set_cons_zero, List.set_cons_succ, i64_w, i32_w]
      rfl))
   refine plan_end ?_
   refine pure_ (i := 7) (N := some 88) (v := undef) (a' := ?_) #[true, true, true, true, true, true, true, true, false, false, false, false, false, false, false, false] rfl rfl (by kernel_rfl) (fun _ _ _ h => h) (Or.inr ⟨by rfl, rfl⟩) ?_ ?_
   rotate_left
   ·simp only [Act.put, List.setIfInBounds_toArray, List.set_cons_zero, List.set_cons_succ, i64_w, i32_w]
    rfl
   refine pure_ (i := 8) (N := some 89) (v := undef) (a' := ?_) #[true, true, true, true, true, true, true, true, true, false, false, false, false, false, false, false] rfl rfl (by kernel_rfl) (fun _ _ _ h => h) (Or.inr ⟨by rfl, rfl⟩) ?_ ?_
   rotate_left
   ·simp only [Act.put, List.setIfInBounds_toArray, List.set_cons_zero, List.set_cons_succ, i64_w, i32_w]
    rfl
   refine pure_ (i := 9) (N := some 90) (v := undef) (a' := ?_) #[true, true, true, true, true, true, true, true, true, true, false, false, false, false, false, false] rfl rfl (by kernel_rfl) (fun _ _ _ h => h) (Or.inr ⟨by rfl, rfl⟩) ?_ ?_
   rotate_left
   ·simp only [Act.put, List.setIfInBounds_toArray, List.set_cons_zero, List.set_cons_succ, i64_w, i32_w]
    rfl
   refine pure_ (i := 10) (N := some 91) (v := undef) (a' := ?_) #[true, true, true, true, true, true, true, true, true, true, true, false, false, false, false, false] rfl rfl (by kernel_rfl) (fun _ _ _ h => h) (Or.inr ⟨by rfl, rfl⟩) ?_ ?_
   rotate_left
   ·simp only [Act.put, List.setIfInBounds_toArray, List.set_cons_zero, List.set_cons_succ, i64_w, i32_w]
    rfl
   refine pure_ (i := 11) (N := some 92) (v := undef) (a' := ?_) #[true, true, true, true, true, true, true, true, true, true, true, true, false, false, false, false] rfl rfl (by kernel_rfl) (fun _ _ _ h => h) (Or.inr ⟨by rfl, rfl⟩) ?_ ?_
   rotate_left
   ·simp only [Act.put, List.setIfInBounds_toArray, List.set_cons_zero, List.set_cons_succ, i64_w, i32_w]
    rfl
   refine pure_ (i := 12) (N := some 93) (v := undef) (a' := ?_) #[true, true, true, true, true, true, true, true, true, true, true, true, true, false, false, false] rfl rfl (by kernel_rfl) (fun _ _ _ h => h) (Or.inr ⟨by rfl, rfl⟩) ?_ ?_
   rotate_left
   ·simp only [Act.put, List.setIfInBounds_toArray, List.set_cons_zero, List.set_cons_succ, i64_w, i32_w]
    rfl
   refine pure_ (i := 13) (N := some 94) (v := undef) (a' := ?_) #[true, true, true, true, true, true, true, true, true, true, true, true, true, true, false, false] rfl rfl (by kernel_rfl) (fun _ _ _ h => h) (Or.inr ⟨by rfl, rfl⟩) ?_ ?_
   rotate_left
   ·simp only [Act.put, List.setIfInBounds_toArray, List.set_cons_zero, List.set_cons_succ, i64_w, i32_w]
    rfl
   refine plan_ [(14, 95, false), (15, 96, false)] ?_
   repeat (
    refine plan_pure (v := ?_) (a' := ?_) rfl rfl (by kernel_rfl) (Or.inl ⟨by rfl, ?_⟩) ?_ ?_ (fun _ _ _ h => h)
    rotate_left
    ·intro w'
     go_simp
     with_reducible rfl
    rotate_left
    ·simp only [Act.put, List.setIfInBounds_toArray, List.set_cons_zero, List.set_cons_succ, i64_w, i32_w]
     rfl)
   refine plan_end ?_
   refine done_ (by kernel_rfl) ?_
   clear hHeld
   go_wp2
   refine start_ (n := 10) (S := fun w' => w'.cell? ⟨g, 1, none⟩ = some (.slice (some ⟨la, 0, none⟩) ls.length c1) ∧ w'.cell? ⟨bx, 3, none⟩ = some (.string p)) (ds := [9]) #[false, false, false, false, false, false, false, false, false, false] (by kernel_rfl) rfl rfl ⟨(HS6.out.drew.cells.2), ((blk_cell (blk_drew XK6.out) 3).trans rfl)⟩ (fun hHeld => ?_)
   generalize hw7 : w6.drew = w7 at hHeld ⊢
   have HB7 : Below w6.heap.size w6 w7 := hw7 ▸ below_drew (Below.refl _ _)
   have XK7 := Aside0.mk (blk_below XK6.out HB7)
   have HS7 := Aside0.mk (HS6.out.below HB7)
   clear hw7 HB7
   obtain ⟨⟨v1, hv1⟩, hf1, hs1, _⟩ := HS7.out.l3 (linkV ls m) hl.1 hl.2 p
   have HP1 := Aside0.mk hs1
   clear hs1
   refine plan_ [(0, 97, false), (1, 98, false), (2, 99, false), (4, 101, false), (5, 102, false), (3, 100, true), (6, 103, true), (7, 104, false), (8, 105, false)] ?_
   repeat (first
    | (
     refine plan_pure (v := ?_) (a' := ?_) rfl rfl (by kernel_rfl) (Or.inl ⟨by rfl, ?_⟩) ?_ ?_ (fun _ _ _ h => h)
     rotate_left
     ·intro w'
      go_simp
      with_reducible rfl
     rotate_left
     ·simp only [Act.put, List.setIfInBounds_toArray, List.set_cons_zero, List.set_cons_succ, i64_w, i32_w]
      rfl)
    | (
     refine plan_take (v := ?_) (a' := ?_) rfl rfl (by kernel_rfl) (Or.inl ⟨by rfl, ?_⟩) hHeld ?_ ?_ (fun _ _ _ h => h)
     rotate_left
     ·rintro w' ⟨s0, s1⟩
      go_simp
      with_reducible rfl
     rotate_left
     ·simp only [Act.put, List.setIfInBounds_toArray, List.set_cons_zero, List.set_cons_succ, i64_w, i32_w]
      rfl))
   refine plan_end ?_
   refine last_ (i := 9) (N := none) #[true, true, true, true, true, true, true, true, true, true] rfl rfl (by kernel_rfl) (by decide) (fun K hK => ?_)
   refine skip_ (w1 := ?_) (by rfl) rfl ?_ ?_
   rotate_left
   ·go_simp
    rfl
   refine hK.out _ _ ?_
   clear hK K
   refine done_ (by kernel_rfl) ?_
   go_wp2
   go_ret
   refine ⟨rfl, ?_⟩
   rw [← set_modify ls z39 _ (by omega)]
   exact HP1.out.at_
  have be : (p.toList == ([] : List UInt8)) = false := beq_eq_false_iff_ne.2 hpe
  have be' : p.toList.isEmpty = false := by cases h : p.toList with | nil => exact absurd h hpe | cons a t => rfl
  have be'' : (p.toList != ([] : List UInt8)) = true := by rw [bne, be]; rfl
  have H4 := Aside0.mk (H3.out.trans (if_neg hpe))
  clear H3
  by_cases hlp : linkV ls p = -1
  ·have blp : (linkV ls p == -1) = true := beq_iff_eq.2 hlp
   obtain rfl := H4.out.trans (if_pos hlp)
   go_wp2
   refine start_ (n := 16) (S := fun w' => w'.cell? ⟨g, 0, none⟩ = some (.slice A0 fs.length c0) ∧ w'.cell? ⟨g, 1, none⟩ = some (.slice (some ⟨la, 0, none⟩) ls.length c1) ∧ w'.cell? ⟨bx, 3, none⟩ = some (.string p)) (ds := []) #[false, false, false, false, false, false, false, false, false, false, false, false, false, false, false, false] (by kernel_rfl) rfl rfl ⟨(HS5.out.drew.cells.1), (HS5.out.drew.cells.2), ((blk_cell (blk_drew XK5.out) 3).trans rfl)⟩ (fun hHeld => ?_)
   generalize hw6 : w5.drew = w6 at hHeld ⊢
   have HB6 : Below w5.heap.size w5 w6 := hw6 ▸ below_drew (Below.refl _ _)
   have XK6 := Aside0.mk (blk_below XK5.out HB6)
   have HS6 := Aside0.mk (HS5.out.below HB6)
   clear hw6 HB6
   refine plan_ [(0, 81, false), (1, 82, false), (2, 83, false), (3, 84, false), (4, 85, true), (5, 86, false), (6, 87, false), (7, 88, false), (8, 89, false), (10, 91, false), (9, 90, true), (11, 92, true)] ?_
   repeat (first
    | (
     refine plan_pure (v := ?_) (a' := ?_) rfl rfl (by kernel_rfl) (Or.inl ⟨by rfl, ?_⟩) ?_ ?_ (fun _ _ _ h => h)
     rotate_left
     ·intro w'
      go_simp
      with_reducible rfl
     rotate_left
     ·simp only [Act.put, List.setIfInBounds_toArray, List.set_cons_zero, List.set_cons_succ, i64_w, i32_w]
      rfl)
    | (
     refine plan_take (v := ?_) (a' := ?_) rfl rfl (by kernel_rfl) (Or.inl ⟨by rfl, ?_⟩) hHeld ?_ ?_ (fun _ _ _ h => h)
     rotate_left
     ·rintro w' ⟨s0, s1, s2⟩
      go_simp
      with_reducible rfl
     rotate_left
     ·simp only [Act.put, List.setIfInBounds_toArray, List.set_cons_zero, List.set_cons_succ, i64_w, i32_w]
      rfl))
   refine plan_end ?_
   refine one_ (i := 12) (N := some 93) #[true, true, true, true, true, true, true, true, true, true, true, true, true, false, false, false] rfl rfl (by kernel_rfl) (by decide) (fun K hK => ?_)
   refine goes_ Try.func29 (by kernel_rfl) rfl #[.agg #[.slice A0 fs.length c0, .slice (some ⟨la, 0, none⟩) ls.length c1], .string p] (by rfl) rfl rfl (by (try simp only [List.map_toArray, List.map_cons, List.map_nil]); first | done | rfl) ?_
   have RD := HS6.out.reads
   with_reducible refine (media_State_link.calls A0 c0 fs _ c1 ls p _ _ RD.1 RD.2.1 RD.2.2.1 RD.2.2.2 (linkV_f fs ls p)).mono ?_
   rintro e w7 ⟨rfl, hb⟩
   refine ⟨_, rfl, ?_⟩
   have XK7 := Aside0.mk (blk_below XK6.out hb)
   have HS7 := Aside0.mk (HS6.out.below hb)
   clear hb RD
   refine hK.out _ _ ⟨HS7.out.cells.1, HS7.out.cells.2, ((blk_cell XK7.out 3).trans rfl)⟩ (fun hHeld => ?_)
   clear hK K
   refine norm_ (a' := ?_) ?_ ?_
   rotate_left
   ·show Act.put _ (some 93) _ = _
    simp only [Act.put, List.setIfInBounds_toArray, List.set_cons_zero, List.set_cons_succ, i64_w, i32_w]
    rfl
   refine plan_ [(13, 94, false), (14, 95, false), (15, 96, false)] ?_
   repeat (
    refine plan_pure (v := ?_) (a' := ?_) rfl rfl (by kernel_rfl) (Or.inl ⟨by rfl, ?_⟩) ?_ ?_ (fun _ _ _ h => h)
    rotate_left
    ·intro w'
     go_simp
     with_reducible rfl
    rotate_left
    ·simp only [Act.put, List.setIfInBounds_toArray, List.set_cons_zero, List.set_cons_succ, i64_w, i32_w]
     rfl)
   refine plan_end ?_
   refine done_ (by kernel_rfl) ?_
   clear hHeld
   go_wp2
   go_ret
   exact ⟨rfl, HS7.out.at_⟩
  ·have blp : (linkV ls p == -1) = false := beq_eq_false_iff_ne.2 hlp
   obtain rfl := H4.out.trans (if_neg hlp)
   go_wp2
   refine start_ (n := 16) (S := fun w' => w'.cell? ⟨g, 0, none⟩ = some (.slice A0 fs.length c0) ∧ w'.cell? ⟨g, 1, none⟩ = some (.slice (some ⟨la, 0, none⟩) ls.length c1) ∧ w'.cell? ⟨bx, 3, none⟩ = some (.string p)) (ds := []) #[false, false, false, false, false, false, false, false, false, false, false, false, false, false, false, false] (by kernel_rfl) rfl rfl ⟨(HS5.out.drew.cells.1), (HS5.out.drew.cells.2), ((blk_cell (blk_drew XK5.out) 3).trans rfl)⟩ (fun hHeld => ?_)
   generalize hw6 : w5.drew = w6 at hHeld ⊢
   have HB6 : Below w5.heap.size w5 w6 := hw6 ▸ below_drew (Below.refl _ _)
   have XK6 := Aside0.mk (blk_below XK5.out HB6)
   have HS6 := Aside0.mk (HS5.out.below HB6)
   clear hw6 HB6
   refine plan_ [(0, 81, false), (1, 82, false), (2, 83, false), (3, 84, false), (4, 85, true), (5, 86, false), (6, 87, false), (7, 88, false), (8, 89, false), (10, 91, false), (9, 90, true), (11, 92, true)] ?_
   repeat (first
    | (
     refine plan_pure (v := ?_) (a' := ?_) rfl rfl (by kernel_rfl) (Or.inl ⟨by rfl, ?_⟩) ?_ ?_ (fun _ _ _ h => h)
     rotate_left
     ·intro w'
      go_simp
      with_reducible rfl
     rotate_left
     ·simp only [Act.put, List.setIfInBounds_toArray, List.set_cons_zero, List.set_cons_succ, i64_w, i32_w]
      rfl)
    | (
     refine plan_take (v := ?_) (a' := ?_) rfl rfl (by kernel_rfl) (Or.inl ⟨by rfl, ?_⟩) hHeld ?_ ?_ (fun _ _ _ h => h)
     rotate_left
     ·rintro w' ⟨s0, s1, s2⟩
      go_simp
      with_reducible rfl
     rotate_left
     ·simp only [Act.put, List.setIfInBounds_toArray, List.set_cons_zero, List.set_cons_succ, i64_w, i32_w]
      rfl))
   refine plan_end ?_
   refine one_ (i := 12) (N := some 93) #[true, true, true, true, true, true, true, true, true, true, true, true, true, false, false, false] rfl rfl (by kernel_rfl) (by decide) (fun K hK => ?_)
   refine goes_ Try.func29 (by kernel_rfl) rfl #[.agg #[.slice A0 fs.length c0, .slice (some ⟨la, 0, none⟩) ls.length c1], .string p] (by rfl) rfl rfl (by (try simp only [List.map_toArray, List.map_cons, List.map_nil]); first | done | rfl) ?_
   have RD := HS6.out.reads
   with_reducible refine (media_State_link.calls A0 c0 fs _ c1 ls p _ _ RD.1 RD.2.1 RD.2.2.1 RD.2.2.2 (linkV_f fs ls p)).mono ?_
   rintro e w7 ⟨rfl, hb⟩
   refine ⟨_, rfl, ?_⟩
   have XK7 := Aside0.mk (blk_below XK6.out hb)
   have HS7 := Aside0.mk (HS6.out.below hb)
   clear hb RD
   refine hK.out _ _ ⟨HS7.out.cells.1, HS7.out.cells.2, ((blk_cell XK7.out 3).trans rfl)⟩ (fun hHeld => ?_)
   clear hK K
   refine norm_ (a' := ?_) ?_ ?_
   rotate_left
   ·show Act.put _ (some 93) _ = _
    simp only [Act.put, List.setIfInBounds_toArray, List.set_cons_zero, List.set_cons_succ, i64_w, i32_w]
    rfl
   refine plan_ [(13, 94, false), (14, 95, false), (15, 96, false)] ?_
   repeat (
    refine plan_pure (v := ?_) (a' := ?_) rfl rfl (by kernel_rfl) (Or.inl ⟨by rfl, ?_⟩) ?_ ?_ (fun _ _ _ h => h)
    rotate_left
    ·intro w'
     go_simp
     with_reducible rfl
    rotate_left
    ·simp only [Act.put, List.setIfInBounds_toArray, List.set_cons_zero, List.set_cons_succ, i64_w, i32_w]
     rfl)
   refine plan_end ?_
   refine done_ (by kernel_rfl) ?_
   clear hHeld
   go_wp2
   refine start_ (n := 10) (S := fun w' => w'.cell? ⟨g, 1, none⟩ = some (.slice (some ⟨la, 0, none⟩) ls.length c1) ∧ w'.cell? ⟨bx, 3, none⟩ = some (.string p)) (ds := [9]) #[false, false, false, false, false, false, false, false, false, false] (by kernel_rfl) rfl rfl ⟨(HS7.out.drew.cells.2), ((blk_cell (blk_drew XK7.out) 3).trans rfl)⟩ (fun hHeld => ?_)
   generalize hw8 : w7.drew = w8 at hHeld ⊢
   have HB8 : Below w7.heap.size w7 w8 := hw8 ▸ below_drew (Below.refl _ _)
   have XK8 := Aside0.mk (blk_below XK7.out HB8)
   have HS8 := Aside0.mk (HS7.out.below HB8)
   clear hw8 HB8
   obtain ⟨⟨v1, hv1⟩, hf1, hs1, _⟩ := HS8.out.l3 (linkV ls m) hl.1 hl.2 p
   have HP1 := Aside0.mk hs1
   clear hs1
   refine plan_ [(0, 97, false), (1, 98, false), (2, 99, false), (4, 101, false), (5, 102, false), (3, 100, true), (6, 103, true), (7, 104, false), (8, 105, false)] ?_
   repeat (first
    | (
     refine plan_pure (v := ?_) (a' := ?_) rfl rfl (by kernel_rfl) (Or.inl ⟨by rfl, ?_⟩) ?_ ?_ (fun _ _ _ h => h)
     rotate_left
     ·intro w'
      go_simp
      with_reducible rfl
     rotate_left
     ·simp only [Act.put, List.setIfInBounds_toArray, List.set_cons_zero, List.set_cons_succ, i64_w, i32_w]
      rfl)
    | (
     refine plan_take (v := ?_) (a' := ?_) rfl rfl (by kernel_rfl) (Or.inl ⟨by rfl, ?_⟩) hHeld ?_ ?_ (fun _ _ _ h => h)
     rotate_left
     ·rintro w' ⟨s0, s1⟩
      go_simp
      with_reducible rfl
     rotate_left
     ·simp only [Act.put, List.setIfInBounds_toArray, List.set_cons_zero, List.set_cons_succ, i64_w, i32_w]
      rfl))
   refine plan_end ?_
   refine last_ (i := 9) (N := none) #[true, true, true, true, true, true, true, true, true, true] rfl rfl (by kernel_rfl) (by decide) (fun K hK => ?_)
   refine skip_ (w1 := ?_) (by rfl) rfl ?_ ?_
   rotate_left
   ·go_simp
    rfl
   refine hK.out _ _ ?_
   clear hK K
   refine done_ (by kernel_rfl) ?_
   go_wp2
   go_ret
   refine ⟨rfl, ?_⟩
   rw [← set_modify ls z39 _ (by omega)]
   exact HP1.out.at_
 have b5 : (k == 5) = false := beq_eq_false_iff_ne.2 h5
 obtain rfl := HRES5.out.trans (if_neg h5)
 go_wp2
 go_ret
 exact ⟨rfl, HS5.out.at_⟩
def outsV (fs : List S37) (ls : List S39) (nf : List S37) (nl : List S39) (l : List S39) : List S61 :=
 l.filterMap fun x => if statusV nf nl x.f0 = statusV fs ls x.f0 then none else some ⟨x.f0, statusV nf nl x.f0⟩
theorem outsV_le (fs nf ls nl l) : (outsV fs ls nf nl l).length ≤ l.length := List.length_filterMap_le _ _
theorem outsV_succ (fs nf ls nl) (l : List S39) (k : Nat) (h : k < l.length) :
  outsV fs ls nf nl (l.take (k + 1)) = if statusV nf nl (l[k]'h).f0 = statusV fs ls (l[k]'h).f0 then outsV fs ls nf nl (l.take k) else outsV fs ls nf nl (l.take k) ++ [⟨(l[k]'h).f0, statusV nf nl (l[k]'h).f0⟩] := by
 unfold outsV
 rw [List.take_succ_eq_append_getElem h, List.filterMap_append]
 split
 ·rename_i e; simp [e]
 ·rename_i e; simp [e]
def stepR (fs : List S37) (ls : List S39) (R : Int × List S37 × List S39) : List S37 × List S39 × List S61 × Int :=
 if R.1 = 0 then (R.2.1, R.2.2, outsV fs ls R.2.1 R.2.2 R.2.2, 0) else ([], [], [], R.1)
def media_Step.f (l0_0 : List S37) (l0_1 : List S39) (a1_0 : Int) (a1_1 a1_2 a1_3 : ByteArray) (a1_4 : Int) : Option (List S37 × List S39 × List S61 × Int) :=
 (media_Valid.f l0_0 l0_1).bind fun v => if v = true then (media_valid.f 3 a1_0 a1_1 a1_2 a1_3 a1_4).bind fun o => if o = true then some (stepR l0_0 l0_1 (stepF a1_0 a1_1 a1_2 a1_3 a1_4 l0_0 l0_1)) else some ([], [], [], 1) else some ([], [], [], 1)
theorem StIs.grown {α : Type} {d : Kd α} {e base : Nat} {ok : Nat → Prop} {v : Value} {xs : List α} {w0 W W1 : World} {g : Nat} {A0 A1 : Option Addr} {c0 c1 : Nat} {fs : List S37} {ls : List S39} (h : StIs w0 W g A0 c0 A1 c1 fs ls) (hR : d.R e W base ok v xs) (he0 : e ≠ 37) (he1 : e ≠ 39) (he2 : e ≠ 30) (hg : W.grownBy W1 v.ownBlock) (hb : Below w0.heap.size w0 W1) : StIs w0 W1 g A0 c0 A1 c1 fs ls := by
 obtain ⟨h1, h2, h3, h4, h5⟩ := h
 have q0 : ∀ q, q ∈ 37 :: (k37).E → q ≠ e := fun q hq => by
  have : q = 37 := by simpa [k37, Kd.iso, Kd.pair, Kd.string, Kd.int, Kd.bool, Kd.scalar] using hq
  rw [this]; exact Ne.symm he0
 have q1 : ∀ q, q ∈ 39 :: (k39).E → q ≠ e := fun q hq => by
  have : q = 39 := by simpa [k39, Kd.iso, Kd.pair, Kd.string, Kd.int, Kd.bool, Kd.scalar] using hq
  rw [this]; exact Ne.symm he1
 exact ⟨blk_grown h1 hg (Kd.R_ne hR h1 he2), Kd.R_over' h2 (Kd.R_typed hR) q0 hg, Kd.R_over' h3 (Kd.R_typed hR) q1 hg, hb, h5⟩
def Bks (w W : World) (bs be br : Nat) (cs ce : Array Value) : Prop :=
 W.heap[bs]? = some (.cells cs 30 (0, 0)) ∧ W.heap[be]? = some (.cells ce 45 (0, 0)) ∧ W.heap[br]? = some (.cells #[.slice none 0 0, .slice none 0 0] 30 (0, 0)) ∧ Below w.heap.size w W ∧ w.heap.size ≤ br
theorem Bks.below {w W W1 : World} {bs be br : Nat} {cs ce : Array Value} (h : Bks w W bs be br cs ce) (hb : Below W.heap.size W W1) : Bks w W1 bs be br cs ce :=
 ⟨blk_below h.1 hb, blk_below h.2.1 hb, blk_below h.2.2.1 hb, below_step h.2.2.2.1 hb, h.2.2.2.2⟩
theorem connectF_len (fs ls m f) : (connectF fs ls m f).2.length ≤ ls.length + 1 := by
 unfold connectF
 split
 ·split
  ·simp
  ·split <;> simp
 ·simp
theorem stepF_len (k m f p s fs ls) : (stepF k m f p s fs ls).2.2.length ≤ ls.length + 1 := by
 unfold stepF
 have h := connectF_len fs ls m f
 repeat' split
 all_goals first | exact h | simp
theorem clone0_f {l : List S37} (h : l.length * 32 ≤ 140737488355328) : media_File.f l = some l := by unfold media_File.f; rw [if_pos h]
theorem clone1_f {l : List S39} (h : l.length * 56 ≤ 140737488355328) : media_Link.f l = some l := by unfold media_Link.f; rw [if_pos h]
theorem valid_len {fs : List S37} {ls : List S39} (h : media_Valid.f fs ls = some true) : fs.length ≤ 32 ∧ ls.length ≤ 16 := by
 unfold media_Valid.f at h
 split at h
 ·have h := Option.some.inj h
  simp only [Bool.and_eq_true, decide_eq_true_eq] at h
  exact ⟨h.1.1.1.2, h.1.1.2⟩
 ·cases h
set_option maxHeartbeats 4000000 in
set_option maxRecDepth 100000 in
theorem media_Step.calls (A0_0 : Option Addr) (c0_0 : Nat) (l0_0 : List (S37)) (A0_1 : Option Addr) (c0_1 : Nat) (l0_1 : List (S39)) (a1_0 : Int) (a1_1 : ByteArray) (a1_2 : ByteArray) (a1_3 : ByteArray) (a1_4 : Int) (r1 : List (S37)) (r2 : List (S39)) (r3 : List (S61)) (r4 : Int) (w : World) (hr0_0 : Kd.C k37 w A0_0 l0_0.length l0_0) (hc0_0 : l0_0.length ≤ c0_0) (hr0_1 : Kd.C k39 w A0_1 l0_1.length l0_1) (hc0_1 : l0_1.length ≤ c0_1) (h : media_Step.f l0_0 l0_1 a1_0 a1_1 a1_2 a1_3 a1_4 = some (r1, r2, r3, r4)) :
  Calls Try.prog 18 #[.agg #[.slice A0_0 l0_0.length c0_0, .slice A0_1 l0_1.length c0_1], .agg #[.int .i64 a1_0, .string a1_1, .string a1_2, .string a1_3, .int .u64 a1_4]] w fun e w' => ∃ v0_ v1_ v2_ : Value, e = .returned (.tuple #[.agg #[v0_, v1_], v2_, .int .i64 r4]) ∧ Kd.R k37 37 w' w.heap.size (fun _ => True) v0_ r1 ∧ Kd.R k39 39 w' w.heap.size (fun _ => True) v1_ r2 ∧ Kd.R k61 61 w' w.heap.size (fun _ => True) v2_ r3 ∧ Below w.heap.size w w' := by
 have hu30 := Try.underlying30
 have hu45 := Try.underlying45
 have hu39 := Try.underlying39
 have HRA := Aside0.mk hr0_0
 have HL0 := Aside0.mk hc0_0
 have HRB := Aside0.mk hr0_1
 have HL1 := Aside0.mk hc0_1
 clear hr0_0 hc0_0 hr0_1 hc0_1
 unfold media_Step.f at h
 obtain ⟨v, hv, h2⟩ := Option.bind_eq_some_iff.1 h
 have H := Aside0.mk h2
 have HV := Aside0.mk hv
 clear h hv h2
 go_enter Try.func18, Try.ntmps18
 go_wp2_with fail
 obtain ⟨w1, hw1⟩ : ∃ w', w' = ((w.alloc (.cells #[.slice A0_0 l0_0.length c0_0, .slice A0_1 l0_1.length c0_1] 30)).alloc (.cells #[.int .i64 a1_0, .string a1_1, .string a1_2, .string a1_3, .int .u64 a1_4] 45)).alloc (.cells #[.slice none 0 0, .slice none 0 0] 30) := ⟨_, rfl⟩
 obtain ⟨br, hbr⟩ : ∃ b, b = w.heap.size + 1 + 1 := ⟨_, rfl⟩
 obtain ⟨be, hbe⟩ : ∃ b, b = w.heap.size + 1 := ⟨_, rfl⟩
 obtain ⟨bs, hbs⟩ : ∃ b, b = w.heap.size := ⟨_, rfl⟩
 have HK1 := Aside0.mk (show Bks w w1 bs be br #[.slice A0_0 l0_0.length c0_0, .slice A0_1 l0_1.length c0_1] #[.int .i64 a1_0, .string a1_1, .string a1_2, .string a1_3, .int .u64 a1_4] by
  rw [hw1, hbs, hbe, hbr]
  refine ⟨blk_alloc (blk_alloc (blk_new _ _) _) _, blk_alloc ?_ _, ?_, below_alloc (below_alloc (below_alloc (Below.refl _ _) _) _) _, by omega⟩
  ·have h := blk_new (w.alloc (.cells #[.slice A0_0 l0_0.length c0_0, .slice A0_1 l0_1.length c0_1] 30)) (.cells #[.int .i64 a1_0, .string a1_1, .string a1_2, .string a1_3, .int .u64 a1_4] 45)
   simpa using h
  ·have h := blk_new ((w.alloc (.cells #[.slice A0_0 l0_0.length c0_0, .slice A0_1 l0_1.length c0_1] 30)).alloc (.cells #[.int .i64 a1_0, .string a1_1, .string a1_2, .string a1_3, .int .u64 a1_4] 45)) (.cells #[.slice none 0 0, .slice none 0 0] 30)
   simpa using h)
 rw [← hw1, ← hbr, ← hbe, ← hbs]
 clear hw1 hbr hbe hbs
 refine (media_Valid.calls _ _ _ _ _ _ v _ (Kd.C_below HRA.out HK1.out.2.2.2.1) HL0.out (Kd.C_below HRB.out HK1.out.2.2.2.1) HL1.out HV.out).mono ?_
 rintro e w1a ⟨rfl, hb⟩
 have HKE := Aside0.mk (HK1.out.below hb)
 clear hb HK1
 cases v with
 | false =>
  have H2 := Aside0.mk ((if_neg (by simp)).symm.trans H.out)
  obtain ⟨rfl, rfl, rfl, rfl⟩ : [] = r1 ∧ [] = r2 ∧ [] = r3 ∧ 1 = r4 := by simpa using H2.out
  have he0 : w1a.cell? ⟨br, 0, none⟩ = some (.slice none 0 0) := (blk_cell HKE.out.2.2.1 0).trans rfl
  have he1 : w1a.cell? ⟨br, 1, none⟩ = some (.slice none 0 0) := (blk_cell HKE.out.2.2.1 1).trans rfl
  have hef0 := blk_frozen HKE.out.2.2.1 0
  have hef1 := blk_frozen HKE.out.2.2.1 1
  go_wp2
  refine bodyPost_ret (results_ctt rfl _ _ br 30 #[.slice none 0 0, .slice none 0 0] (0, 0) _ rfl (blk_put (blk_put HKE.out.2.2.1 0 _ rfl) 1 _ rfl) Try.underlying30 rfl (by kernel_rfl)) rfl ?_
  exact ⟨_, _, _, rfl, Kd.R_nil _ _ _ _ _, Kd.R_nil _ _ _ _ _, Kd.R_nil _ _ _ _ _, below_set (below_set HKE.out.2.2.2.1 HKE.out.2.2.2.2) HKE.out.2.2.2.2⟩
 | true =>
  have H2 := (if_pos rfl).symm.trans H.out
  obtain ⟨o, ho, h3⟩ := Option.bind_eq_some_iff.1 H2
  have HO := Aside0.mk ho
  have H3 := Aside0.mk h3
  clear ho h3 H2 H
  have hx0 : w1a.cell? ⟨be, 0, none⟩ = some (.int .i64 a1_0) := (blk_cell HKE.out.2.1 0).trans rfl
  have hx1 : w1a.cell? ⟨be, 1, none⟩ = some (.string a1_1) := (blk_cell HKE.out.2.1 1).trans rfl
  have hx2 : w1a.cell? ⟨be, 2, none⟩ = some (.string a1_2) := (blk_cell HKE.out.2.1 2).trans rfl
  have hx3 : w1a.cell? ⟨be, 3, none⟩ = some (.string a1_3) := (blk_cell HKE.out.2.1 3).trans rfl
  have hx4 : w1a.cell? ⟨be, 4, none⟩ = some (.int .u64 a1_4) := (blk_cell HKE.out.2.1 4).trans rfl
  go_wp2_with fail
  refine (media_valid.calls 3 a1_0 a1_1 a1_2 a1_3 a1_4 o _ HO.out).mono ?_
  rintro e w2 ⟨rfl, hb⟩
  have HK2 := Aside0.mk (HKE.out.below hb)
  clear hb HKE hx0 hx1 hx2 hx3 hx4
  cases o with
  | false =>
   have HKE := HK2
   obtain ⟨rfl, rfl, rfl, rfl⟩ : [] = r1 ∧ [] = r2 ∧ [] = r3 ∧ 1 = r4 := by have h := (if_neg (by simp)).symm.trans H3.out; simpa using h
   have he0 : w2.cell? ⟨br, 0, none⟩ = some (.slice none 0 0) := (blk_cell HKE.out.2.2.1 0).trans rfl
   have he1 : w2.cell? ⟨br, 1, none⟩ = some (.slice none 0 0) := (blk_cell HKE.out.2.2.1 1).trans rfl
   have hef0 := blk_frozen HKE.out.2.2.1 0
   have hef1 := blk_frozen HKE.out.2.2.1 1
   go_wp2
   refine bodyPost_ret (results_ctt rfl _ _ br 30 #[.slice none 0 0, .slice none 0 0] (0, 0) _ rfl (blk_put (blk_put HKE.out.2.2.1 0 _ rfl) 1 _ rfl) Try.underlying30 rfl (by kernel_rfl)) rfl ?_
   exact ⟨_, _, _, rfl, Kd.R_nil _ _ _ _ _, Kd.R_nil _ _ _ _ _, Kd.R_nil _ _ _ _ _, below_set (below_set HKE.out.2.2.2.1 HKE.out.2.2.2.2) HKE.out.2.2.2.2⟩
  | true =>
   have H4 := Aside0.mk (Option.some.inj ((if_pos rfl).symm.trans H3.out))
   have HLIM0 := Aside0.mk (show l0_0.length * 32 ≤ 140737488355328 from by have h := valid_len HV.out; omega)
   have HLIM1 := Aside0.mk (show l0_1.length * 56 ≤ 140737488355328 from by have h := valid_len HV.out; omega)
   clear H3
   go_wp2
   refine start_ (n := 9) (S := fun w' => w'.cell? ⟨bs, 0, none⟩ = some (.slice A0_0 l0_0.length c0_0) ∧ w'.cell? ⟨bs, 1, none⟩ = some (.slice A0_1 l0_1.length c0_1)) (ds := [8]) #[false, false, false, false, false, false, false, false, false] (by kernel_rfl) rfl rfl ⟨((blk_cell HK2.out.1 0).trans rfl), ((blk_cell HK2.out.1 1).trans rfl)⟩ (fun hHeld => ?_)
   generalize hw3 : w2.drew = w3 at hHeld ⊢
   have HK3 := Aside0.mk (show Bks w w3 bs be br #[.slice A0_0 l0_0.length c0_0, .slice A0_1 l0_1.length c0_1] #[.int .i64 a1_0, .string a1_1, .string a1_2, .string a1_3, .int .u64 a1_4] from hw3 ▸ HK2.out.below (below_drew (Below.refl _ _)))
   have HC0 := Aside0.mk (Kd.C_below HRA.out HK3.out.2.2.2.1)
   have HC1 := Aside0.mk (Kd.C_below HRB.out HK3.out.2.2.2.1)
   have HB3 := Aside0.mk (Below.refl w3.heap.size w3)
   clear hw3
   refine plan_ [(0, 22, false), (3, 25, false), (1, 23, true), (4, 26, true)] ?_
   repeat (first
    | (
     refine plan_pure (v := ?_) (a' := ?_) rfl rfl (by kernel_rfl) (Or.inl ⟨by rfl, ?_⟩) ?_ ?_ (fun _ _ _ h => h)
     rotate_left
     ·intro w'
      go_simp
      with_reducible rfl
     rotate_left
     ·simp only [Act.put, List.setIfInBounds_toArray, List.set_cons_zero, List.set_cons_succ, i64_w, i32_w]
      rfl)
    | (
     refine plan_take (v := ?_) (a' := ?_) rfl rfl (by kernel_rfl) (Or.inl ⟨by rfl, ?_⟩) hHeld ?_ ?_ (fun _ _ _ h => h)
     rotate_left
     ·rintro w' ⟨s0, s1⟩
      go_simp
      with_reducible rfl
     rotate_left
     ·simp only [Act.put, List.setIfInBounds_toArray, List.set_cons_zero, List.set_cons_succ, i64_w, i32_w]
      rfl))
   refine plan_end ?_
   refine join_ (σ := Option Addr × Nat × Option Addr × Nat × Nat) 1 #[true, true, true, true, true, true, true, true, false] (fun s => [(24, Value.slice s.1 l0_0.length s.2.1), (27, Value.slice s.2.2.1 l0_1.length s.2.2.2.1), (7, Value.pointer (some ⟨s.2.2.2.2, 0, none⟩)), (28, Value.agg #[Value.slice s.1 l0_0.length s.2.1, Value.slice s.2.2.1 l0_1.length s.2.2.2.1])]) (fun s w' => Aside0 (Kd.R k37 37 w' w3.heap.size (fun _ => True) (.slice s.1 l0_0.length s.2.1) l0_0) ∧ Aside0 (Kd.R k39 39 w' w3.heap.size (fun _ => True) (.slice s.2.2.1 l0_1.length s.2.2.2.1) l0_1) ∧ Aside0 (w'.heap[s.2.2.2.2]? = some (.cells #[.slice none 0 0, .slice none 0 0] 30 (0, 0))) ∧ Aside0 (Below w3.heap.size w3 w') ∧ Aside0 (w3.heap.size ≤ s.2.2.2.2)) ?_ ?_
   rotate_left
   ·intro hCont
    refine two_ (i := 2) (j := 7) (Ni := some 24) (Nj := some 7) #[true, true, true, true, true, false, false, false, false] #[true, true, false, true, true, false, false, true, false] rfl rfl rfl rfl (by kernel_rfl) (by decide) (by decide) (fun K hK => ?_) (fun K hK => ?_)
    ·skip
     refine goes_ Try.func33 (by kernel_rfl) rfl #[.slice A0_0 l0_0.length c0_0] (by rfl) rfl rfl (by (try simp only [List.map_toArray, List.map_cons, List.map_nil]); first | done | rfl) ?_
     with_reducible refine (media_File.calls A0_0 c0_0 l0_0 l0_0 _ (Kd.C_below HC0.out HB3.out) HL0.out (clone0_f HLIM0.out)).mono ?_
     rintro e w4 ⟨v0, rfl, hR, hb⟩
     obtain ⟨A0p, c0p, rfl⟩ := Kd.R_slice hR
     refine ⟨_, rfl, ?_⟩
     have HR04 := Aside0.mk (Kd.R_lower hR HB3.out.size)
     have HB4 := Aside0.mk (below_step HB3.out hb)
     clear hb hR
     refine hK.out _ _ ⟨((HK3.out.below HB4.out).1 |> fun h => (blk_cell h 0).trans rfl), ((HK3.out.below HB4.out).1 |> fun h => (blk_cell h 1).trans rfl)⟩ (fun hHeld => ?_)
     clear hK K
     refine norm_ (a' := ?_) ?_ ?_
     rotate_left
     ·show Act.put _ (some 24) _ = _
      simp only [Act.put, List.setIfInBounds_toArray, List.set_cons_zero, List.set_cons_succ, i64_w, i32_w]
      rfl
     refine two_ (i := 5) (j := 7) (Ni := some 27) (Nj := some 7) #[true, true, true, true, true, true, false, false, false] #[true, true, true, true, true, false, false, true, false] rfl rfl rfl rfl (by kernel_rfl) (by decide) (by decide) (fun K hK => ?_) (fun K hK => ?_)
     ·skip
      refine goes_ Try.func34 (by kernel_rfl) rfl #[.slice A0_1 l0_1.length c0_1] (by rfl) rfl rfl (by (try simp only [List.map_toArray, List.map_cons, List.map_nil]); first | done | rfl) ?_
      with_reducible refine (media_Link.calls A0_1 c0_1 l0_1 l0_1 _ (Kd.C_below HC1.out HB4.out) HL1.out (clone1_f HLIM1.out)).mono ?_
      rintro e w5 ⟨v1, rfl, hR, hb⟩
      obtain ⟨A1p, c1p, rfl⟩ := Kd.R_slice hR
      refine ⟨_, rfl, ?_⟩
      have HR15 := Aside0.mk (Kd.R_lower hR HB4.out.size)
      have HB5 := Aside0.mk (below_step HB4.out hb)
      have HR05 := Aside0.mk (Kd.R_below HR04.out hb)
      clear hb hR
      refine hK.out _ _ ⟨((HK3.out.below HB5.out).1 |> fun h => (blk_cell h 0).trans rfl), ((HK3.out.below HB5.out).1 |> fun h => (blk_cell h 1).trans rfl)⟩ (fun hHeld => ?_)
      clear hK K
      refine norm_ (a' := ?_) ?_ ?_
      rotate_left
      ·show Act.put _ (some 27) _ = _
       simp only [Act.put, List.setIfInBounds_toArray, List.set_cons_zero, List.set_cons_succ, i64_w, i32_w]
       rfl
      refine pure_ (i := 6) (N := some 28) (v := ?_) (a' := ?_) #[true, true, true, true, true, true, true, false, false] rfl rfl (by kernel_rfl) (fun _ _ _ h => h) (Or.inl ⟨by rfl, ?_⟩) ?_ ?_
      rotate_left
      ·intro w'
       go_simp
       with_reducible rfl
      rotate_left
      ·simp only [Act.put, List.setIfInBounds_toArray, List.set_cons_zero, List.set_cons_succ, i64_w, i32_w]
       rfl
      refine one_ (i := 7) (N := some 7) #[true, true, true, true, true, true, true, true, false] rfl rfl (by kernel_rfl) (by decide) (fun K hK => ?_)
      refine value_ (w1 := ?_) (v := ?_) (by rfl) rfl ?_ ?_
      rotate_left 2
      ·go_simp
       constructor
       ·rfl
       ·rfl
      obtain ⟨w6, hw⟩ : ∃ w', w' = w5.alloc (.cells #[.slice none 0 0, .slice none 0 0] 30) := ⟨_, rfl⟩
      rw [← hw]
      have hb : Below w5.heap.size w5 w6 := hw ▸ below_alloc (Below.refl _ _) _
      have HN6 := Aside0.mk (show w6.heap[w5.heap.size]? = some (.cells #[.slice none 0 0, .slice none 0 0] 30 (0, 0)) from hw ▸ blk_new _ _)
      have HB6 := Aside0.mk (below_step HB5.out hb)
      have HR06 := Aside0.mk (Kd.R_below HR05.out hb)
      have HR16 := Aside0.mk (Kd.R_below HR15.out hb)
      clear hb hw
      refine hK.out _ _ ⟨((HK3.out.below HB6.out).1 |> fun h => (blk_cell h 0).trans rfl), ((HK3.out.below HB6.out).1 |> fun h => (blk_cell h 1).trans rfl)⟩ (fun hHeld => ?_)
      clear hK K
      refine norm_ (a' := ?_) ?_ ?_
      rotate_left
      ·show Act.put _ (some 7) _ = _
       simp only [Act.put, List.setIfInBounds_toArray, List.set_cons_zero, List.set_cons_succ, i64_w, i32_w]
       rfl
      exact norm_ (by simp only [putAll, Act.put, List.setIfInBounds_toArray, List.set_cons_zero, List.set_cons_succ]) (hCont (A0p, c0p, A1p, c1p, w5.heap.size) _ ⟨HR06, HR16, HN6, HB6, ⟨HB5.out.size⟩⟩)
     ·skip
      refine value_ (w1 := ?_) (v := ?_) (by rfl) rfl ?_ ?_
      rotate_left 2
      ·go_simp
       constructor
       ·rfl
       ·rfl
      obtain ⟨w5, hw⟩ : ∃ w', w' = w4.alloc (.cells #[.slice none 0 0, .slice none 0 0] 30) := ⟨_, rfl⟩
      rw [← hw]
      have hb : Below w4.heap.size w4 w5 := hw ▸ below_alloc (Below.refl _ _) _
      have HN5 := Aside0.mk (show w5.heap[w4.heap.size]? = some (.cells #[.slice none 0 0, .slice none 0 0] 30 (0, 0)) from hw ▸ blk_new _ _)
      have HB5 := Aside0.mk (below_step HB4.out hb)
      have HR05 := Aside0.mk (Kd.R_below HR04.out hb)
      clear hb hw
      refine hK.out _ _ ⟨((HK3.out.below HB5.out).1 |> fun h => (blk_cell h 0).trans rfl), ((HK3.out.below HB5.out).1 |> fun h => (blk_cell h 1).trans rfl)⟩ (fun hHeld => ?_)
      clear hK K
      refine norm_ (a' := ?_) ?_ ?_
      rotate_left
      ·show Act.put _ (some 7) _ = _
       simp only [Act.put, List.setIfInBounds_toArray, List.set_cons_zero, List.set_cons_succ, i64_w, i32_w]
       rfl
      refine one_ (i := 5) (N := some 27) #[true, true, true, true, true, true, false, true, false] rfl rfl (by kernel_rfl) (by decide) (fun K hK => ?_)
      refine goes_ Try.func34 (by kernel_rfl) rfl #[.slice A0_1 l0_1.length c0_1] (by rfl) rfl rfl (by (try simp only [List.map_toArray, List.map_cons, List.map_nil]); first | done | rfl) ?_
      with_reducible refine (media_Link.calls A0_1 c0_1 l0_1 l0_1 _ (Kd.C_below HC1.out HB5.out) HL1.out (clone1_f HLIM1.out)).mono ?_
      rintro e w6 ⟨v1, rfl, hR, hb⟩
      obtain ⟨A1p, c1p, rfl⟩ := Kd.R_slice hR
      refine ⟨_, rfl, ?_⟩
      have HR16 := Aside0.mk (Kd.R_lower hR HB5.out.size)
      have HB6 := Aside0.mk (below_step HB5.out hb)
      have HR06 := Aside0.mk (Kd.R_below HR05.out hb)
      have HN6 := Aside0.mk (blk_below HN5.out hb)
      clear hb hR
      refine hK.out _ _ ⟨((HK3.out.below HB6.out).1 |> fun h => (blk_cell h 0).trans rfl), ((HK3.out.below HB6.out).1 |> fun h => (blk_cell h 1).trans rfl)⟩ (fun hHeld => ?_)
      clear hK K
      refine norm_ (a' := ?_) ?_ ?_
      rotate_left
      ·show Act.put _ (some 27) _ = _
       simp only [Act.put, List.setIfInBounds_toArray, List.set_cons_zero, List.set_cons_succ, i64_w, i32_w]
       rfl
      refine pure_ (i := 6) (N := some 28) (v := ?_) (a' := ?_) #[true, true, true, true, true, true, true, true, false] rfl rfl (by kernel_rfl) (fun _ _ _ h => h) (Or.inl ⟨by rfl, ?_⟩) ?_ ?_
      rotate_left
      ·intro w'
       go_simp
       with_reducible rfl
      rotate_left
      ·simp only [Act.put, List.setIfInBounds_toArray, List.set_cons_zero, List.set_cons_succ, i64_w, i32_w]
       rfl
      exact norm_ (by simp only [putAll, Act.put, List.setIfInBounds_toArray, List.set_cons_zero, List.set_cons_succ]) (hCont (A0p, c0p, A1p, c1p, w4.heap.size) _ ⟨HR06, HR16, HN6, HB6, ⟨HB4.out.size⟩⟩)
    ·skip
     refine value_ (w1 := ?_) (v := ?_) (by rfl) rfl ?_ ?_
     rotate_left 2
     ·go_simp
      constructor
      ·rfl
      ·rfl
     obtain ⟨w4, hw⟩ : ∃ w', w' = w3.alloc (.cells #[.slice none 0 0, .slice none 0 0] 30) := ⟨_, rfl⟩
     rw [← hw]
     have hb : Below w3.heap.size w3 w4 := hw ▸ below_alloc (Below.refl _ _) _
     have HN4 := Aside0.mk (show w4.heap[w3.heap.size]? = some (.cells #[.slice none 0 0, .slice none 0 0] 30 (0, 0)) from hw ▸ blk_new _ _)
     have HB4 := Aside0.mk (below_step HB3.out hb)
     clear hb hw
     refine hK.out _ _ ⟨((HK3.out.below HB4.out).1 |> fun h => (blk_cell h 0).trans rfl), ((HK3.out.below HB4.out).1 |> fun h => (blk_cell h 1).trans rfl)⟩ (fun hHeld => ?_)
     clear hK K
     refine norm_ (a' := ?_) ?_ ?_
     rotate_left
     ·show Act.put _ (some 7) _ = _
      simp only [Act.put, List.setIfInBounds_toArray, List.set_cons_zero, List.set_cons_succ, i64_w, i32_w]
      rfl
     refine one_ (i := 2) (N := some 24) #[true, true, true, true, true, false, false, true, false] rfl rfl (by kernel_rfl) (by decide) (fun K hK => ?_)
     refine goes_ Try.func33 (by kernel_rfl) rfl #[.slice A0_0 l0_0.length c0_0] (by rfl) rfl rfl (by (try simp only [List.map_toArray, List.map_cons, List.map_nil]); first | done | rfl) ?_
     with_reducible refine (media_File.calls A0_0 c0_0 l0_0 l0_0 _ (Kd.C_below HC0.out HB4.out) HL0.out (clone0_f HLIM0.out)).mono ?_
     rintro e w5 ⟨v0, rfl, hR, hb⟩
     obtain ⟨A0p, c0p, rfl⟩ := Kd.R_slice hR
     refine ⟨_, rfl, ?_⟩
     have HR05 := Aside0.mk (Kd.R_lower hR HB4.out.size)
     have HB5 := Aside0.mk (below_step HB4.out hb)
     have HN5 := Aside0.mk (blk_below HN4.out hb)
     clear hb hR
     refine hK.out _ _ ⟨((HK3.out.below HB5.out).1 |> fun h => (blk_cell h 0).trans rfl), ((HK3.out.below HB5.out).1 |> fun h => (blk_cell h 1).trans rfl)⟩ (fun hHeld => ?_)
     clear hK K
     refine norm_ (a' := ?_) ?_ ?_
     rotate_left
     ·show Act.put _ (some 24) _ = _
      simp only [Act.put, List.setIfInBounds_toArray, List.set_cons_zero, List.set_cons_succ, i64_w, i32_w]
      rfl
     refine one_ (i := 5) (N := some 27) #[true, true, true, true, true, true, false, true, false] rfl rfl (by kernel_rfl) (by decide) (fun K hK => ?_)
     refine goes_ Try.func34 (by kernel_rfl) rfl #[.slice A0_1 l0_1.length c0_1] (by rfl) rfl rfl (by (try simp only [List.map_toArray, List.map_cons, List.map_nil]); first | done | rfl) ?_
     with_reducible refine (media_Link.calls A0_1 c0_1 l0_1 l0_1 _ (Kd.C_below HC1.out HB5.out) HL1.out (clone1_f HLIM1.out)).mono ?_
     rintro e w6 ⟨v1, rfl, hR, hb⟩
     obtain ⟨A1p, c1p, rfl⟩ := Kd.R_slice hR
     refine ⟨_, rfl, ?_⟩
     have HR16 := Aside0.mk (Kd.R_lower hR HB5.out.size)
     have HB6 := Aside0.mk (below_step HB5.out hb)
     have HN6 := Aside0.mk (blk_below HN5.out hb)
     have HR06 := Aside0.mk (Kd.R_below HR05.out hb)
     clear hb hR
     refine hK.out _ _ ⟨((HK3.out.below HB6.out).1 |> fun h => (blk_cell h 0).trans rfl), ((HK3.out.below HB6.out).1 |> fun h => (blk_cell h 1).trans rfl)⟩ (fun hHeld => ?_)
     clear hK K
     refine norm_ (a' := ?_) ?_ ?_
     rotate_left
     ·show Act.put _ (some 27) _ = _
      simp only [Act.put, List.setIfInBounds_toArray, List.set_cons_zero, List.set_cons_succ, i64_w, i32_w]
      rfl
     refine pure_ (i := 6) (N := some 28) (v := ?_) (a' := ?_) #[true, true, true, true, true, true, true, true, false] rfl rfl (by kernel_rfl) (fun _ _ _ h => h) (Or.inl ⟨by rfl, ?_⟩) ?_ ?_
     rotate_left
     ·intro w'
      go_simp
      with_reducible rfl
     rotate_left
     ·simp only [Act.put, List.setIfInBounds_toArray, List.set_cons_zero, List.set_cons_succ, i64_w, i32_w]
      rfl
     exact norm_ (by simp only [putAll, Act.put, List.setIfInBounds_toArray, List.set_cons_zero, List.set_cons_succ]) (hCont (A0p, c0p, A1p, c1p, w3.heap.size) _ ⟨HR06, HR16, HN6, HB6, ⟨HB3.out.size⟩⟩)
   rintro ⟨A0', c0', A1', c1', bn⟩ w7 ⟨HR07, HR17, HN7, HB7, HG7⟩
   have hHeld := And.intro ((HK3.out.below HB7.out).1 |> fun h => (blk_cell h 0).trans rfl) ((HK3.out.below HB7.out).1 |> fun h => (blk_cell h 1).trans rfl)
   have hn0 : w7.cell? ⟨bn, 0, none⟩ = some (.slice none 0 0) := (blk_cell HN7.out 0).trans rfl
   have hn1 : w7.cell? ⟨bn, 1, none⟩ = some (.slice none 0 0) := (blk_cell HN7.out 1).trans rfl
   have hnf0 := blk_frozen HN7.out 0
   have hnf1 := blk_frozen HN7.out 1
   refine norm_ (a' := ?_) ?_ ?_
   rotate_left
   ·simp only [putAll, Act.put, List.setIfInBounds_toArray, List.set_cons_zero, List.set_cons_succ]
    rfl
   refine last_ (i := 8) (N := none) #[true, true, true, true, true, true, true, true, true] rfl rfl (by kernel_rfl) (by decide) (fun K hK => ?_)
   refine skip_ (w1 := ?_) (by rfl) rfl ?_ ?_
   rotate_left
   ·go_simp
    rfl
   refine hK.out _ _ ?_
   clear hK K
   refine done_ (by kernel_rfl) ?_
   obtain ⟨w8, hw8⟩ : ∃ w', w' = (w7.setCell ⟨bn, 0, none⟩ (.slice A0' l0_0.length c0')).setCell ⟨bn, 1, none⟩ (.slice A1' l0_1.length c1') := ⟨_, rfl⟩
   have HS8 := Aside0.mk (show StIs w3 w8 bn A0' c0' A1' c1' l0_0 l0_1 by
    rw [hw8]
    have hb0 := blk_put HN7.out 0 (.slice A0' l0_0.length c0') rfl
    refine ⟨blk_put hb0 1 _ rfl, Kd.R_set (Kd.R_set HR07.out HN7.out (by decide) 0 _) hb0 (by decide) 1 _, Kd.R_set (Kd.R_set HR17.out HN7.out (by decide) 0 _) hb0 (by decide) 1 _, below_set (below_set HB7.out HG7.out) HG7.out, HG7.out⟩)
   rw [← hw8]
   clear hw8 hHeld HR07 HR17 HN7 HB7 HG7 hn0 hn1 hnf0 hnf1
   have HK8 := Aside0.mk (HK3.out.below HS8.out.2.2.2.1)
   have hx0 : w8.cell? ⟨be, 0, none⟩ = some (.int .i64 a1_0) := (blk_cell HK8.out.2.1 0).trans rfl
   have hx1 : w8.cell? ⟨be, 1, none⟩ = some (.string a1_1) := (blk_cell HK8.out.2.1 1).trans rfl
   have hx2 : w8.cell? ⟨be, 2, none⟩ = some (.string a1_2) := (blk_cell HK8.out.2.1 2).trans rfl
   have hx3 : w8.cell? ⟨be, 3, none⟩ = some (.string a1_3) := (blk_cell HK8.out.2.1 3).trans rfl
   have hx4 : w8.cell? ⟨be, 4, none⟩ = some (.int .u64 a1_4) := (blk_cell HK8.out.2.1 4).trans rfl
   go_wp2_with fail
   refine (step_calls bn a1_0 a1_1 a1_2 a1_3 a1_4 l0_0 l0_1 _ w3 _ HS8.out.at_ rfl).mono ?_
   rintro e w9 ⟨rfl, hst⟩
   obtain ⟨res, hres⟩ : ∃ res, res = stepF a1_0 a1_1 a1_2 a1_3 a1_4 l0_0 l0_1 := ⟨_, rfl⟩
   rw [← hres] at hst ⊢
   have H5 := Aside0.mk (show stepR l0_0 l0_1 res = (r1, r2, r3, r4) by rw [hres]; exact H4.out)
   have HNL := Aside0.mk (show res.2.2.length ≤ 17 by rw [hres]; have h1 := valid_len HV.out; have h2 := stepF_len a1_0 a1_1 a1_2 a1_3 a1_4 l0_0 l0_1; omega)
   clear hres H4 hx0 hx1 hx2 hx3 hx4 HS8 HK8
   obtain ⟨A2, c2, A3, c3, hs⟩ := hst
   have HS9 := Aside0.mk hs
   have HK9 := Aside0.mk (HK3.out.below hs.2.2.2.1)
   clear hs
   obtain ⟨why, nf, nl⟩ := res
   by_cases hwhy : why = 0
   case neg =>
    have bw : (why == 0) = false := beq_eq_false_iff_ne.2 hwhy
    have bw' : (why != 0) = true := by rw [bne, bw]; rfl
    obtain ⟨rfl, rfl, rfl, rfl⟩ : [] = r1 ∧ [] = r2 ∧ [] = r3 ∧ why = r4 := by have h := H5.out; unfold stepR at h; rw [if_neg hwhy] at h; simpa using h
    have HKE := HK9
    have he0 : w9.cell? ⟨br, 0, none⟩ = some (.slice none 0 0) := (blk_cell HKE.out.2.2.1 0).trans rfl
    have he1 : w9.cell? ⟨br, 1, none⟩ = some (.slice none 0 0) := (blk_cell HKE.out.2.2.1 1).trans rfl
    have hef0 := blk_frozen HKE.out.2.2.1 0
    have hef1 := blk_frozen HKE.out.2.2.1 1
    go_wp2
    refine bodyPost_ret (results_ctt rfl _ _ br 30 #[.slice none 0 0, .slice none 0 0] (0, 0) _ rfl (blk_put (blk_put HKE.out.2.2.1 0 _ rfl) 1 _ rfl) Try.underlying30 rfl (by kernel_rfl)) rfl ?_
    exact ⟨_, _, _, rfl, Kd.R_nil _ _ _ _ _, Kd.R_nil _ _ _ _ _, Kd.R_nil _ _ _ _ _, below_set (below_set HKE.out.2.2.2.1 HKE.out.2.2.2.2) HKE.out.2.2.2.2⟩
   case pos =>
    subst hwhy
    obtain ⟨rfl, rfl, rfl, rfl⟩ : nf = r1 ∧ nl = r2 ∧ outsV l0_0 l0_1 nf nl nl = r3 ∧ 0 = r4 := by have h := H5.out; unfold stepR at h; rw [if_pos rfl] at h; simpa using h
    clear H5
    have hc1 := HS9.out.cells.2
    have hlen := HS9.out.reads.2.2.1.2.1
    go_wp2
    go_loopw [9, 38] (fun v9 v38 wr => ∃ (k : Nat) (os : List S61), k ≤ nl.length ∧ v38 = .int .i64 k ∧ Aside0 (os = outsV l0_0 l0_1 nf nl (nl.take k)) ∧ Aside0 (StIs w3 wr bn A2 c2 A3 c3 nf nl) ∧ Aside0 (Kd.R k61 61 wr w3.heap.size (fun _ => True) v9 os)) (fun _ v38 _ => nl.length - (intOf v38).toNat)
    case atStart => exact ⟨0, [], Nat.zero_le _, rfl, ⟨by simp [outsV]⟩, HS9, ⟨Kd.R_nil _ _ _ _ _⟩⟩
    case round =>
     obtain ⟨k, os, hk, rfl, HOS, HS, HR⟩ := hrel
     have hc0 := HS.out.cells.1
     have hc1 := HS.out.cells.2
     by_cases hlt : k < nl.length
     ·obtain ⟨ad, e1, hx0, hx1, hx2, hx3⟩ := at_T39 HS.out.reads.2.2.1 (k : Int) (by omega) (by omega)
      subst e1
      rw [Int.toNat_natCast, rdLink _ _ hlt] at hx0 hx1 hx2 hx3
      obtain ⟨x, hx⟩ : ∃ x, x = nl[k]'hlt := ⟨_, rfl⟩
      rw [← hx] at hx0 hx1 hx2 hx3
      have HX := Aside0.mk hx
      have p1 : (0 ≤ (k : Int)) = True := eq_true (by omega)
      have q1 : ((k : Int) < (nl.length : Int)) = True := eq_true (by omega)
      have n0 := World.new_ne wr ⟨bn, 0, none⟩ hc0
      have n1 := World.new_ne wr ⟨bn, 1, none⟩ hc1
      have hlb : bn < wr.heap.size := blk_lt HS.out.1
      have RD := Aside0.mk (HS.out.below (below_alloc (Below.refl wr.heap.size wr) (.cells #[.string x.f0, .string x.f1, .int .u64 x.f2, .string x.f3] 39))).reads
      clear hx
      go_wp2_with fail
      obtain ⟨bl, hbl⟩ : ∃ b, b = wr.heap.size := ⟨_, rfl⟩
      rw [← hbl]
      refine (media_Status.calls _ _ nf _ _ nl x.f0 _ _ RD.out.1 RD.out.2.1 RD.out.2.2.1 RD.out.2.2.2 (statusV_f nf nl x.f0)).mono ?_
      rintro e wb ⟨rfl, hb⟩
      have hb2 := below_step (below_alloc (Below.refl wr.heap.size wr) _) hb
      have HSb := Aside0.mk (HS.out.below hb2)
      have HRb := Aside0.mk (Kd.R_below HR.out hb2)
      have BLb := Aside0.mk (show wb.heap[bl]? = some (.cells #[.string x.f0, .string x.f1, .int .u64 x.f2, .string x.f3] 39 (0, 0)) from hbl ▸ blk_below (blk_new _ _) hb)
      have HKb := Aside0.mk (HK3.out.below HSb.out.2.2.2.1)
      clear hb hb2 hbl hx0 hx1 hx2 hx3 hc0 hc1 p1 q1 n0 n1 hlb RD HS HR
      obtain ⟨s1, hs1⟩ : ∃ s, s = statusV nf nl x.f0 := ⟨_, rfl⟩
      have HS1 := Aside0.mk hs1
      rw [← hs1]
      clear hs1
      have hs0 : wb.cell? ⟨bs, 0, none⟩ = some (.slice A0_0 l0_0.length c0_0) := (blk_cell HKb.out.1 0).trans rfl
      have hs1 : wb.cell? ⟨bs, 1, none⟩ = some (.slice A0_1 l0_1.length c0_1) := (blk_cell HKb.out.1 1).trans rfl
      have hl0 : wb.cell? ⟨bl, 0, none⟩ = some (.string x.f0) := (blk_cell BLb.out 0).trans rfl
      go_wp2_with fail
      refine (media_Status.calls _ _ l0_0 _ _ l0_1 x.f0 _ _ (Kd.C_below HC0.out HSb.out.2.2.2.1) HL0.out (Kd.C_below HC1.out HSb.out.2.2.2.1) HL1.out (statusV_f l0_0 l0_1 x.f0)).mono ?_
      rintro e wd ⟨rfl, hb⟩
      have HSd := Aside0.mk (HSb.out.below hb)
      have HRd := Aside0.mk (Kd.R_below HRb.out hb)
      have BLd := Aside0.mk (blk_below BLb.out hb)
      clear hb hs0 hs1 hl0 HSb HRb BLb HKb
      obtain ⟨s0, hs0⟩ : ∃ s, s = statusV l0_0 l0_1 x.f0 := ⟨_, rfl⟩
      have HS0 := Aside0.mk hs0
      rw [← hs0]
      clear hs0
      by_cases hne : s1 = s0
      ·have bq : (s1 == s0) = true := beq_iff_eq.2 hne
       have bq' : (s1 != s0) = false := by rw [bne, bq]; rfl
       have HNE := Aside0.mk hne
       clear hne
       go_wp2
       go_roundw
       case rel =>
        refine ⟨k + 1, os, by omega, by go_num, ⟨?_⟩, HSd, HRd⟩
        rw [outsV_succ _ _ _ _ nl k hlt, ← HX.out, ← HS1.out, ← HS0.out, if_pos HNE.out]
        exact HOS.out
       case measure => simp [intOf]; omega
      ·have bq : (s1 == s0) = false := beq_eq_false_iff_ne.2 hne
       have bq' : (s1 != s0) = true := by rw [bne, bq]; rfl
       have HNE := Aside0.mk hne
       have HLEN := Aside0.mk (show os.length ≤ 17 from by
        have h1 := outsV_le l0_0 nf l0_1 nl (nl.take k)
        have h2 : nl.length ≤ 17 := HNL.out
        rw [HOS.out]
        rw [List.length_take] at h1
        omega)
       have hl0 : wd.cell? ⟨bl, 0, none⟩ = some (.string x.f0) := (blk_cell BLd.out 0).trans rfl
       clear hne
       go_wp2_with (first
        | ((with_reducible refine gate_builtin (b := .append) (xs := #[.tmp 52, .tmp 57]) rfl ?_); at_builtin; refine Kd.R_append (w0 := w3) k61 w3.heap.size rfl (.tmp 52) (.tmp 57) 48 61 (.agg #[.string ⟨#[]⟩, .int .i64 0]) 24 rfl Try.underlying48 info61 rfl (by decide) (by omega) _ os ⟨x.f0, s1⟩ [.string x.f0, .int .i64 s1] (fun _ => True) (fun _ => False) rfl rfl ?aP (fun _ hk => hk.elim) (fun _ _ => trivial) ?aO ?aB ?aS ?aL ?_; (case aP => exact k61_mkM ..); (case aO => exact HRd.out); (case aB => exact HSd.out.2.2.2.1); (case aS => exact HSd.out.2.2.2.1.size); (case aL => have := HLEN.out; omega); intro v1 we ho hb1 hg1 hat1; have HRe := Aside0.mk ho; have HSe := Aside0.mk (HSd.out.grown HRd.out (by decide) (by decide) (by decide) hg1 hb1); clear ho hb1 hg1 hat1))
       go_roundw
       case rel =>
        refine ⟨k + 1, _, by omega, by go_num, ⟨?_⟩, HSe, HRe⟩
        rw [outsV_succ _ _ _ _ nl k hlt, ← HX.out, ← HS1.out, ← HS0.out, if_neg HNE.out, HOS.out]
       case measure => simp [intOf]; omega
     ·obtain rfl : k = nl.length := by omega
      have HKe := Aside0.mk (HK3.out.below HS.out.2.2.2.1)
      have he0 : wr.cell? ⟨br, 0, none⟩ = some (.slice none 0 0) := (blk_cell HKe.out.2.2.1 0).trans rfl
      have he1 : wr.cell? ⟨br, 1, none⟩ = some (.slice none 0 0) := (blk_cell HKe.out.2.2.1 1).trans rfl
      have hef0 := blk_frozen HKe.out.2.2.1 0
      have hef1 := blk_frozen HKe.out.2.2.1 1
      go_wp2
      refine bodyPost_ret (results_ctt rfl _ _ br 30 #[.slice A2 nf.length c2, .slice A3 nl.length c3] (0, 0) _ rfl (blk_put (blk_put HKe.out.2.2.1 0 _ rfl) 1 _ rfl) Try.underlying30 rfl (by kernel_rfl)) rfl ?_
      have hle := HK3.out.2.2.2.1.size
      have hb0 := blk_put HKe.out.2.2.1 0 (.slice A2 nf.length c2) rfl
      refine ⟨_, _, _, rfl, Kd.R_lower (Kd.R_set (Kd.R_set HS.out.2.1 HKe.out.2.2.1 (by decide) 0 _) hb0 (by decide) 1 _) hle, Kd.R_lower (Kd.R_set (Kd.R_set HS.out.2.2.1 HKe.out.2.2.1 (by decide) 0 _) hb0 (by decide) 1 _) hle, ?_, below_set (below_set HKe.out.2.2.2.1 HKe.out.2.2.2.2) HKe.out.2.2.2.2⟩
      have h := HR.out
      rw [HOS.out, List.take_of_length_le (Nat.le_refl _)] at h
      exact Kd.R_lower (Kd.R_set (Kd.R_set h HKe.out.2.2.1 (by decide) 0 _) hb0 (by decide) 1 _) hle
end Go.Proofs.Ytpnhkmicepmciaa.Y

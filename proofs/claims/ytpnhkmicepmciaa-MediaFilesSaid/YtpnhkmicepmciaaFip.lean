/- A part of the walk of MediaFiles: plain lemmas and contracts; conditions: each one own. -/
import Derived.Test.YtpnhkmicepmciaaWr
namespace Go.Proofs.Ytpnhkmicepmciaa.Y
open Go.RowKit Go.Proofs.YtpnhkmicepmciaaW.PrintWords Go.Proofs.YtpnhkmicepmciaaW.PrintLast Go.Proofs.YtpnhkmicepmciaaW.PrintMore
set_option linter.unusedVariables false
set_option linter.unusedSimpArgs false
open Go.Proofs.Ytpnhkmicepmciaa.Par
/-! ### What a file's name tells; a status hangs on that alone -/
def look (fs : List S37) (f : ByteArray) : Option (Int × Bool) := (fs.find? fun x => x.f0.toList == f.toList).map fun x => (x.f1, x.f2)
def stat (o : Option (Int × Bool)) (q : Int) : Int := match o with
  | none => 3
  | some (s, p) => if p = true then (if s = q then 1 else 2) else 3
theorem firstAt_find {α : Type} (p : α → Bool) (z : α) : ∀ l : List α, (firstAt p l = -1 ∧ l.find? p = none) ∨ (firstAt p l ≠ -1 ∧ 0 ≤ firstAt p l ∧ l.find? p = some (l.getD (firstAt p l).toNat z))
  | [] => .inl ⟨rfl, rfl⟩
  | a :: l => by
    rw [firstAt_cons]
    by_cases ha : p a = true
    · rw [if_pos ha, List.find?_cons_of_pos ha]
      exact .inr ⟨by omega, by omega, rfl⟩
    · rw [if_neg ha, List.find?_cons_of_neg ha]
      rcases firstAt_find p z l with ⟨h1, h2⟩ | ⟨h1, h2, h3⟩
      · rw [if_pos h1]
        exact .inl ⟨rfl, h2⟩
      · rw [if_neg h1]
        refine .inr ⟨by omega, by omega, ?_⟩
        have e : (firstAt p l + 1).toNat = (firstAt p l).toNat + 1 := by omega
        rw [e, h3]
        rfl
theorem status_look (fs : List S37) (ls : List S39) (m : ByteArray) : statusV fs ls m = if linkV ls m = -1 then 0 else stat (look fs (rd_T39 ls (linkV ls m)).f1) (rd_T39 ls (linkV ls m)).f2 := by
  unfold statusV
  split
  · rfl
  generalize rd_T39 ls (linkV ls m) = x
  unfold look presentV
  rcases firstAt_find (fun y : S37 => y.f0.toList == x.f1.toList) z37 fs with ⟨h1, h2⟩ | ⟨h1, h2, h3⟩
  · rw [h2]
    have h1' : fileV fs x.f1 = -1 := h1
    rw [if_pos h1', if_pos rfl]
    rfl
  · rw [h3]
    have h1' : fileV fs x.f1 ≠ -1 := h1
    have h2' : 0 ≤ fileV fs x.f1 := h2
    have e : fs.getD (firstAt (fun y : S37 => y.f0.toList == x.f1.toList) fs).toNat z37 = rd_T37 fs (fileV fs x.f1) := rfl
    rw [e, if_neg h1']
    simp only [Option.map_some, stat]
    by_cases hp : (rd_T37 fs (fileV fs x.f1)).f2 = true
    · rw [if_pos hp, if_neg h1', if_pos hp]
    · rw [if_neg hp, if_pos rfl, if_neg hp]
theorem look_modify (f : ByteArray) (g : S37 → S37) (hg : ∀ x, (g x).f0 = x.f0) (n : ByteArray) : ∀ (fs : List S37), firstAt (fun x : S37 => x.f0.toList == f.toList) fs ≠ -1 →
    look (fs.modify (firstAt (fun x : S37 => x.f0.toList == f.toList) fs).toNat g) n = if n.toList = f.toList then (fs.find? fun x => x.f0.toList == f.toList).map (fun x => ((g x).f1, (g x).f2)) else look fs n
  | [], h => absurd rfl h
  | a :: l, h => by
    rw [firstAt_cons] at h ⊢
    by_cases ha : (a.f0.toList == f.toList) = true
    · rw [if_pos ha, List.find?_cons_of_pos (p := fun x : S37 => x.f0.toList == f.toList) ha]
      simp only [Int.toNat_zero, List.modify_zero_cons]
      unfold look
      by_cases hn : n.toList = f.toList
      · rw [if_pos hn, List.find?_cons_of_pos (by rw [hg, hn]; exact ha)]
        rfl
      · have h1 : ¬ ((g a).f0.toList == n.toList) = true := by
          rw [hg, beq_iff_eq.1 ha]
          simpa using fun e => hn e.symm
        have h2 : ¬ (a.f0.toList == n.toList) = true := by rw [← hg a]; exact h1
        rw [if_neg hn, List.find?_cons_of_neg (p := fun x : S37 => x.f0.toList == n.toList) h1, List.find?_cons_of_neg (p := fun x : S37 => x.f0.toList == n.toList) h2]
    · rw [if_neg ha] at h ⊢
      rw [List.find?_cons_of_neg (p := fun x : S37 => x.f0.toList == f.toList) ha]
      by_cases hm : firstAt (fun x : S37 => x.f0.toList == f.toList) l = -1
      · rw [if_pos hm] at h
        exact absurd rfl h
      · rw [if_neg hm]
        have ih := look_modify f g hg n l hm
        have hr := (firstAt_range (fun x : S37 => x.f0.toList == f.toList) l).resolve_left hm
        have e : (firstAt (fun x : S37 => x.f0.toList == f.toList) l + 1).toNat = (firstAt (fun x : S37 => x.f0.toList == f.toList) l).toNat + 1 := by omega
        rw [e, List.modify_succ_cons]
        unfold look at ih ⊢
        by_cases hn : n.toList = f.toList
        · rw [if_pos hn] at ih ⊢
          rw [List.find?_cons_of_neg (by rw [hn]; exact ha)]
          exact ih
        · rw [if_neg hn] at ih ⊢
          by_cases hq : (a.f0.toList == n.toList) = true
          · rw [List.find?_cons_of_pos (p := fun x : S37 => x.f0.toList == n.toList) hq, List.find?_cons_of_pos (p := fun x : S37 => x.f0.toList == n.toList) hq]
          · rw [List.find?_cons_of_neg (p := fun x : S37 => x.f0.toList == n.toList) hq, List.find?_cons_of_neg (p := fun x : S37 => x.f0.toList == n.toList) hq]
            exact ih
/-- What an event of a file does to what its name tells. -/
def effect (k : Int) (s : Int) (o : Option (Int × Bool)) : Option (Int × Bool) := if k = 1 then some (s, true) else match o with
  | some (q, true) => some (q, false)
  | o => o
theorem look_none (fs : List S37) (f : ByteArray) (h : firstAt (fun x : S37 => x.f0.toList == f.toList) fs = -1) : look fs f = none := by
  unfold look
  rcases firstAt_find (fun y : S37 => y.f0.toList == f.toList) z37 fs with ⟨_, h2⟩ | ⟨h1, _, _⟩
  · rw [h2]; rfl
  · exact absurd h h1
/-- An event of a file, Arrive or Leave, at a valid state that is not full. -/
theorem acc_file {fs : List S37} {ls : List S39} {os : List S61} {es : List Int} {k : Int} {f : ByteArray} {s : Int} (hv : validB fs ls = true) (hl : fs.length < 31) (hk : k = 1 ∨ k = 2 ∧ s = 0) (hf : vName f = true) :
    (accW (fs, ls, os, es) ⟨k, ⟨#[]⟩, f, ⟨#[]⟩, s⟩).2.1 = ls ∧ (accW (fs, ls, os, es) ⟨k, ⟨#[]⟩, f, ⟨#[]⟩, s⟩).1.length ≤ fs.length + 1 ∧
      ∀ n, look (accW (fs, ls, os, es) ⟨k, ⟨#[]⟩, f, ⟨#[]⟩, s⟩).1 n = if n.toList = f.toList then effect k s (look fs f) else look fs n := by
  have he : evV k ⟨#[]⟩ f ⟨#[]⟩ s = true := by
    unfold evV
    rcases hk with rfl | ⟨rfl, rfl⟩
    · rw [if_pos rfl, hf, nil_l]; rfl
    · rw [if_neg (by omega), if_pos rfl, hf, nil_l]; rfl
  have hstep : stepW fs ls ⟨k, ⟨#[]⟩, f, ⟨#[]⟩, s⟩ = stepR fs ls (stepF k ⟨#[]⟩ f ⟨#[]⟩ s fs ls) := by
    unfold stepW
    rw [if_pos hv, if_pos he]
  unfold accW
  simp only [hstep]
  rcases hk with rfl | ⟨rfl, rfl⟩
  · have hsF : stepF 1 ⟨#[]⟩ f ⟨#[]⟩ s fs ls = ((arriveF fs f s).1, (arriveF fs f s).2, ls) := by
      unfold stepF
      rw [if_pos rfl]
    have h0 : (arriveF fs f s).1 = 0 := by
      unfold arriveF
      split
      · rw [if_neg (by omega)]
      · rfl
    rw [hsF, h0]
    simp only [stepR, if_true]
    refine ⟨trivial, ?_, fun n => ?_⟩
    · unfold arriveF
      split
      · rw [if_neg (by omega)]; simp
      · simp
    · unfold arriveF effect
      rw [if_pos rfl]
      split
      · rename_i hn
        rw [if_neg (by omega)]
        unfold look
        rw [List.find?_append]
        by_cases hq : n.toList = f.toList
        · rw [if_pos hq]
          have := look_none fs f hn
          unfold look at this
          rw [hq, Option.map_eq_none_iff.1 this, List.find?_cons_of_pos (by simp)]
          rfl
        · rw [if_neg hq, List.find?_cons_of_neg (by simpa using fun e => hq e.symm)]
          simp
      · rename_i hn
        show look (fs.modify _ _) n = _
        rw [look_modify f (fun x => ⟨x.f0, s, true⟩) (fun _ => rfl) n fs hn]
        split
        · rcases firstAt_find (fun y : S37 => y.f0.toList == f.toList) z37 fs with ⟨h1, _⟩ | ⟨_, _, h3⟩
          · exact absurd h1 hn
          · rw [h3]; rfl
        · rfl
  · have hsF : stepF 2 ⟨#[]⟩ f ⟨#[]⟩ 0 fs ls = if presentV fs f = -1 then (7, fs, ls) else (0, fs.modify (presentV fs f).toNat fun x => ⟨x.f0, x.f1, false⟩, ls) := by
      unfold stepF
      rw [if_neg (by omega), if_neg (by omega), if_pos rfl]
    rw [hsF]
    rcases firstAt_find (fun y : S37 => y.f0.toList == f.toList) z37 fs with ⟨h1, h2⟩ | ⟨h1, h2, h3⟩
    · have hp : presentV fs f = -1 := by unfold presentV; rw [if_pos (show fileV fs f = -1 from h1)]
      rw [if_pos hp]
      simp only [stepR, show ¬ ((7 : Int) = 0) by omega, if_false]
      refine ⟨trivial, by simp, fun n => ?_⟩
      split
      · rename_i hq
        unfold effect look
        rw [if_neg (by omega), hq, h2]
        rfl
      · rfl
    · have e : fs.getD (firstAt (fun y : S37 => y.f0.toList == f.toList) fs).toNat z37 = rd_T37 fs (fileV fs f) := rfl
      rw [e] at h3
      by_cases hpr : (rd_T37 fs (fileV fs f)).f2 = true
      · have hp : presentV fs f = fileV fs f := by unfold presentV; rw [if_neg (show fileV fs f ≠ -1 from h1), if_pos hpr]
        rw [hp, if_neg (show fileV fs f ≠ -1 from h1)]
        simp only [stepR, if_true]
        refine ⟨trivial, by simp, fun n => ?_⟩
        show look (fs.modify (firstAt (fun y : S37 => y.f0.toList == f.toList) fs).toNat _) n = _
        rw [look_modify f (fun x => ⟨x.f0, x.f1, false⟩) (fun _ => rfl) n fs h1]
        split
        · unfold effect look
          rw [if_neg (by omega), h3]
          simp only [Option.map_some, hpr]
        · rfl
      · have hp : presentV fs f = -1 := by unfold presentV; rw [if_neg (show fileV fs f ≠ -1 from h1), if_neg hpr]
        rw [if_pos hp]
        simp only [stepR, show ¬ ((7 : Int) = 0) by omega, if_false]
        refine ⟨trivial, by simp, fun n => ?_⟩
        split
        · rename_i hq
          unfold effect look
          rw [if_neg (by omega), hq, h3]
          rw [Bool.not_eq_true] at hpr
          simp only [Option.map_some, hpr]
        · rfl
def f0n : ByteArray := ⟨#[102, 48]⟩
def f1n : ByteArray := ⟨#[102, 49]⟩
theorem f0_v : vName f0n = true := by decide +kernel
theorem f1_v : vName f1n = true := by decide +kernel
theorem f01 : f0n.toList ≠ f1n.toList := by decide +kernel
theorem files_law {fs : List S37} {ls : List S39} (hv : validB fs ls = true) (hl : fs.length ≤ 20) {k0 k1 s0 s1 : Int} (h0 : k0 = 1 ∨ k0 = 2 ∧ s0 = 0) (h1 : k1 = 1 ∨ k1 = 2 ∧ s1 = 0) (m : ByteArray) :
    statusV (runF fs ls [⟨k0, ⟨#[]⟩, f0n, ⟨#[]⟩, s0⟩, ⟨k1, ⟨#[]⟩, f1n, ⟨#[]⟩, s1⟩]).1 (runF fs ls [⟨k0, ⟨#[]⟩, f0n, ⟨#[]⟩, s0⟩, ⟨k1, ⟨#[]⟩, f1n, ⟨#[]⟩, s1⟩]).2.1 m =
      statusV (runF fs ls [⟨k1, ⟨#[]⟩, f1n, ⟨#[]⟩, s1⟩, ⟨k0, ⟨#[]⟩, f0n, ⟨#[]⟩, s0⟩]).1 (runF fs ls [⟨k1, ⟨#[]⟩, f1n, ⟨#[]⟩, s1⟩, ⟨k0, ⟨#[]⟩, f0n, ⟨#[]⟩, s0⟩]).2.1 m := by
  have two : ∀ (ka sa kb sb : Int) (fa fb : ByteArray), (ka = 1 ∨ ka = 2 ∧ sa = 0) → (kb = 1 ∨ kb = 2 ∧ sb = 0) → vName fa = true → vName fb = true → fa.toList ≠ fb.toList →
      (runF fs ls [⟨ka, ⟨#[]⟩, fa, ⟨#[]⟩, sa⟩, ⟨kb, ⟨#[]⟩, fb, ⟨#[]⟩, sb⟩]).2.1 = ls ∧ ∀ n, look (runF fs ls [⟨ka, ⟨#[]⟩, fa, ⟨#[]⟩, sa⟩, ⟨kb, ⟨#[]⟩, fb, ⟨#[]⟩, sb⟩]).1 n = if n.toList = fb.toList then effect kb sb (look fs fb) else if n.toList = fa.toList then effect ka sa (look fs fa) else look fs n := by
    intro ka sa kb sb fa fb ha hb va vb hab
    unfold runF runW
    rw [if_pos hv, List.foldl_cons, List.foldl_cons, List.foldl_nil]
    obtain ⟨a1, a2, a3⟩ := acc_file (os := []) (es := []) hv (by omega) ha va
    have hv1 := accW_valid (a := (fs, ls, [], [])) (e := ⟨ka, ⟨#[]⟩, fa, ⟨#[]⟩, sa⟩) hv
    generalize accW (fs, ls, [], []) ⟨ka, ⟨#[]⟩, fa, ⟨#[]⟩, sa⟩ = A at a1 a2 a3 hv1 ⊢
    obtain ⟨fs1, ls1, os1, es1⟩ := A
    simp only at a1 a2 a3 hv1
    subst a1
    obtain ⟨b1, b2, b3⟩ := acc_file (os := os1) (es := es1) hv1 (by omega) hb vb
    refine ⟨b1, fun n => ?_⟩
    have h2 : look fs1 fb = look fs fb := by rw [a3 fb, if_neg (fun e => hab e.symm)]
    rw [b3 n, h2, a3 n]
  obtain ⟨p1, p2⟩ := two k0 s0 k1 s1 f0n f1n h0 h1 f0_v f1_v f01
  obtain ⟨q1, q2⟩ := two k1 s1 k0 s0 f1n f0n h1 h0 f1_v f0_v (fun e => f01 e.symm)
  rw [status_look, status_look, p1, q1]
  split
  · rfl
  · rw [p2, q2]
    split
    · rename_i h
      rw [if_neg (fun e => f01 (e.symm.trans h))]
    · rfl
theorem run_small {fs : List S37} {ls : List S39} {l : List S45} (hs : SmallS fs ls) (he : ∀ x ∈ l, SmallE x) : SmallS (runF fs ls l).1 (runF fs ls l).2.1 := by
  unfold runF
  split
  · exact runW_all (P := fun s => s.size ≤ 140737488351232) (by decide) l hs (fun x hx => he x hx)
  · exact AllS.nil (P := fun s => s.size ≤ 140737488351232)

end Go.Proofs.Ytpnhkmicepmciaa.Y

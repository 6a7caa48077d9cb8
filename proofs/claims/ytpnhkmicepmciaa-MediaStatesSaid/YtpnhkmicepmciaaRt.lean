/- A part of this claim's walks: functions' contracts, or plain lemmas; conditions: each one's own. -/
import Derived.Test.YtpnhkmicepmciaaMd
namespace Go.Proofs.Ytpnhkmicepmciaa.Y
open Go.RowKit Go.Proofs.YtpnhkmicepmciaaW.PrintWords Go.Proofs.YtpnhkmicepmciaaW.PrintLast Go.Proofs.YtpnhkmicepmciaaW.PrintMore
set_option linter.unusedVariables false
set_option linter.unusedSimpArgs false
open Go.Proofs.Ytpnhkmicepmciaa.Par
def own : ByteArray := ⟨#[111, 119, 110]⟩
def mine : ByteArray := ⟨#[109, 105, 110, 101]⟩
def stF (fs : List S37) (s : Int) (p : Bool) : List S37 := fs ++ [⟨own, s, p⟩]
def stL (ls : List S39) (q : Int) : List S39 := ls ++ [⟨mine, own, q, ⟨#[]⟩⟩]
structure Base (fs : List S37) (ls : List S39) : Prop where
 valid : validB fs ls = true
 lf : fs.length ≤ 30
 ll : ls.length ≤ 15
 nf : ∀ x ∈ fs, x.f0.toList ≠ [111, 119, 110]
 nl : ∀ x ∈ ls, x.f0.toList ≠ [109, 105, 110, 101]
theorem own_l : own.toList = [111, 119, 110] := by decide +kernel
theorem mine_l : mine.toList = [109, 105, 110, 101] := by decide +kernel
theorem nil_l : (⟨#[]⟩ : ByteArray).toList = [] := by decide +kernel
theorem own_v : vName own = true := by decide +kernel
theorem firstAt_snoc {α : Type} (p : α → Bool) (l : List α) (x : α) (h : ∀ y ∈ l, p y = false) (hx : p x = true) : firstAt p (l ++ [x]) = (l.length : Int) := by
 rw [firstAt_eq p _ l.length (by simp) (by simp [hx])]
 intro j hj
 rw [List.getElem_append_left hj]
 exact h _ (List.getElem_mem hj)
section
variable {fs : List S37} {ls : List S39} (B : Base fs ls) (s q : Int) (p : Bool)
include B
theorem file_st : fileV (stF fs s p) own = (fs.length : Int) := by
 unfold fileV stF
 refine firstAt_snoc _ _ _ (fun y hy => ?_) (by simp)
 have := B.nf y hy
 rw [own_l]
 simpa using this
theorem link_st : linkV (stL ls q) mine = (ls.length : Int) := by
 unfold linkV stL
 refine firstAt_snoc _ _ _ (fun y hy => ?_) (by simp)
 have := B.nl y hy
 rw [mine_l]
 simpa using this
omit B in
theorem rd_stF : rd_T37 (stF fs s p) (fs.length : Int) = ⟨own, s, p⟩ := by unfold rd_T37 stF; simp
omit B in
theorem rd_stL : rd_T39 (stL ls q) (ls.length : Int) = ⟨mine, own, q, ⟨#[]⟩⟩ := by unfold rd_T39 stL; simp
theorem present_st : presentV (stF fs s p) own = if p = true then (fs.length : Int) else -1 := by
 unfold presentV
 rw [file_st B, if_neg (by omega), rd_stF]
theorem status_st : statusV (stF fs s p) (stL ls q) mine = if p = true then (if s = q then 1 else 2) else 3 := by
 unfold statusV
 rw [link_st B, if_neg (by omega), rd_stL, present_st B]
 cases p
 ·rfl
 ·simp only [if_true]
  rw [if_neg (by omega), rd_stF]
theorem valid_st : validB (stF fs s p) (stL ls q) = true := by
 have h := (valid_iff _ _).1 B.valid
 have h1 := B.lf
 have h2 := B.ll
 refine (valid_iff _ _).2 ⟨fun x hx => ?_, fun x hx => ?_, by unfold stF; simp; omega, by unfold stL; simp; omega, ?_, ?_⟩
 ·rcases List.mem_append.1 hx with hx | hx
  ·exact h.1 x hx
  ·rw [List.mem_singleton.1 hx]; exact own_v
 ·rcases List.mem_append.1 hx with hx | hx
  ·exact h.2.1 x hx
  ·rw [List.mem_singleton.1 hx]; exact (show linkOk ⟨mine, own, 0, ⟨#[]⟩⟩ = true from by decide +kernel)
 ·unfold stF
  rw [List.map_append, List.map_cons, List.map_nil]
  refine nodup_snoc h.2.2.2.2.1 (fun hm => ?_)
  obtain ⟨x, hx, he⟩ := List.mem_map.1 hm
  exact B.nf x hx (by rw [he, own_l])
 ·unfold stL
  rw [List.map_append, List.map_cons, List.map_nil]
  refine nodup_snoc h.2.2.2.2.2 (fun hm => ?_)
  obtain ⟨x, hx, he⟩ := List.mem_map.1 hm
  exact B.nl x hx (by rw [he, mine_l])
omit B in
theorem mod_stF (f : S37 → S37) : (stF fs s p).modify fs.length f = fs ++ [f ⟨own, s, p⟩] := modify_last _ _ _
omit B in
theorem mod_stL (f : S39 → S39) : (stL ls q).modify ls.length f = ls ++ [f ⟨mine, own, q, ⟨#[]⟩⟩] := modify_last _ _ _
omit B in
theorem ev1 (x : Int) : evV 1 ⟨#[]⟩ own ⟨#[]⟩ x = true := by unfold evV; rw [if_pos rfl, own_v, nil_l]; rfl
theorem step_arrive (x : Int) : ∃ o, stepW (stF fs s p) (stL ls q) ⟨1, ⟨#[]⟩, own, ⟨#[]⟩, x⟩ = (stF fs x true, stL ls q, o, 0) := by
 unfold stepW
 rw [if_pos (valid_st B s q p), if_pos (ev1 x)]
 have hf := file_st B s p
 unfold fileV at hf
 have h : stepF 1 ⟨#[]⟩ own ⟨#[]⟩ x (stF fs s p) (stL ls q) = (0, stF fs x true, stL ls q) := by
  unfold stepF arriveF
  simp only [if_true]
  rw [hf, if_neg (by omega), Int.toNat_natCast, mod_stF]
  rfl
 rw [h]
 exact ⟨_, rfl⟩
theorem step_leave : ∃ o, stepW (stF fs s true) (stL ls q) ⟨2, ⟨#[]⟩, own, ⟨#[]⟩, 0⟩ = (stF fs s false, stL ls q, o, 0) := by
 unfold stepW
 rw [if_pos (valid_st B s q true), if_pos (by decide +kernel)]
 have h : stepF 2 ⟨#[]⟩ own ⟨#[]⟩ 0 (stF fs s true) (stL ls q) = (0, stF fs s false, stL ls q) := by
  unfold stepF
  simp only [show ¬ ((2 : Int) = 1) by omega, show ¬ ((2 : Int) = 3) by omega, if_false, if_true]
  rw [present_st B, if_pos rfl, if_neg (by omega), Int.toNat_natCast, mod_stF]
  rfl
 rw [h]
 exact ⟨_, rfl⟩
theorem step_relink : ∃ o, stepW (stF fs s true) (stL ls q) ⟨4, mine, own, ⟨#[]⟩, 0⟩ = (stF fs s true, stL ls s, o, 0) := by
 unfold stepW
 rw [if_pos (valid_st B s q true), if_pos (by decide +kernel)]
 have h : stepF 4 mine own ⟨#[]⟩ 0 (stF fs s true) (stL ls q) = (0, stF fs s true, stL ls s) := by
  unfold stepF
  simp only [show ¬ ((4 : Int) = 1) by omega, show ¬ ((4 : Int) = 3) by omega, show ¬ ((4 : Int) = 2) by omega, if_false, if_true]
  rw [link_st B, present_st B, if_pos rfl, if_neg (by omega), if_neg (by omega), Int.toNat_natCast, mod_stL, rd_stF]
  rfl
 rw [h]
 exact ⟨_, rfl⟩
theorem run_st : ∃ o, runF fs ls [⟨1, ⟨#[]⟩, own, ⟨#[]⟩, s⟩, ⟨3, mine, own, ⟨#[]⟩, 0⟩] = (stF fs s true, stL ls s, o, [0, 0]) := by
 have hlf := B.lf
 have hll := B.ll
 have hf0 : firstAt (fun x : S37 => x.f0.toList == own.toList) fs = -1 := by
  unfold firstAt
  split
  ·rename_i i hi
   rw [List.findIdx?_eq_some_iff_getElem] at hi
   obtain ⟨hlt, hp, _⟩ := hi
   exact absurd (by rw [own_l] at hp; simpa using hp) (B.nf _ (List.getElem_mem hlt))
  ·rfl
 have hl0 : linkV ls mine = -1 := by
  unfold linkV firstAt
  split
  ·rename_i i hi
   rw [List.findIdx?_eq_some_iff_getElem] at hi
   obtain ⟨hlt, hp, _⟩ := hi
   exact absurd (by rw [mine_l] at hp; simpa using hp) (B.nl _ (List.getElem_mem hlt))
  ·rfl
 have h1 : ∃ o, stepW fs ls ⟨1, ⟨#[]⟩, own, ⟨#[]⟩, s⟩ = (stF fs s true, ls, o, 0) := by
  unfold stepW
  rw [if_pos B.valid, if_pos (ev1 s)]
  have h : stepF 1 ⟨#[]⟩ own ⟨#[]⟩ s fs ls = (0, stF fs s true, ls) := by
   unfold stepF arriveF
   simp only [if_true]
   rw [if_pos hf0, if_neg (by omega)]
   rfl
  rw [h]
  exact ⟨_, rfl⟩
 have hv1 : validB (stF fs s true) ls = true := by
  have h := (valid_iff _ _).1 (valid_st B s 0 true)
  have h0 := (valid_iff _ _).1 B.valid
  exact (valid_iff _ _).2 ⟨h.1, h0.2.1, h.2.2.1, h0.2.2.2.1, h.2.2.2.2.1, h0.2.2.2.2.2⟩
 have h2 : ∃ o, stepW (stF fs s true) ls ⟨3, mine, own, ⟨#[]⟩, 0⟩ = (stF fs s true, stL ls s, o, 0) := by
  unfold stepW
  rw [if_pos hv1, if_pos (by decide +kernel)]
  have h : stepF 3 mine own ⟨#[]⟩ 0 (stF fs s true) ls = (0, stF fs s true, stL ls s) := by
   unfold stepF connectF
   simp only [show ¬ ((3 : Int) = 1) by omega, if_false, if_true]
   rw [if_pos hl0, present_st B, if_pos rfl, if_neg (by omega), if_neg (by omega), rd_stF]
   rfl
  rw [h]
  exact ⟨_, rfl⟩
 obtain ⟨o1, e1⟩ := h1
 obtain ⟨o2, e2⟩ := h2
 unfold runF
 rw [if_pos B.valid]
 refine ⟨[] ++ o1 ++ o2, ?_⟩
 unfold runW
 rw [List.foldl_cons, List.foldl_cons, List.foldl_nil]
 have a1 : accW (fs, ls, [], []) ⟨1, ⟨#[]⟩, own, ⟨#[]⟩, s⟩ = (stF fs s true, ls, [] ++ o1, [0]) := by
  unfold accW
  simp only [e1, if_true]
  rfl
 rw [a1]
 unfold accW
 simp only [e2, if_true]
 rfl
omit B in
theorem small_st (hs : SmallS fs ls) : SmallS (stF fs s p) (stL ls q) := by
 refine ⟨fun x hx => ?_, fun x hx => ?_⟩
 ·rcases List.mem_append.1 hx with hx | hx
  ·exact hs.1 x hx
  ·rw [List.mem_singleton.1 hx]; exact (by decide : own.size ≤ 140737488351232)
 ·rcases List.mem_append.1 hx with hx | hx
  ·exact hs.2 x hx
  ·rw [List.mem_singleton.1 hx]; exact (by decide : mine.size ≤ 140737488351232 ∧ own.size ≤ 140737488351232 ∧ (⟨#[]⟩ : ByteArray).size ≤ 140737488351232)
end
theorem small_le {fs : List S37} {ls : List S39} (h : AllS (fun s => s.size ≤ 5) fs ls) : SmallS fs ls :=
 ⟨fun x hx => Nat.le_trans (h.1 x hx) (by decide), fun x hx => ⟨Nat.le_trans (h.2 x hx).1 (by decide), Nat.le_trans (h.2 x hx).2.1 (by decide), Nat.le_trans (h.2 x hx).2.2 (by decide)⟩⟩
theorem made_all (l : List S45) (hg : ∀ x ∈ l, goodE x) : AllS (fun s => s.size ≤ 5) (runW [] [] l).1 (runW [] [] l).2.1 :=
 runW_all (by decide) l AllS.nil (fun x hx => ⟨(hg x hx).1, (hg x hx).2.1, (hg x hx).2.2.1⟩)
theorem stepF_lens (k : Int) (m f p : ByteArray) (s : Int) (fs : List S37) (ls : List S39) : (stepF k m f p s fs ls).2.1.length ≤ fs.length + 1 := by
 unfold stepF arriveF
 repeat' split
 all_goals simp
def NoName (fs : List S37) (ls : List S39) : Prop := (∀ x ∈ fs, x.f0.toList ≠ [111, 119, 110]) ∧ ∀ x ∈ ls, x.f0.toList ≠ [109, 105, 110, 101]
theorem stepF_names {k : Int} {m f p : ByteArray} {s : Int} {fs : List S37} {ls : List S39} (h : NoName fs ls) (hm : m.toList ≠ [109, 105, 110, 101]) (hf : f.toList ≠ [111, 119, 110]) : NoName (stepF k m f p s fs ls).2.1 (stepF k m f p s fs ls).2.2 := by
 have hmf : ∀ (i : Nat) (g : S37 → S37), (∀ x, (g x).f0 = x.f0) → NoName (fs.modify i g) ls := fun i g hg => ⟨fun x hx => by
  rcases mem_modify hx with hx | ⟨y, hy, rfl⟩
  ·exact h.1 x hx
  ·rw [hg]; exact h.1 y hy, h.2⟩
 have hml : ∀ (i : Nat) (g : S39 → S39), (∀ x, (g x).f0 = x.f0) → NoName fs (ls.modify i g) := fun i g hg => ⟨h.1, fun x hx => by
  rcases mem_modify hx with hx | ⟨y, hy, rfl⟩
  ·exact h.2 x hx
  ·rw [hg]; exact h.2 y hy⟩
 unfold stepF
 split
 ·unfold arriveF
  split
  ·split
   ·exact h
   ·exact ⟨fun x hx => by
     rcases List.mem_append.1 hx with hx | hx
     ·exact h.1 x hx
     ·rw [List.mem_singleton.1 hx]; exact hf, h.2⟩
  ·exact hmf _ _ (fun _ => rfl)
 split
 ·unfold connectF
  repeat' split
  all_goals first
   | exact h
   | exact ⟨h.1, fun x hx => by
     rcases List.mem_append.1 hx with hx | hx
     ·exact h.2 x hx
     ·rw [List.mem_singleton.1 hx]; exact hm⟩
 repeat' split
 all_goals first
  | exact h
  | exact hmf _ _ (fun _ => rfl)
  | exact hml _ _ (fun _ => rfl)
def MadeOk (n : Nat) (fs : List S37) (ls : List S39) : Prop := validB fs ls = true ∧ fs.length ≤ n ∧ ls.length ≤ n ∧ NoName fs ls
theorem made_ok : ∀ (l : List S45) (fs : List S37) (ls : List S39) (os : List S61) (es : List Int) (n : Nat), MadeOk n fs ls → (∀ x ∈ l, goodE x) →
  MadeOk (n + l.length) (l.foldl accW (fs, ls, os, es)).1 (l.foldl accW (fs, ls, os, es)).2.1
 | [], fs, ls, os, es, n, h, _ => h
 | e :: l, fs, ls, os, es, n, h, hg => by
  rw [List.foldl_cons]
  have hge := hg e (by simp)
  have hv := accW_valid (a := (fs, ls, os, es)) (e := e) h.1
  have h1 : MadeOk (n + 1) (accW (fs, ls, os, es) e).1 (accW (fs, ls, os, es) e).2.1 := by
   refine ⟨hv, ?_⟩
   have hn : fs.length ≤ n + 1 ∧ ls.length ≤ n + 1 ∧ NoName fs ls := ⟨Nat.le_succ_of_le h.2.1, Nat.le_succ_of_le h.2.2.1, h.2.2.2⟩
   unfold accW
   split
   ·unfold stepW
    simp only
    split
    ·split
     ·unfold stepR
      split
      ·refine ⟨?_, ?_, stepF_names h.2.2.2 hge.2.2.2.1 hge.2.2.2.2⟩
       ·have := stepF_lens e.f0 e.f1 e.f2 e.f3 e.f4 fs ls
        have := h.2.1
        show (stepF e.f0 e.f1 e.f2 e.f3 e.f4 fs ls).2.1.length ≤ n + 1
        omega
       ·have := stepF_len e.f0 e.f1 e.f2 e.f3 e.f4 fs ls
        have := h.2.2.1
        show (stepF e.f0 e.f1 e.f2 e.f3 e.f4 fs ls).2.2.length ≤ n + 1
        omega
      ·exact ⟨by simp, by simp, fun x hx => by simp at hx, fun x hx => by simp at hx⟩
     ·exact ⟨by simp, by simp, fun x hx => by simp at hx, fun x hx => by simp at hx⟩
    ·exact ⟨by simp, by simp, fun x hx => by simp at hx, fun x hx => by simp at hx⟩
   ·exact hn
  have h2 := made_ok l (accW (fs, ls, os, es) e).1 (accW (fs, ls, os, es) e).2.1 (accW (fs, ls, os, es) e).2.2.1 (accW (fs, ls, os, es) e).2.2.2 (n + 1) h1 (fun x hx => hg x (by simp [hx]))
  have e3 : n + (e :: l).length = n + 1 + l.length := by simp; omega
  rw [e3]
  exact h2
theorem made_base (l : List S45) (hl : l.length ≤ 14) (hg : ∀ x ∈ l, goodE x) : Base (runW [] [] l).1 (runW [] [] l).2.1 := by
 have h := made_ok l [] [] [] [] 0 ⟨valid_nil, by simp, by simp, fun x hx => by simp at hx, fun x hx => by simp at hx⟩ hg
 rw [Nat.zero_add] at h
 have h1 := h.2.1
 have h2 := h.2.2.1
 exact ⟨h.1, by show (l.foldl accW _).1.length ≤ 30; omega, by show (l.foldl accW _).2.1.length ≤ 15; omega, h.2.2.2.1, h.2.2.2.2⟩
end Go.Proofs.Ytpnhkmicepmciaa.Y

/- A part of this claim's walks: functions' contracts, or plain lemmas; conditions: each one's own. -/
import Derived.Test.YtpnhkmicepmciaaPar
import Derived.Test.YtpnhkmicepmciaaY16
import Derived.Test.YtpnhkmicepmciaaEv
namespace Go.Proofs.Ytpnhkmicepmciaa.Y
open Go.RowKit Go.Proofs.YtpnhkmicepmciaaW.PrintWords Go.Proofs.YtpnhkmicepmciaaW.PrintLast Go.Proofs.YtpnhkmicepmciaaW.PrintMore
set_option linter.unusedVariables false
set_option linter.unusedSimpArgs false
open Go.Proofs.Ytpnhkmicepmciaa.Par
def stepW (fs : List S37) (ls : List S39) (e : S45) : List S37 × List S39 × List S61 × Int :=
 if validB fs ls = true then if evV e.f0 e.f1 e.f2 e.f3 e.f4 = true then stepR fs ls (stepF e.f0 e.f1 e.f2 e.f3 e.f4 fs ls) else ([], [], [], 1) else ([], [], [], 1)
def accW (a : List S37 × List S39 × List S61 × List Int) (e : S45) : List S37 × List S39 × List S61 × List Int :=
 if (stepW a.1 a.2.1 e).2.2.2 = 0 then ((stepW a.1 a.2.1 e).1, (stepW a.1 a.2.1 e).2.1, a.2.2.1 ++ (stepW a.1 a.2.1 e).2.2.1, a.2.2.2 ++ [0]) else (a.1, a.2.1, a.2.2.1, a.2.2.2 ++ [(stepW a.1 a.2.1 e).2.2.2])
def runW (fs : List S37) (ls : List S39) (l : List S45) : List S37 × List S39 × List S61 × List Int := l.foldl accW (fs, ls, [], [])
def SmallS (fs : List S37) (ls : List S39) : Prop := (∀ x ∈ fs, x.f0.size ≤ 140737488351232) ∧ ∀ x ∈ ls, x.f0.size ≤ 140737488351232 ∧ x.f1.size ≤ 140737488351232 ∧ x.f3.size ≤ 140737488351232
def SmallE (x : S45) : Prop := x.f1.size ≤ 140737488351232 ∧ x.f2.size ≤ 140737488351232 ∧ x.f3.size ≤ 140737488351232
theorem step_f {fs : List S37} {ls : List S39} {e : S45} (hs : SmallS fs ls) (he : SmallE e) : media_Step.f fs ls e.f0 e.f1 e.f2 e.f3 e.f4 = some (stepW fs ls e) := by
 unfold media_Step.f stepW
 rw [valid_k fs ls hs.1 hs.2, Option.bind_some]
 split
 ·rw [valid_f _ _ _ _ _ he.1 he.2.1 he.2.2, Option.bind_some]
  split <;> rfl
 ·rfl
theorem ref_step_f {fs : List S37} {ls : List S39} {e : S45} (hs : SmallS fs ls) (he : SmallE e) : cutroomref36_Step.f fs ls e.f0 e.f1 e.f2 e.f3 e.f4 = some (stepW fs ls e) := by
 unfold cutroomref36_Step.f
 rw [if_pos ⟨hs.1, hs.2, he.1, he.2.1, he.2.2⟩]
 exact step_f hs he
def AllS (P : ByteArray → Prop) (fs : List S37) (ls : List S39) : Prop := (∀ x ∈ fs, P x.f0) ∧ ∀ x ∈ ls, P x.f0 ∧ P x.f1 ∧ P x.f3
theorem mem_modify {α : Type} {l : List α} {i : Nat} {f : α → α} {x : α} (h : x ∈ l.modify i f) : x ∈ l ∨ ∃ y ∈ l, x = f y := by
 induction l generalizing i with
 | nil => simp at h
 | cons a l ih =>
  cases i with
  | zero =>
   simp only [List.modify_zero_cons, List.mem_cons] at h
   rcases h with h | h
   ·exact .inr ⟨a, by simp, h⟩
   ·exact .inl (by simp [h])
  | succ n =>
   simp only [List.modify_succ_cons, List.mem_cons] at h
   rcases h with h | h
   ·exact .inl (by simp [h])
   ·rcases ih h with h | ⟨y, hy, e⟩
    ·exact .inl (by simp [h])
    ·exact .inr ⟨y, by simp [hy], e⟩
theorem stepF_all {P : ByteArray → Prop} (hnil : P ⟨#[]⟩) {fs : List S37} {ls : List S39} (h : AllS P fs ls) {k : Int} {m f p : ByteArray} {s : Int} (hm : P m) (hf : P f) (hp : P p) :
  AllS P (stepF k m f p s fs ls).2.1 (stepF k m f p s fs ls).2.2 := by
 unfold stepF
 split
 ·refine ⟨?_, h.2⟩
  unfold arriveF
  split
  ·split
   ·exact h.1
   ·intro x hx
    rcases List.mem_append.1 hx with hx | hx
    ·exact h.1 x hx
    ·rw [List.mem_singleton.1 hx]; exact hf
  ·intro x hx
   rcases mem_modify hx with hx | ⟨y, hy, rfl⟩
   ·exact h.1 x hx
   ·exact h.1 y hy
 split
 ·refine ⟨h.1, ?_⟩
  unfold connectF
  split
  ·split
   ·exact h.2
   ·split
    ·exact h.2
    ·intro x hx
     rcases List.mem_append.1 hx with hx | hx
     ·exact h.2 x hx
     ·rw [List.mem_singleton.1 hx]; exact ⟨hm, hf, hnil⟩
  ·exact h.2
 split
 ·split
  ·exact h
  ·refine ⟨fun x hx => ?_, h.2⟩
   rcases mem_modify hx with hx | ⟨y, hy, rfl⟩
   ·exact h.1 x hx
   ·exact h.1 y hy
 split
 ·split
  ·exact h
  ·split
   ·exact h
   ·refine ⟨h.1, fun x hx => ?_⟩
    rcases mem_modify hx with hx | ⟨y, hy, rfl⟩
    ·exact h.2 x hx
    ·exact ⟨(h.2 y hy).1, hf, (h.2 y hy).2.2⟩
 split
 ·split
  ·exact h
  ·split
   ·exact h
   ·have hq : AllS P fs (ls.modify (linkV ls m).toNat fun x => ⟨x.f0, x.f1, x.f2, p⟩) := by
     refine ⟨h.1, fun x hx => ?_⟩
     rcases mem_modify hx with hx | ⟨y, hy, rfl⟩
     ·exact h.2 x hx
     ·exact ⟨(h.2 y hy).1, (h.2 y hy).2.1, hp⟩
    split
    ·exact hq
    ·split
     ·exact h
     ·exact hq
 ·exact h
theorem AllS.nil {P : ByteArray → Prop} : AllS P ([] : List S37) ([] : List S39) := ⟨fun _ h => absurd h (by simp), fun _ h => absurd h (by simp)⟩
theorem stepW_all {P : ByteArray → Prop} (hnil : P ⟨#[]⟩) {fs : List S37} {ls : List S39} {e : S45} (h : AllS P fs ls) (hm : P e.f1) (hf : P e.f2) (hp : P e.f3) :
  AllS P (stepW fs ls e).1 (stepW fs ls e).2.1 := by
 have h0 := AllS.nil (P := P)
 unfold stepW
 split
 ·split
  ·unfold stepR
   split
   ·exact stepF_all hnil h hm hf hp
   ·exact h0
  ·exact h0
 ·exact h0
theorem accW_all {P : ByteArray → Prop} (hnil : P ⟨#[]⟩) {a : List S37 × List S39 × List S61 × List Int} {e : S45} (h : AllS P a.1 a.2.1) (hm : P e.f1) (hf : P e.f2) (hp : P e.f3) :
  AllS P (accW a e).1 (accW a e).2.1 := by
 unfold accW
 split
 ·exact stepW_all hnil h hm hf hp
 ·exact h
theorem accW_small {a : List S37 × List S39 × List S61 × List Int} {e : S45} (h : SmallS a.1 a.2.1) (he : SmallE e) : SmallS (accW a e).1 (accW a e).2.1 :=
 accW_all (P := fun s => s.size ≤ 140737488351232) (by decide) h he.1 he.2.1 he.2.2
theorem valid_small {fs : List S37} {ls : List S39} (h : validB fs ls = true) : fs.length ≤ 32 ∧ ls.length ≤ 16 := by
 unfold validB at h
 simp only [Bool.and_eq_true, decide_eq_true_eq] at h
 exact ⟨h.1.1.1.2, h.1.1.2⟩
theorem stepW_outs (fs : List S37) (ls : List S39) (e : S45) : (stepW fs ls e).2.2.1.length ≤ 17 := by
 unfold stepW
 split
 ·rename_i hv
  split
  ·unfold stepR
   split
   ·have h1 := outsV_le fs (stepF e.f0 e.f1 e.f2 e.f3 e.f4 fs ls).2.1 ls (stepF e.f0 e.f1 e.f2 e.f3 e.f4 fs ls).2.2 (stepF e.f0 e.f1 e.f2 e.f3 e.f4 fs ls).2.2
    have h2 := stepF_len e.f0 e.f1 e.f2 e.f3 e.f4 fs ls
    have h3 := (valid_small hv).2
    show (outsV fs ls _ _ _).length ≤ 17
    omega
   ·simp
  ·simp
 ·simp
theorem take_set_succ (E : List Int) (i : Nat) (h : i < E.length) (v : Int) : (E.set i v).take (i + 1) = E.take i ++ [v] := by
 rw [List.take_succ_eq_append_getElem (by simpa using h), List.take_set_of_le (Nat.le_refl _)]
 simp
theorem rdEv (l : List S45) (k : Nat) (h : k < l.length) : rd_T45 l (k : Int) = l[k]'h := by simp [rd_T45, List.getD, h]
theorem run_l1 (l : List S45) (hl : l.length ≤ 1000) (hsm : ∀ x ∈ l, SmallE x) : ∀ (n i : Nat) (E : List Int) (O : List S61) (fs : List S37) (ls : List S39), i + n = l.length → E.length = l.length → SmallS fs ls → O.length ≤ 17 * i →
  media_Run.l1 (n + 1) E O l (l.length : Int) (i : Int) fs ls = some ((l.drop i).foldl accW (fs, ls, O, E.take i))
 | 0, i, E, O, fs, ls, hi, hE, hs, hO => by
  unfold media_Run.l1
  rw [if_neg (by omega), List.drop_of_length_le (by omega), List.foldl_nil, List.take_of_length_le (by omega)]
 | n + 1, i, E, O, fs, ls, hi, hE, hs, hO => by
  have hlt : i < l.length := by omega
  have hw : wrap64 ((i : Int) + 1) = ((i + 1 : Nat) : Int) := by unfold wrap64; omega
  have he : rd_T45 l (i : Int) = l[i]'hlt := rdEv l i hlt
  have hse := hsm _ (List.getElem_mem hlt)
  unfold media_Run.l1
  rw [if_pos (by omega), if_pos (by omega), if_pos (by omega), he, step_f hs hse, Option.bind_some, if_pos (by omega), Option.bind_some, hw, Int.toNat_natCast, List.drop_eq_getElem_cons hlt, List.foldl_cons]
  have ho := stepW_outs fs ls l[i]
  have hsn := accW_small (a := (fs, ls, O, E.take i)) hs hse
  unfold accW at hsn
  unfold accW
  simp only at hsn ⊢
  split
  ·rename_i h0
   rw [if_pos h0] at hsn
   rw [if_pos (by omega), run_l1 l hl hsm n (i + 1) _ _ _ _ (by omega) (by simpa using hE) hsn (by simp; omega), take_set_succ E i (by omega), h0]
   rfl
  ·rename_i h0
   rw [run_l1 l hl hsm n (i + 1) _ _ _ _ (by omega) (by simpa using hE) hs (by omega), take_set_succ E i (by omega)]
   rfl
theorem run_l0 (l : List S45) (N : Nat) (hN : N ≤ 1000) : ∀ (n i : Nat) (E : List Int), i + n = N → E.length = N → (∀ x ∈ E.take i, x = 1) →
  media_Run.l0 (n + 1) E (N : Int) (i : Int) = some ([], [], [], List.replicate N 1)
 | 0, i, E, hi, hE, h1 => by
  unfold media_Run.l0
  rw [if_neg (by omega)]
  have : E = List.replicate N 1 := by
   rw [List.eq_replicate_iff]
   refine ⟨hE, fun x hx => h1 x (by rwa [List.take_of_length_le (by omega)])⟩
  rw [this]
 | n + 1, i, E, hi, hE, h1 => by
  have hw : wrap64 ((i : Int) + 1) = ((i + 1 : Nat) : Int) := by unfold wrap64; omega
  unfold media_Run.l0
  rw [if_pos (by omega), if_pos (by omega), if_pos (by omega), hw, Int.toNat_natCast]
  refine run_l0 l N hN n (i + 1) _ (by omega) (by simpa using hE) ?_
  rw [take_set_succ E i (by omega)]
  intro x hx
  rcases List.mem_append.1 hx with h | h
  ·exact h1 x h
  ·simpa using h
def runF (fs : List S37) (ls : List S39) (l : List S45) : List S37 × List S39 × List S61 × List Int :=
 if validB fs ls = true then runW fs ls l else ([], [], [], List.replicate l.length 1)
theorem run_f (fs : List S37) (ls : List S39) (l : List S45) (hs : SmallS fs ls) (hl : l.length ≤ 1000) (hsm : ∀ x ∈ l, SmallE x) : media_Run.f (l.length + 1) fs ls l = some (runF fs ls l) := by
 unfold media_Run.f runF
 rw [if_pos (by omega), if_pos (by simp; omega), Option.bind_some, valid_k fs ls hs.1 hs.2, Option.bind_some]
 split
 ·rename_i hv
  have hb := valid_small hv
  rw [clone0_f (by omega), Option.bind_some, clone1_f (by omega), Option.bind_some]
  have h := run_l1 l hl hsm l.length 0 (List.replicate ((l.length : Int)).toNat 0) [] fs ls (by omega) (by simp) hs (by simp)
  rw [List.drop_zero, List.take_zero] at h
  exact h
 ·have h := run_l0 l l.length hl l.length 0 (List.replicate ((l.length : Int)).toNat 0) (by omega) (by simp) (by simp)
  simpa using h
theorem ref_l0 (l : List S45) (hl : l.length ≤ 1000) (hsm : ∀ x ∈ l, SmallE x) : ∀ (n i : Nat) (E : List Int) (O : List S61) (fs : List S37) (ls : List S39), i + n = l.length → E.length = i → SmallS fs ls → O.length ≤ 17 * i →
  cutroomref36_Run.l0 (n + 1) l O E true (i : Int) fs ls = some ((l.drop i).foldl accW (fs, ls, O, E))
 | 0, i, E, O, fs, ls, hi, hE, hs, hO => by
  unfold cutroomref36_Run.l0
  rw [if_neg (by omega), List.drop_of_length_le (by omega), List.foldl_nil]
 | n + 1, i, E, O, fs, ls, hi, hE, hs, hO => by
  have hlt : i < l.length := by omega
  have hw : wrap64 ((i : Int) + 1) = ((i + 1 : Nat) : Int) := by unfold wrap64; omega
  have he : rd_T45 l (i : Int) = l[i]'hlt := rdEv l i hlt
  have hse := hsm _ (List.getElem_mem hlt)
  unfold cutroomref36_Run.l0
  rw [if_pos (by omega), if_pos rfl, if_pos (by omega), he, ref_step_f hs hse, Option.bind_some, if_pos (by omega), Option.bind_some, hw, List.drop_eq_getElem_cons hlt, List.foldl_cons]
  have ho := stepW_outs fs ls l[i]
  have hsn := accW_small (a := (fs, ls, O, E)) hs hse
  unfold accW at hsn
  unfold accW
  simp only at hsn ⊢
  split
  ·rename_i h0
   rw [if_pos h0] at hsn
   rw [if_pos (by omega), ref_l0 l hl hsm n (i + 1) _ _ _ _ (by omega) (by simp; omega) hsn (by simp; omega), h0]
   rfl
  ·rename_i h0
   rw [ref_l0 l hl hsm n (i + 1) _ _ _ _ (by omega) (by simp; omega) hs (by omega)]
   rfl
theorem ref_l0f (l : List S45) (hl : l.length ≤ 1000) : ∀ (n i : Nat) (E : List Int), i + n = l.length → E.length = i → (∀ x ∈ E, x = 1) →
  cutroomref36_Run.l0 (n + 1) l [] E false (i : Int) [] [] = some ([], [], [], List.replicate l.length 1)
 | 0, i, E, hi, hE, h1 => by
  unfold cutroomref36_Run.l0
  rw [if_neg (by omega)]
  have : E = List.replicate l.length 1 := by
   rw [List.eq_replicate_iff]
   exact ⟨by omega, h1⟩
  rw [this]
 | n + 1, i, E, hi, hE, h1 => by
  have hw : wrap64 ((i : Int) + 1) = ((i + 1 : Nat) : Int) := by unfold wrap64; omega
  unfold cutroomref36_Run.l0
  rw [if_pos (by omega), if_neg (by simp), if_pos (by omega), hw]
  refine ref_l0f l hl n (i + 1) _ (by omega) (by simp; omega) ?_
  intro x hx
  rcases List.mem_append.1 hx with h | h
  ·exact h1 x h
  ·simpa using h
theorem ref_run_f (fs : List S37) (ls : List S39) (l : List S45) (B : Nat) (hB : B ≤ 140737488351232) (hf : fs.length ≤ 1000000) (hL : ls.length ≤ 1000000)
  (hs0 : ∀ x ∈ fs, x.f0.size ≤ B) (hs1 : ∀ x ∈ ls, x.f0.size ≤ B ∧ x.f1.size ≤ B ∧ x.f3.size ≤ B) (hl : l.length ≤ 1000) (hsm : ∀ x ∈ l, SmallE x) :
  ∃ K, cutroomref36_Run.f K fs ls l = some (runF fs ls l) := by
 refine ⟨2 * fs.length + 2 * ls.length + B + l.length + 9, ?_⟩
 have hj : ∀ (v : Bool) (fs : List S37) (ls : List S39) (r), cutroomref36_Run.l0 (l.length + 1) l [] [] v 0 fs ls = some r → cutroomref36_Run.j0 (2 * fs.length + 0 + (2 * ls.length + B + l.length + 9)) l [] [] v fs ls = some r := fun v fs ls r h => by
  obtain ⟨k, hk⟩ : ∃ k, 2 * fs.length + 0 + (2 * ls.length + B + l.length + 9) = k + 1 := ⟨2 * fs.length + (2 * ls.length + B + l.length + 8), by omega⟩
  rw [hk]
  unfold cutroomref36_Run.j0
  exact mono_le (f := fun k => cutroomref36_Run.l0 k l [] [] v 0 fs ls) (fun k => (cutroomref36_Run.mono_l k).2 _ _ _ _ _ _ _) h (by omega)
 have hj2 : ∀ (v : Bool) (K : Nat) (fs : List S37) (ls : List S39) (r), l.length + 2 ≤ K → cutroomref36_Run.l0 (l.length + 1) l [] [] v 0 fs ls = some r → cutroomref36_Run.j0 K l [] [] v fs ls = some r := fun v K fs ls r hK h => by
  obtain ⟨k, rfl⟩ : ∃ k, K = k + 1 := ⟨K - 1, by omega⟩
  unfold cutroomref36_Run.j0
  exact mono_le (f := fun k => cutroomref36_Run.l0 k l [] [] v 0 fs ls) (fun k => (cutroomref36_Run.mono_l k).2 _ _ _ _ _ _ _) h (by omega)
 have hsm0 : SmallS fs ls := ⟨fun x hx => Nat.le_trans (hs0 x hx) hB, fun x hx => ⟨Nat.le_trans (hs1 x hx).1 hB, Nat.le_trans (hs1 x hx).2.1 hB, Nat.le_trans (hs1 x hx).2.2 hB⟩⟩
 unfold cutroomref36_Run.f runF
 rw [refValid_k fs ls B hB (by omega) (by omega) hs0 hs1 _ (by omega), Option.bind_some]
 split
 ·rename_i hv
  rw [Option.bind_some, if_pos (by simp; omega), Option.bind_some, if_pos (by simp; omega), hv, List.nil_append, List.nil_append]
  refine hj2 _ _ _ _ _ (by omega) ?_
  have h := ref_l0 l hl hsm l.length 0 [] [] fs ls (by omega) rfl hsm0 (by simp)
  rw [List.drop_zero] at h
  exact h
 ·rename_i hv
  rw [Bool.not_eq_true] at hv
  rw [hv]
  exact hj2 _ _ _ _ _ (by omega) (ref_l0f l hl l.length 0 [] (by omega) rfl (by simp))
theorem keys_mod_f (fs : List S37) (i : Nat) (g : S37 → S37) (h : ∀ x, (g x).f0 = x.f0) : (fs.modify i g).map (·.f0) = fs.map (·.f0) := by
 induction fs generalizing i with
 | nil => simp
 | cons a l ih =>
  cases i with
  | zero => simp [h]
  | succ n => simp [ih]
theorem keys_mod_l (ls : List S39) (i : Nat) (g : S39 → S39) (h : ∀ x, (g x).f0 = x.f0) : (ls.modify i g).map (·.f0) = ls.map (·.f0) := by
 induction ls generalizing i with
 | nil => simp
 | cons a l ih =>
  cases i with
  | zero => simp [h]
  | succ n => simp [ih]
theorem firstAt_none {α : Type} (p : α → Bool) (l : List α) (h : firstAt p l = -1) : ∀ x ∈ l, p x = false := by
 unfold firstAt at h
 split at h
 ·omega
 ·rename_i hn
  rw [List.findIdx?_eq_none_iff] at hn
  exact hn
theorem bytes_inj {a b : ByteArray} (h : a.toList = b.toList) : a = b := bytes_toList_inj h
theorem valid_iff (fs : List S37) (ls : List S39) : validB fs ls = true ↔ (∀ x ∈ fs, vName x.f0 = true) ∧ (∀ x ∈ ls, linkOk x = true) ∧ fs.length ≤ 32 ∧ ls.length ≤ 16 ∧ (fs.map (·.f0)).Nodup ∧ (ls.map (·.f0)).Nodup := by
 unfold validB
 simp only [Bool.and_eq_true, decide_eq_true_eq, List.all_eq_true]
 constructor
 ·rintro ⟨⟨⟨⟨⟨h1, h2⟩, h3⟩, h4⟩, h5⟩, h6⟩
  exact ⟨h1, h2, h3, h4, h5, h6⟩
 ·rintro ⟨h1, h2, h3, h4, h5, h6⟩
  exact ⟨⟨⟨⟨⟨h1, h2⟩, h3⟩, h4⟩, h5⟩, h6⟩
theorem nodup_snoc {α : Type} {l : List α} {x : α} (h : l.Nodup) (hx : x ∉ l) : (l ++ [x]).Nodup := by
 rw [List.nodup_append]
 refine ⟨h, by simp, fun a ha b hb => ?_⟩
 rw [List.mem_singleton.1 hb]
 rintro rfl
 exact hx ha
theorem firstAt_hit {α : Type} (p : α → Bool) (l : List α) (i : Nat) (x : α) (h : firstAt p l ≠ -1) (hi : (firstAt p l).toNat = i) (hx : l[i]? = some x) : p x = true := by
 unfold firstAt at h hi
 split at h
 ·rename_i j hj
  rw [hj] at hi
  simp only [Int.toNat_natCast] at hi
  subst hi
  rw [List.findIdx?_eq_some_iff_getElem] at hj
  obtain ⟨hlt, hp, _⟩ := hj
  rw [List.getElem?_eq_getElem hlt] at hx
  rw [← Option.some.inj hx]
  exact hp
 ·exact absurd rfl h
theorem vName_ne {a : ByteArray} (h : vName a = true) : a.toList.isEmpty = false := by
 cases hx : a.toList.isEmpty with
 | false => rfl
 | true => rw [vName_nil a hx] at h; cases h
theorem stepF_valid {k : Int} {m f p : ByteArray} {s : Int} {fs : List S37} {ls : List S39} (hv : validB fs ls = true) (he : evV k m f p s = true) (h0 : (stepF k m f p s fs ls).1 = 0) :
  validB (stepF k m f p s fs ls).2.1 (stepF k m f p s fs ls).2.2 = true := by
 rw [valid_iff] at hv ⊢
 obtain ⟨v1, v2, v3, v4, v5, v6⟩ := hv
 have hold : (∀ x ∈ fs, vName x.f0 = true) ∧ (∀ x ∈ ls, linkOk x = true) ∧ fs.length ≤ 32 ∧ ls.length ≤ 16 ∧ (fs.map (·.f0)).Nodup ∧ (ls.map (·.f0)).Nodup := ⟨v1, v2, v3, v4, v5, v6⟩
 have hmodf : ∀ (i : Nat) (g : S37 → S37), (∀ x, (g x).f0 = x.f0) → (∀ x ∈ fs.modify i g, vName x.f0 = true) ∧ (∀ x ∈ ls, linkOk x = true) ∧ (fs.modify i g).length ≤ 32 ∧ ls.length ≤ 16 ∧ ((fs.modify i g).map (·.f0)).Nodup ∧ (ls.map (·.f0)).Nodup := fun i g hg => by
  refine ⟨fun x hx => ?_, v2, by simpa using v3, v4, by rw [keys_mod_f _ _ _ hg]; exact v5, v6⟩
  rcases mem_modify hx with hx | ⟨y, hy, rfl⟩
  ·exact v1 x hx
  ·rw [hg]; exact v1 y hy
 have hmodl : ∀ (i : Nat) (g : S39 → S39), (∀ x, (g x).f0 = x.f0) → (∀ x, ls[i]? = some x → linkOk (g x) = true) → (∀ x ∈ fs, vName x.f0 = true) ∧ (∀ x ∈ ls.modify i g, linkOk x = true) ∧ fs.length ≤ 32 ∧ (ls.modify i g).length ≤ 16 ∧ (fs.map (·.f0)).Nodup ∧ ((ls.modify i g).map (·.f0)).Nodup := fun i g hg hok => by
  refine ⟨v1, fun x hx => ?_, v3, by simpa using v4, v5, by rw [keys_mod_l _ _ _ hg]; exact v6⟩
  obtain ⟨j, hj, rfl⟩ := List.mem_iff_getElem.1 hx
  rw [List.getElem_modify]
  split
  ·rename_i hij
   refine hok _ ?_
   subst hij
   simp
  ·exact v2 _ (List.getElem_mem _)
 unfold stepF at h0 ⊢
 by_cases h1 : k = 1
 ·subst h1
  simp only [if_true] at h0 ⊢
  have hf : vName f = true := by
   unfold evV at he
   simp only [if_true, Bool.and_eq_true] at he
   exact he.1.1
  unfold arriveF at h0 ⊢
  split at h0
  ·rename_i hn
   split at h0
   ·cases h0
   ·rename_i h32
    rw [if_pos hn, if_neg h32]
    refine ⟨fun x hx => ?_, v2, by simp; omega, v4, ?_, v6⟩
    ·rcases List.mem_append.1 hx with hx | hx
     ·exact v1 x hx
     ·rw [List.mem_singleton.1 hx]; exact hf
    ·rw [List.map_append, List.map_cons, List.map_nil]
     refine nodup_snoc v5 (fun hm => ?_)
     obtain ⟨x, hx, he⟩ := List.mem_map.1 hm
     have := firstAt_none _ fs hn x hx
     rw [he] at this
     simp at this
  ·rename_i hn
   rw [if_neg hn]
   exact hmodf _ _ (fun _ => rfl)
 rw [if_neg h1] at h0 ⊢
 by_cases h3 : k = 3
 ·subst h3
  simp only [if_true] at h0 ⊢
  unfold evV at he
  simp only [show ¬ ((3 : Int) = 1) by omega, show ¬ ((3 : Int) = 2) by omega, if_false, true_or, if_true, Bool.and_eq_true] at he
  unfold connectF at h0 ⊢
  split at h0
  ·rename_i hn
   split at h0
   ·cases h0
   ·rename_i hp
    split at h0
    ·cases h0
    ·rename_i h16
     rw [if_pos hn, if_neg hp, if_neg h16]
     refine ⟨v1, fun x hx => ?_, v3, by simp; omega, v5, ?_⟩
     ·rcases List.mem_append.1 hx with hx | hx
      ·exact v2 x hx
      ·rw [List.mem_singleton.1 hx]
       have hm := vName_ne he.1.1.1
       unfold linkOk
       simp only [he.1.1.1, he.1.1.2, Bool.true_and, Bool.and_true, Bool.and_eq_true, Bool.not_eq_true']
       refine ⟨by decide +kernel, ?_⟩
       cases hml : m.toList with
       | nil => rw [hml] at hm; cases hm
       | cons a r => rw [show (⟨#[]⟩ : ByteArray).toList = [] by decide +kernel]; rfl
     ·rw [List.map_append, List.map_cons, List.map_nil]
      refine nodup_snoc v6 (fun hm => ?_)
      obtain ⟨x, hx, he⟩ := List.mem_map.1 hm
      have := firstAt_none _ ls hn x hx
      rw [he] at this
      simp at this
  ·cases h0
 rw [if_neg h3] at h0 ⊢
 by_cases h2 : k = 2
 ·simp only [if_pos h2] at h0 ⊢
  split at h0
  ·cases h0
  ·rename_i hp
   rw [if_neg hp]
   exact hmodf _ _ (fun _ => rfl)
 simp only [if_neg h2] at h0 ⊢
 by_cases h4 : k = 4
 ·subst h4
  simp only [if_true] at h0 ⊢
  unfold evV at he
  simp only [show ¬ ((4 : Int) = 1) by omega, show ¬ ((4 : Int) = 2) by omega, if_false, or_true, if_true, Bool.and_eq_true] at he
  split at h0
  ·cases h0
  ·rename_i hl
   split at h0
   ·cases h0
   ·rename_i hp
    rw [if_neg hl, if_neg hp]
    refine hmodl _ _ (fun _ => rfl) (fun x hx => ?_)
    have hok := v2 x (List.mem_of_getElem? hx)
    unfold linkOk at hok ⊢
    simp only [Bool.and_eq_true] at hok ⊢
    exact ⟨⟨⟨hok.1.1.1, he.1.1.2⟩, hok.1.2⟩, hok.2⟩
 simp only [if_neg h4] at h0 ⊢
 by_cases h5 : k = 5
 ·subst h5
  simp only [if_true] at h0 ⊢
  unfold evV at he
  simp only [show ¬ ((5 : Int) = 1) by omega, show ¬ ((5 : Int) = 2) by omega, show ¬ ((5 : Int) = 3 ∨ (5 : Int) = 4) by omega, if_false, if_true, Bool.and_eq_true] at he
  have hm : linkV ls m ≠ -1 → p.toList ≠ m.toList → (∀ x ∈ fs, vName x.f0 = true) ∧ (∀ x ∈ ls.modify (linkV ls m).toNat (fun x => ⟨x.f0, x.f1, x.f2, p⟩), linkOk x = true) ∧ fs.length ≤ 32 ∧ (ls.modify (linkV ls m).toNat (fun x => ⟨x.f0, x.f1, x.f2, p⟩)).length ≤ 16 ∧ (fs.map (·.f0)).Nodup ∧ ((ls.modify (linkV ls m).toNat (fun x => ⟨x.f0, x.f1, x.f2, p⟩)).map (·.f0)).Nodup := fun hl hpm => by
   refine hmodl _ _ (fun _ => rfl) (fun x hx => ?_)
   have hok := v2 x (List.mem_of_getElem? hx)
   have hit := firstAt_hit _ ls _ x hl rfl hx
   unfold linkOk at hok ⊢
   simp only [Bool.and_eq_true, Bool.not_eq_true', beq_eq_false_iff_ne] at hok ⊢
   refine ⟨⟨hok.1.1, he.1.2⟩, ?_⟩
   rw [beq_iff_eq.1 hit]
   exact hpm
  split at h0
  ·cases h0
  ·rename_i hpm
   split at h0
   ·cases h0
   ·rename_i hl
    split at h0
    ·rename_i hpe
     rw [if_neg hpm, if_neg hl, if_pos hpe]
     exact hm hl hpm
    ·rename_i hpe
     split at h0
     ·cases h0
     ·rename_i hlp
      rw [if_neg hpm, if_neg hl, if_neg hpe, if_neg hlp]
      exact hm hl hpm
 ·simp only [if_neg h5]
  exact hold
theorem valid_nil : validB [] [] = true := by decide
theorem accW_valid {a : List S37 × List S39 × List S61 × List Int} {e : S45} (hv : validB a.1 a.2.1 = true) : validB (accW a e).1 (accW a e).2.1 = true := by
 unfold accW
 split
 ·rename_i h0
  unfold stepW at h0 ⊢
  rw [if_pos hv] at h0 ⊢
  split at h0
  ·rename_i he
   rw [if_pos he]
   unfold stepR at h0 ⊢
   split at h0
   ·rename_i h1
    rw [if_pos h1]
    exact stepF_valid hv he h1
   ·rename_i h1
    exact absurd h0 h1
  ·cases h0
 ·exact hv
theorem foldl_inv {α β : Type} {I : α → Prop} {f : α → β → α} {l : List β} {a : α} (h : I a) (hs : ∀ a x, x ∈ l → I a → I (f a x)) : I (l.foldl f a) := by
 induction l generalizing a with
 | nil => exact h
 | cons x r ih => exact ih (hs a x (by simp) h) (fun a y hy => hs a y (by simp [hy]))
theorem runW_all {P : ByteArray → Prop} (hnil : P ⟨#[]⟩) {fs : List S37} {ls : List S39} (l : List S45) (h : AllS P fs ls) (he : ∀ x ∈ l, P x.f1 ∧ P x.f2 ∧ P x.f3) : AllS P (runW fs ls l).1 (runW fs ls l).2.1 :=
 foldl_inv (I := fun (a : List S37 × List S39 × List S61 × List Int) => AllS P a.1 a.2.1) h (fun a x hx h => accW_all hnil h (he x hx).1 (he x hx).2.1 (he x hx).2.2)
theorem goodE_small {x : S45} (h : goodE x) : SmallE x := ⟨Nat.le_trans h.1 (by decide), Nat.le_trans h.2.1 (by decide), Nat.le_trans h.2.2.1 (by decide)⟩
theorem made_f (l : List S45) (hl : l.length ≤ 100) (hg : ∀ x ∈ l, goodE x) : ∃ K, cutroomref36_Run.f K [] [] l = some (runW [] [] l) := by
 obtain ⟨K, hK⟩ := ref_run_f [] [] l 5 (by decide) (by simp) (by simp) (by simp) (by simp) (by omega) (fun x hx => goodE_small (hg x hx))
 exact ⟨K, by rw [hK]; unfold runF; rw [if_pos valid_nil]⟩
end Go.Proofs.Ytpnhkmicepmciaa.Y

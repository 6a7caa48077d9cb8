/- A part of this claim's walks: functions' contracts, or plain lemmas; conditions: each one's own. -/
import Derived.Test.YtpnhkmicepmciaaWr
namespace Go.Proofs.Ytpnhkmicepmciaa.Y
open Go.RowKit Go.Proofs.YtpnhkmicepmciaaW.PrintWords Go.Proofs.YtpnhkmicepmciaaW.PrintLast Go.Proofs.YtpnhkmicepmciaaW.PrintMore
set_option linter.unusedVariables false
set_option linter.unusedSimpArgs false
open Go.Proofs.Ytpnhkmicepmciaa.Par
/-! ### Following the reports of a run -/
def foll (n : ByteArray) (o : List S61) (st : Int) : Option Int := match o with
  | [] => some st
  | v :: r => if v.f0.toList = n.toList then (if v.f1 = st then none else foll n r v.f1) else foll n r st
theorem foll_append (n : ByteArray) (o p : List S61) (st : Int) : foll n (o ++ p) st = (foll n o st).bind (foll n p) := by
  induction o generalizing st with
  | nil => rfl
  | cons v r ih =>
    simp only [List.cons_append, foll]
    split
    · split
      · rfl
      · exact ih _
    · exact ih _
theorem link_none {ls : List S39} {n : ByteArray} : linkV ls n = -1 ↔ ∀ x ∈ ls, x.f0.toList ≠ n.toList := by
  constructor
  · intro h x hx
    have := firstAt_none _ ls h x hx
    simpa using this
  · intro h
    unfold linkV firstAt
    split
    · rename_i i hi
      rw [List.findIdx?_eq_some_iff_getElem] at hi
      obtain ⟨hlt, hp, _⟩ := hi
      exact absurd (by simpa using hp) (h _ (List.getElem_mem hlt))
    · rfl
theorem foll_outs (n : ByteArray) (fs nf : List S37) (ls nl : List S39) : ∀ (l : List S39), (l.map (·.f0)).Nodup →
    (n ∉ l.map (·.f0) → ∀ st, foll n (outsV fs ls nf nl l) st = some st) ∧
    (n ∈ l.map (·.f0) → foll n (outsV fs ls nf nl l) (statusV fs ls n) = some (statusV nf nl n))
  | [], _ => ⟨fun _ _ => rfl, fun h => by simp at h⟩
  | x :: l, hn => by
    rw [List.map_cons, List.nodup_cons] at hn
    obtain ⟨ih1, ih2⟩ := foll_outs n fs nf ls nl l hn.2
    have hc : outsV fs ls nf nl (x :: l) = if statusV nf nl x.f0 = statusV fs ls x.f0 then outsV fs ls nf nl l else ⟨x.f0, statusV nf nl x.f0⟩ :: outsV fs ls nf nl l := by
      unfold outsV
      rw [List.filterMap_cons]
      split
      · rename_i h
        split at h
        · rename_i e; rw [if_pos e]
        · cases h
      · rename_i b h
        split at h
        · cases h
        · rename_i e
          rw [if_neg e, ← Option.some.inj h]
    constructor
    · intro h st
      rw [List.map_cons, List.mem_cons, not_or] at h
      rw [hc]
      split
      · exact ih1 h.2 st
      · unfold foll
        rw [if_neg (fun e => h.1 (bytes_inj e).symm)]
        exact ih1 h.2 st
    · intro h
      rw [hc]
      by_cases hx : n = x.f0
      · have hnot : n ∉ l.map (·.f0) := by rw [hx]; exact hn.1
        split
        · rename_i e
          rw [ih1 hnot, hx, e]
        · rename_i e
          unfold foll
          rw [if_pos (by rw [hx]), if_neg (by rw [hx]; exact e), ih1 hnot, hx]
      · have hl : n ∈ l.map (·.f0) := by
          rw [List.map_cons] at h
          exact (List.mem_cons.1 h).resolve_left hx
        split
        · exact ih2 hl
        · unfold foll
          rw [if_neg (fun e => hx (bytes_inj e).symm)]
          exact ih2 hl
theorem keys_in (n : ByteArray) (l : List S39) : n ∈ l.map (·.f0) ↔ ¬ linkV l n = -1 := by
  rw [link_none]
  constructor
  · intro h hall
    obtain ⟨x, hx, he⟩ := List.mem_map.1 h
    exact hall x hx (by rw [he])
  · intro h
    refine Classical.byContradiction fun hno => h fun x hx e => hno (List.mem_map.2 ⟨x, hx, bytes_inj e⟩)
/-- A step takes no medium away. -/
theorem stepF_keys (k : Int) (m f p : ByteArray) (s : Int) (fs : List S37) (ls : List S39) : ∀ n ∈ ls.map (·.f0), n ∈ (stepF k m f p s fs ls).2.2.map (·.f0) := by
  intro n hn
  have hm : ∀ (i : Nat) (g : S39 → S39), (∀ x, (g x).f0 = x.f0) → n ∈ (ls.modify i g).map (·.f0) := fun i g hg => by rw [keys_mod_l _ _ _ hg]; exact hn
  unfold stepF
  split
  · exact hn
  split
  · unfold connectF
    repeat' split
    all_goals first
      | exact hn
      | (rw [List.map_append]; exact List.mem_append_left _ hn)
  repeat' split
  all_goals first
    | exact hn
    | exact hm _ _ (fun _ => rfl)
theorem acc_foll (n : ByteArray) (st : Int) (a : List S37 × List S39 × List S61 × List Int) (e : S45) (hv : validB a.1 a.2.1 = true) (h : foll n a.2.2.1 st = some (statusV a.1 a.2.1 n)) :
    foll n (accW a e).2.2.1 st = some (statusV (accW a e).1 (accW a e).2.1 n) := by
  obtain ⟨fs, ls, os, es⟩ := a
  unfold accW
  split
  · rename_i h0
    simp only at h hv h0 ⊢
    rw [foll_append, h, Option.bind_some]
    unfold stepW at h0 ⊢
    rw [if_pos hv] at h0 ⊢
    split at h0
    · rename_i he
      rw [if_pos he]
      unfold stepR at h0 ⊢
      split at h0
      · rename_i h1
        rw [if_pos h1]
        have hvn := stepF_valid hv he h1
        have hk := stepF_keys e.f0 e.f1 e.f2 e.f3 e.f4 fs ls
        generalize stepF e.f0 e.f1 e.f2 e.f3 e.f4 fs ls = R at hvn hk ⊢
        obtain ⟨c, nf, nl⟩ := R
        simp only at hvn hk ⊢
        obtain ⟨g1, g2⟩ := foll_outs n fs nf ls nl nl ((valid_iff _ _).1 hvn).2.2.2.2.2
        by_cases hn : n ∈ nl.map (·.f0)
        · exact g2 hn
        · have h2 : n ∉ ls.map (·.f0) := fun hh => hn (hk n hh)
          rw [g1 hn]
          have e1 : linkV nl n = -1 := Classical.byContradiction fun hh => hn ((keys_in n nl).2 hh)
          have e2 : linkV ls n = -1 := Classical.byContradiction fun hh => h2 ((keys_in n ls).2 hh)
          unfold statusV
          rw [if_pos e1, if_pos e2]
      · rename_i h1
        exact absurd h0 h1
    · cases h0
  · exact h
theorem run_foll (n : ByteArray) (fs : List S37) (ls : List S39) (l : List S45) (hv : validB fs ls = true) : foll n (runF fs ls l).2.2.1 (statusV fs ls n) = some (statusV (runF fs ls l).1 (runF fs ls l).2.1 n) := by
  unfold runF
  rw [if_pos hv]
  have h := foldl_inv (I := fun (a : List S37 × List S39 × List S61 × List Int) => validB a.1 a.2.1 = true ∧ foll n a.2.2.1 (statusV fs ls n) = some (statusV a.1 a.2.1 n)) (f := accW) (l := l) (a := (fs, ls, [], [])) ⟨hv, rfl⟩ (fun a e _ h => ⟨accW_valid h.1, acc_foll n _ a e h.1 h.2⟩)
  exact h.2

end Go.Proofs.Ytpnhkmicepmciaa.Y

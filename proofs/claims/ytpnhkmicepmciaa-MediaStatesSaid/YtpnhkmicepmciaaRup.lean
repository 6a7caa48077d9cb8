/- A part of this claim's walks: functions' contracts, or plain lemmas; conditions: each one's own. -/
import Derived.Test.YtpnhkmicepmciaaWr
namespace Go.Proofs.Ytpnhkmicepmciaa.Y
open Go.RowKit Go.Proofs.YtpnhkmicepmciaaW.PrintWords Go.Proofs.YtpnhkmicepmciaaW.PrintLast Go.Proofs.YtpnhkmicepmciaaW.PrintMore
set_option linter.unusedVariables false
set_option linter.unusedSimpArgs false
open Go.Proofs.Ytpnhkmicepmciaa.Par
/-! ### Equal lists are found equal -/
theorem w64_nat {i n : Nat} (h : i < n) (hn : n ≤ 9223372036854775807) : wrap64 ((i : Int) + 1) = ((i + 1 : Nat) : Int) := by unfold wrap64; omega
theorem same_l1 (fs : List S37) (ls : List S39) (hl : ls.length ≤ 9223372036854775807) : ∀ (n i : Nat), i + n = ls.length → cutroomref36_Same.l1 (n + 1) (i : Int) fs ls fs ls = some true
  | 0, i, hi => by
    unfold cutroomref36_Same.l1
    rw [if_neg (by omega)]
  | n + 1, i, hi => by
    unfold cutroomref36_Same.l1
    rw [if_pos (by omega), if_pos (by omega), if_pos (by omega), if_neg (by simp), w64_nat (by omega) hl]
    exact same_l1 fs ls hl n (i + 1) (by omega)
theorem same_l0 (fs : List S37) (ls : List S39) (hf : fs.length ≤ 9223372036854775807) (hl : ls.length ≤ 9223372036854775807) : ∀ (n i : Nat), i + n = fs.length → cutroomref36_Same.l0 (n + ls.length + 2) (i : Int) fs ls fs ls = some true
  | 0, i, hi => by
    rw [show 0 + ls.length + 2 = (ls.length + 1) + 1 by omega]
    unfold cutroomref36_Same.l0
    rw [if_neg (by omega)]
    exact same_l1 fs ls hl ls.length 0 (by omega)
  | n + 1, i, hi => by
    rw [show n + 1 + ls.length + 2 = (n + ls.length + 2) + 1 by omega]
    unfold cutroomref36_Same.l0
    rw [if_pos (by omega), if_pos (by omega), if_pos (by omega), if_neg (by simp), w64_nat (by omega) hf]
    exact same_l0 fs ls hf hl n (i + 1) (by omega)
theorem same_f (fs : List S37) (ls : List S39) (hf : fs.length ≤ 9223372036854775807) (hl : ls.length ≤ 9223372036854775807) : cutroomref36_Same.f (fs.length + ls.length + 3) fs ls fs ls = some true := by
  unfold cutroomref36_Same.f
  rw [if_pos rfl, show fs.length + ls.length + 3 = (fs.length + ls.length + 2) + 1 by omega]
  have h0 : ((ls.length : Int) != (ls.length : Int)) = false := by simp
  rw [h0]
  show (if false = true then some false else cutroomref36_Same.l0 (fs.length + ls.length + 2) 0 fs ls fs ls) = some true
  rw [if_neg (by simp)]
  exact same_l0 fs ls hf hl fs.length 0 (by omega)
theorem sameOuts_l0 (os : List S61) (hl : os.length ≤ 9223372036854775807) : ∀ (n i : Nat), i + n = os.length → cutroomref36_SameOuts.l0 (n + 1) os os (i : Int) = some true
  | 0, i, hi => by
    unfold cutroomref36_SameOuts.l0
    rw [if_neg (by omega)]
  | n + 1, i, hi => by
    unfold cutroomref36_SameOuts.l0
    rw [if_pos (by omega), if_pos (by omega), if_pos (by omega), if_neg (by simp), w64_nat (by omega) hl]
    exact sameOuts_l0 os hl n (i + 1) (by omega)
theorem sameOuts_f (os : List S61) (hl : os.length ≤ 9223372036854775807) : cutroomref36_SameOuts.f (os.length + 1) os os = some true := by
  unfold cutroomref36_SameOuts.f
  rw [if_pos rfl]
  exact sameOuts_l0 os hl os.length 0 (by omega)
theorem errnos_l0 (es : List Int) (hl : es.length ≤ 9223372036854775807) : ∀ (n i : Nat), i + n = es.length → cutroomlaw36_errnos.l0 (n + 1) es es (es.length : Int) (i : Int) = some true
  | 0, i, hi => by
    unfold cutroomlaw36_errnos.l0
    rw [if_neg (by omega)]
  | n + 1, i, hi => by
    unfold cutroomlaw36_errnos.l0
    rw [if_pos (by omega), if_pos (by omega), if_pos (by omega), if_pos (by omega), if_pos rfl, w64_nat (by omega) hl]
    exact errnos_l0 es hl n (i + 1) (by omega)
theorem errnos_f (es : List Int) (hl : es.length ≤ 9223372036854775807) : cutroomlaw36_errnos.f (es.length + 1) es es = some true := by
  unfold cutroomlaw36_errnos.f
  rw [if_pos rfl]
  exact errnos_l0 es hl es.length 0 (by omega)
/-- The reference's Run, of whatever length the state. -/
theorem ref_run_g (fs : List S37) (ls : List S39) (l : List S45) (hf : fs.length ≤ 9223372036854775807) (hL : ls.length ≤ 9223372036854775807) (hs : SmallS fs ls) (hl : l.length ≤ 1000) (hsm : ∀ x ∈ l, SmallE x) :
    ∃ K, cutroomref36_Run.f K fs ls l = some (runF fs ls l) := by
  by_cases hv : validB fs ls = true
  · have hb := valid_small hv
    exact ref_run_f fs ls l 140737488351232 (Nat.le_refl _) (by omega) (by omega) hs.1 hs.2 hl hsm
  · refine ⟨2 * fs.length + 2 * ls.length + 140737488351232 + l.length + 9, ?_⟩
    rw [Bool.not_eq_true] at hv
    unfold cutroomref36_Run.f runF
    rw [refValid_k fs ls 140737488351232 (Nat.le_refl _) hf hL hs.1 hs.2 _ (by omega), Option.bind_some, hv]
    obtain ⟨k, hk⟩ : ∃ k, 2 * fs.length + 2 * ls.length + 140737488351232 + l.length + 9 = k + 1 := ⟨2 * fs.length + 2 * ls.length + 140737488351232 + l.length + 8, by omega⟩
    rw [hk]
    simp only [Bool.false_eq_true, if_false]
    unfold cutroomref36_Run.j0
    exact mono_le (f := fun k => cutroomref36_Run.l0 k l [] [] false 0 [] []) (fun k => (cutroomref36_Run.mono_l k).2 _ _ _ _ _ _ _) (ref_l0f l hl l.length 0 [] (by omega) rfl (by simp)) (by omega)

end Go.Proofs.Ytpnhkmicepmciaa.Y

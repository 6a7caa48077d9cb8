/- The plain law of MediaSums: both sums are one number, and the sanity check tells true; for every list of bytes. -/
import Derived.Test.YtpnhkmicepmciaaS7
import Derived.KernelRfl
namespace Go.Proofs.Ytpnhkmicepmciaa.Pure
open Go.RowKit Go.Proofs.Ytpnhkmicepmciaa.S Go.Proofs.YtpnhkmicepmciaaW.PrintWords Go.Proofs.YtpnhkmicepmciaaW.PrintLast

theorem awake_true : cutroomlaw36_awake.f 12 = some true := by kernel_rfl
theorem mono_n {α : Type} {f : Nat → Option α} (hm : ∀ k, LeO (f k) (f (k + 1))) {k : Nat} {r : α} (h : f k = some r) : ∀ n, f (k + n) = some r
  | 0 => h
  | n + 1 => hm (k + n) r (mono_n hm h n)
theorem sums (l : List Int) (hl : l.length ≤ maxLen) : ∀ (n i : Nat) (h : Int), i + n = l.length →
    ∃ v, media_Sum.l0 (n + 1) h l (l.length : Int) (i : Int) = some v ∧ cutroomref36_Sum.l0 (n + 1) l h (i : Int) = some v
  | 0, i, h, hn => by
    have hi : ¬ ((i : Int) < (l.length : Int)) := by omega
    refine ⟨h, ?_, ?_⟩
    · unfold media_Sum.l0
      rw [if_neg hi]
    · unfold cutroomref36_Sum.l0
      rw [if_neg hi]
  | n + 1, i, h, hn => by
    have hi : (i : Int) < (l.length : Int) := by omega
    have h0 : (0 : Int) ≤ (i : Int) := by omega
    have hw : wrap64 ((i : Int) + 1) = ((i + 1 : Nat) : Int) := by
      have : l.length ≤ 9223372036854775807 := hl
      unfold wrap64
      omega
    obtain ⟨v, h1, h2⟩ := sums l hl n (i + 1) (IntKind.u64.wrap ((Go.bits .xor .u64 h (IntKind.u64.wrap (rd l i))) * 1099511628211)) (by omega)
    refine ⟨v, ?_, ?_⟩
    · unfold media_Sum.l0
      rw [if_pos hi, if_pos h0, if_pos hi, hw]
      exact h1
    · unfold cutroomref36_Sum.l0
      rw [if_pos hi, if_pos h0, hw]
      exact h2
theorem law (l0 : List Int) (hl : l0.length ≤ maxLen) : ∃ k, cutroomlaw36_MediaSums.f k l0 = some true := by
  obtain ⟨v, h1, h2⟩ := sums l0 hl l0.length 0 14695981039346656037 (by omega)
  have h1' : media_Sum.f (l0.length + 1 + 12) l0 = some v := mono_n (f := fun k => media_Sum.f k l0) (fun k => media_Sum.mono l0 k) h1 12
  have h2' : cutroomref36_Sum.f (l0.length + 1 + 12) l0 = some v := mono_n (f := fun k => cutroomref36_Sum.f k l0) (fun k => cutroomref36_Sum.mono l0 k) h2 12
  have h3 : cutroomlaw36_awake.f (l0.length + 1 + 12) = some true := by
    have h := mono_n (f := fun k => cutroomlaw36_awake.f k) (fun k => cutroomlaw36_awake.mono k) awake_true (l0.length + 1)
    rwa [Nat.add_comm] at h
  refine ⟨l0.length + 1 + 12, ?_⟩
  unfold cutroomlaw36_MediaSums.f
  rw [h1', h2', h3]
  simp

theorem MediaSums : cutroomlaw36_MediaSums.Pure := fun l0 hl _ _ => law l0 hl

end Go.Proofs.Ytpnhkmicepmciaa.Pure

/- The session's own words: append to an empty literal (append([]T{}, xs...)), as an operation of par_: it only adds. Plain theorem; conditions: its own. -/
import Derived.Test.YtpnhkmicepmciaaPar
import Derived.ArgAppend
namespace Go.Proofs.Ytpnhkmicepmciaa.Par
open Go Go.RowKit Go.Proofs.YtpnhkmicepmciaaW.PrintWords Go.Proofs.YtpnhkmicepmciaaW.PrintLast
section
variable {P : Program} {ops : Array Oper} {Q : Exit → Act → World → Prop} {α : Type}
theorem ok_append0 {o : Oper} {b : Act} {W : World} {R : World → World → Prop} {Φ : Nat → Value → World → Prop} {J : World → Prop} {i : Nat} (d : Kd α) {Rr : α → List Value → Prop} (s x : Operand) (t e : TypeId) (z : Value) (bytes : Nat)
    (ho : o.op = .call { callee := .builtin .append, args := #[s, x], argTypes := #[t, t] })
    (ht : P.underlying t = some (.slice e)) (hinfo : (P.info? e).map (fun i => (i.zero, i.size, i.bytes)) = some (some z, d.sz, bytes)) (hz : z.cells.size = d.sz) (hs0 : 0 < d.sz) (hb0 : 0 < bytes)
    {g base : Nat} (hs : b.eval s = .slice (some ⟨g, 0, none⟩) 0 0) (hg : W.heap[g]? = some (.cells #[] e (0, 0))) (hbase : base ≤ g) (ys : List α) (A : Option Addr) (m c : Nat) (hx : b.eval x = .slice A m c)
    (HR : ReadsRow Rr d.sz W A m ys) (hKM : ∀ x cs, Rr x cs → d.M W base (fun _ => False) x cs) (hl : m * bytes ≤ 140737488355328)
    (h : ∀ v1 w1, d.R e w1 base (fun _ => True) v1 ys → Below W.heap.size W w1 → R W w1 ∧ Φ i v1 w1 ∧ J w1) :
    Oper.wp P o b W (fun b' W' => ∃ x, b' = b.put o.dst x ∧ R W W' ∧ Φ i x W' ∧ J W') Q := by
  obtain ⟨i0, hi, hzz⟩ := Option.map_eq_some_iff.1 hinfo
  simp only [Prod.mk.injEq] at hzz
  obtain ⟨hz0, hz1, hz2⟩ := hzz
  have hm : ys.length = m := HR.1
  have hlen : m ≤ 140737488355328 := Nat.le_trans (Nat.le_mul_of_pos_right _ hb0) hl
  have hgl : g < W.heap.size := blk_lt hg
  have hrun : ∃ v1 w1, (Builtin.append_ #[t, t] o.type #[.slice (some ⟨g, 0, none⟩) 0 0, .slice A m c]).run P W = .ok v1 w1 ∧ d.R e w1 base (fun _ => True) v1 ys ∧ Below W.heap.size W w1 := by
    rcases Nat.eq_zero_or_pos m with h0 | h0
    · subst h0
      obtain rfl : ys = [] := List.eq_nil_of_length_eq_zero hm
      refine ⟨.slice (some ⟨g, 0, none⟩) 0 0, W, ?_, ⟨fun _ _ => trivial, [], ⟨by simp, .inr ⟨g, 0, #[], rfl, hbase, hg, Nat.le_refl _, Nat.zero_le _, by simp, by simp⟩⟩, Reps.none _ _⟩, Below.refl _ _⟩
      rcases A with _ | ad
      · simp [Builtin.append_, run_underlying ht, sizeOf, typeInfo, hi, Builtin.lenOf, Builtin.firstCells, storeCells]
      · exact run_append_room_cells (P := P) W t o.type e i0 ht hi g 0 0 0 ad 0 c [] (by simp) (fun j u hu => by simp at hu) (fun u hu => by simp at hu) (Nat.le_refl _) (fun j hj => by simp at hj) (fun j hj => by simp at hj)
    · obtain ⟨ad, rfl, _⟩ := HR.2.2 h0
      obtain ⟨news, hnr, hnc⟩ := ReadsRow.inner_ HR
      have hnM : Reps (d.M W base (fun _ => False)) d.sz ys news := hnr.imp_ (fun p c hp => hKM p c hp)
      obtain ⟨v1, w1, hrun, h2, hg1⟩ := run_append_arg_grows (P := P) W t o.type e i0 z d.sz bytes ht hi hz0 hz1 hz2 hz hs0 ⟨g, 0, none⟩ 0 0 [] (by simp) (fun j u hu => by simp at hu) ad m c news (by rw [hnM.1, hm]) hnc (by omega) (by simp only [maxLen]; omega) (by simpa using hl)
      refine ⟨v1, w1, hrun, ⟨fun _ _ => trivial, news, ?_, hnM.imp_ (fun p c hp => d.M_mono (fun k hk => hk.elim) (d.M_move (fun k hk => hk.elim) hp))⟩, ⟨hg1.os, hg1.tape, hg1.output, hg1.size, fun k hk => hg1.block k hk (by simp)⟩⟩
      rw [hm]
      obtain ⟨h3, h4⟩ := h2
      simp only [Nat.zero_add, List.nil_append] at h3 h4
      refine ⟨h3, ?_⟩
      rcases h4 with h4 | ⟨g', cap, cur, rfl, hb, hh, r⟩
      · exact .inl h4
      · exact .inr ⟨g', cap, cur, rfl, by omega, hh, r⟩
  obtain ⟨v1, w1, hrun, hR1, hb1⟩ := hrun
  obtain ⟨h1, h2, h3⟩ := h v1 w1 hR1 hb1
  unfold Oper.wp
  simp [execOp, ho, resolve, invoke, builtin, hs, hx, hrun, Result.andThen]
  exact ⟨v1, rfl, h1, h2, h3⟩
end
end Go.Proofs.Ytpnhkmicepmciaa.Par

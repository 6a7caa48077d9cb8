/- A part of this claim's walks: functions' contracts, or plain lemmas; conditions: each one's own. -/
import Derived.Test.YtpnhkmicepmciaaPl
import Derived.Test.YtpnhkmicepmciaaRd
namespace Go.Proofs.Ytpnhkmicepmciaa.Y
open Go.RowKit Go.Proofs.YtpnhkmicepmciaaW.PrintWords Go.Proofs.YtpnhkmicepmciaaW.PrintLast Go.Proofs.YtpnhkmicepmciaaW.PrintMore
set_option linter.unusedVariables false
set_option linter.unusedSimpArgs false
open Go.Proofs.Ytpnhkmicepmciaa.Rd
section
variable {H : Type} {enc : TypeId × Value → H} {w : World} {base : Nat} {spare : Nat → Bool} {held : Bool}
theorem op_File : Opens enc Try.prog w base spare held 37 k37 (fun x => x.f0.size ≤ 140737488351232) :=
  op_iso (fun a => ⟨a.1, a.2.1, a.2.2⟩) (fun _ => rfl) (fun a h => h.1) (op_struct Try.underlying37 (by kernel_rfl) (opF_cons rfl (by kernel_rfl) (op_string Try.underlying9) (opF_cons rfl (by kernel_rfl) (op_int Try.underlying23) (opF_one rfl (by kernel_rfl) (op_bool Try.underlying4)))))
theorem op_Link : Opens enc Try.prog w base spare held 39 k39 (fun x => x.f0.size ≤ 140737488351232 ∧ x.f1.size ≤ 140737488351232 ∧ x.f3.size ≤ 140737488351232) :=
  op_iso (fun a => ⟨a.1, a.2.1, a.2.2.1, a.2.2.2⟩) (fun _ => rfl) (fun a h => ⟨h.1, h.2.1, h.2.2.2⟩) (op_struct Try.underlying39 (by kernel_rfl) (opF_cons rfl (by kernel_rfl) (op_string Try.underlying9) (opF_cons rfl (by kernel_rfl) (op_string Try.underlying9) (opF_cons rfl (by kernel_rfl) (op_int Try.underlying23) (opF_one rfl (by kernel_rfl) (op_string Try.underlying9))))))
theorem op_Event : Opens enc Try.prog w base spare held 45 k45 SmallE :=
  op_iso (fun a => ⟨a.1, a.2.1, a.2.2.1, a.2.2.2.1, a.2.2.2.2⟩) (fun _ => rfl) (fun a h => ⟨h.2.1, h.2.2.1, h.2.2.2.1⟩) (op_struct Try.underlying45 (by kernel_rfl) (opF_cons rfl (by kernel_rfl) (op_int Try.underlying3) (opF_cons rfl (by kernel_rfl) (op_string Try.underlying9) (opF_cons rfl (by kernel_rfl) (op_string Try.underlying9) (opF_cons rfl (by kernel_rfl) (op_string Try.underlying9) (opF_one rfl (by kernel_rfl) (op_int Try.underlying23)))))))
theorem op_State : Opens enc Try.prog w base spare held 30 (Kd.pair (Kd.slice 37 k37) (Kd.slice 39 k39)) (fun s => (s.1.length * Try.prog.bytesOf 37 ≤ 140737488351232 ∧ ∀ x ∈ s.1, x.f0.size ≤ 140737488351232) ∧ s.2.length * Try.prog.bytesOf 39 ≤ 140737488351232 ∧ ∀ x ∈ s.2, x.f0.size ≤ 140737488351232 ∧ x.f1.size ≤ 140737488351232 ∧ x.f3.size ≤ 140737488351232) :=
  op_struct Try.underlying30 (by kernel_rfl) (opF_cons rfl (by kernel_rfl) (op_slice _ Try.underlying27 (by kernel_rfl) op_File) (opF_one rfl (by kernel_rfl) (op_slice _ Try.underlying28 (by kernel_rfl) op_Link)))
theorem arg_State {ts : List TypeId} {ds : List (DataW H)} (hz : (DataW.weightsEach Try.prog ts ds).all (· ≤ reachBytes) = true) {j : Nat} {v : Value} {y : DataW H} {ps : List MemPlace} {r : Reach} {b0 : Nat} (ht : ts[j]? = some 30) (hd : ds[j]? = some y) (hv : DataW.Trod enc Try.prog w base spare held 30 v y ps) (hok : Value.okWide Try.prog w r b0 30 v) :
    ∃ A0 c0 fs A1 c1 ls, v = .agg #[.slice A0 (List.length fs) c0, .slice A1 (List.length ls) c1] ∧ (Kd.C k37 w A0 fs.length fs ∧ fs.length ≤ c0 ∧ Kd.C k39 w A1 ls.length ls ∧ ls.length ≤ c1) ∧ SmallS fs ls := by
  obtain ⟨⟨fs, ls⟩, hK, hS⟩ := op_arg op_State hz ht hd hv
  obtain ⟨cs, rfl, _⟩ := Go.WideShapes.okWide_struct Try.underlying30 hok
  obtain ⟨x0, x1, e, ⟨A0, c0, rfl, h0, h1⟩, ⟨A1, c1, rfl, h2, h3⟩⟩ := hK
  refine ⟨A0, c0, fs, A1, c1, ls, ?_, ⟨h1, h0, h3, h2⟩, hS.1.2, hS.2.2⟩
  have e' : cs.toList = [.slice A0 fs.length c0, .slice A1 ls.length c1] := e
  rw [← Array.toArray_toList (xs := cs), e']
theorem arg_Event {ts : List TypeId} {ds : List (DataW H)} (hz : (DataW.weightsEach Try.prog ts ds).all (· ≤ reachBytes) = true) {j : Nat} {v : Value} {y : DataW H} {ps : List MemPlace} {r : Reach} {b0 : Nat} (ht : ts[j]? = some 45) (hd : ds[j]? = some y) (hv : DataW.Trod enc Try.prog w base spare held 45 v y ps) (hok : Value.okWide Try.prog w r b0 45 v) :
    ∃ e : S45, v = .agg #[.int .i64 e.f0, .string e.f1, .string e.f2, .string e.f3, .int .u64 e.f4] ∧ SmallE e := by
  obtain ⟨x, hK, hS⟩ := op_arg op_Event hz ht hd hv
  obtain ⟨cs, rfl, _⟩ := Go.WideShapes.okWide_struct Try.underlying45 hok
  refine ⟨x, ?_, hS⟩
  have e' : cs.toList = [.int .i64 x.f0, .string x.f1, .string x.f2, .string x.f3, .int .u64 x.f4] := k45_open hK
  rw [← Array.toArray_toList (xs := cs), e']
end

end Go.Proofs.Ytpnhkmicepmciaa.Y

/- The session's own words: an argument of whatever shape (numbers, strings, structs, slices of them), read as the print's kinds: for each type one fact, put together along the type. Plain theorems; conditions: each one's own. -/
import Derived.Test.YtpnhkmicepmciaaBase
import Derived.Deep.Slices
import Derived.DataReads
import Derived.ChangeArms
namespace Go.Proofs.Ytpnhkmicepmciaa.Rd
open Go Go.Deep Go.Proofs.YtpnhkmicepmciaaW.PrintWords
section
variable {H : Type} {enc : TypeId × Value → H} {P : Program} {w : World} {base : Nat} {spare : Nat → Bool} {held : Bool}
/-- What is read at type t is one of d, and of the sizes S where it weighs no more than a program can hold. -/
def Opens (enc : TypeId × Value → H) (P : Program) (w : World) (base : Nat) (spare : Nat → Bool) (held : Bool) (t : TypeId) {α : Type} (d : Kd α) (S : α → Prop) : Prop :=
  ∀ fuel cs x, DataW.trod enc P w base spare held fuel t cs = some x → ∃ a, d.K w a cs ∧ ((∀ n ∈ x.1.weights P t, n ≤ reachBytes) → S a)
def OpF (enc : TypeId × Value → H) (P : Program) (w : World) (base : Nat) (spare : Nat → Bool) (held : Bool) (off : Nat) (fs : List Field) {α : Type} (d : Kd α) (S : α → Prop) : Prop :=
  ∀ n (cs : List Value) (ys : List (DataW H × List MemPlace)), ys.length = fs.length → (∀ (i : Nat) (f : Field), fs[i]? = some f → DataW.trod enc P w base spare held n f.type ((cs.drop f.offset).take (P.cellsOf f.type)) = ys[i]?) → cs.length = off + d.sz →
    ∃ a, d.K w a (cs.drop off) ∧ ((∀ n ∈ DataW.weightsEach P (fs.map (·.type)) (ys.map (·.1)), n ≤ reachBytes) → S a)
theorem op_string {t : TypeId} (ht : P.underlying t = some .string) : Opens enc P w base spare held t Kd.string (fun s => s.size ≤ 140737488351232) := by
  intro fuel cs x h
  obtain ⟨s, rfl, rfl, _⟩ := DataW.trod_string ht h
  refine ⟨s, rfl, fun hw => ?_⟩
  have := hw s.data.toList.length (by simp [DataW.weights])
  simpa [reachBytes] using this
theorem op_int {t : TypeId} {k : IntKind} (ht : P.underlying t = some (.int k)) : Opens enc P w base spare held t (Kd.int k) (fun n => (Lit.int k n).wf = true) := by
  intro fuel cs x h
  obtain ⟨s, rfl, rfl, hw⟩ := DataW.trod_int ht h
  exact ⟨s, rfl, fun _ => hw⟩
theorem op_bool {t : TypeId} (ht : P.underlying t = some .bool) : Opens enc P w base spare held t Kd.bool (fun _ => True) := by
  intro fuel cs x h
  obtain ⟨s, rfl, rfl⟩ := DataW.trod_bool ht h
  exact ⟨s, rfl, fun _ => trivial⟩
theorem op_iso {t : TypeId} {α β : Type} {d : Kd α} {S : α → Prop} {f : β → α} {S' : β → Prop} (g : α → β) (hg : ∀ a, f (g a) = a) (hS : ∀ a, S a → S' (g a)) (h : Opens enc P w base spare held t d S) : Opens enc P w base spare held t (Kd.iso d f) S' := by
  intro fuel cs x hx
  obtain ⟨a, hK, ha⟩ := h fuel cs x hx
  refine ⟨g a, ?_, fun hw => hS a (ha hw)⟩
  show d.K w (f (g a)) cs
  rw [hg]
  exact hK
theorem opF_one {off : Nat} {f : Field} {α : Type} {d : Kd α} {S : α → Prop} (ho : f.offset = off) (hc : P.cellsOf f.type = d.sz) (h : Opens enc P w base spare held f.type d S) : OpF enc P w base spare held off [f] d S := by
  intro n cs ys hl hf hlen
  match ys, hl with
  | [y], _ =>
    have h0 := hf 0 f rfl
    rw [ho, hc, List.take_of_length_le (by rw [List.length_drop]; omega)] at h0
    obtain ⟨a, hK, ha⟩ := h _ _ _ h0
    exact ⟨a, hK, fun hw => ha (fun m hm => hw m (by simpa [DataW.weightsEach] using hm))⟩
theorem opF_cons {off : Nat} {f : Field} {fs : List Field} {α β : Type} {d : Kd α} {S : α → Prop} {d' : Kd β} {S' : β → Prop} (ho : f.offset = off) (hc : P.cellsOf f.type = d.sz) (h : Opens enc P w base spare held f.type d S)
    (hr : OpF enc P w base spare held (off + d.sz) fs d' S') : OpF enc P w base spare held off (f :: fs) (Kd.pair d d') (fun p => S p.1 ∧ S' p.2) := by
  intro n cs ys hl hf hlen
  have hlen : cs.length = off + (d.sz + d'.sz) := hlen
  cases ys with
  | nil => simp at hl
  | cons y ys =>
    have h0 := hf 0 f rfl
    rw [ho, hc] at h0
    obtain ⟨a, hK, ha⟩ := h _ _ _ h0
    obtain ⟨b, hK', hb⟩ := hr n cs ys (by simpa using hl) (fun i g hg => hf (i + 1) g hg) (by omega)
    refine ⟨(a, b), ⟨_, _, ?_, hK, hK'⟩, fun hw => ⟨ha (fun m hm => hw m ?_), hb (fun m hm => hw m ?_)⟩⟩
    · rw [← List.drop_drop, List.take_append_drop]
    · simp only [List.map_cons, DataW.weightsEach, List.mem_append]; exact .inl hm
    · simp only [List.map_cons, DataW.weightsEach, List.mem_append]; exact .inr hm
theorem op_struct {t : TypeId} {fs : Array Field} {α : Type} {d : Kd α} {S : α → Prop} (ht : P.underlying t = some (.struct fs)) (hc : P.cellsOf t = d.sz) (h : OpF enc P w base spare held 0 fs.toList d S) : Opens enc P w base spare held t d S := by
  intro fuel cs x hx
  obtain ⟨xs, n, _, rfl, hl, hn, hf⟩ := DataW.trod_struct ht hx
  obtain ⟨a, hK, ha⟩ := h n cs xs (by simpa using hn) (fun i f hg => hf i f (by simpa using hg)) (by omega)
  refine ⟨a, by simpa using hK, fun hw => ha (fun m hm => hw m ?_)⟩
  simp only [DataW.weights, ht]
  exact hm
theorem weights_all {e : TypeId} {D : Nat → DataW H} : ∀ (l : List Nat) (i : Nat), i ∈ l → ∀ n ∈ (D i).weights P e, n ∈ DataW.weightsAll P e (l.map D)
  | [], _, h, _, _ => by cases h
  | j :: l, i, h, n, hn => by
    simp only [List.map_cons, DataW.weightsAll, List.mem_append]
    rcases List.mem_cons.1 h with rfl | h
    · exact .inl hn
    · exact .inr (weights_all l i h n hn)
theorem op_slice {t e : TypeId} {α : Type} {d : Kd α} {S : α → Prop} (e' : Nat) (ht : P.underlying t = some (.slice e)) (hc : P.cellsOf e = d.sz) (h : Opens enc P w base spare held e d S) :
    Opens enc P w base spare held t (Kd.slice e' d) (fun xs => xs.length * P.bytesOf e ≤ 140737488351232 ∧ ∀ x ∈ xs, S x) := by
  intro fuel cs x hx
  rcases open_slice ht hx with ⟨rfl, rfl⟩ | ⟨A, len, cap, m, n, D, Pl, rfl, _, hl, hm, hmm, rfl, hel⟩
  · exact ⟨[], ⟨none, 0, rfl, Nat.le_refl _, rfl, Nat.zero_le _, fun h => absurd h (Nat.lt_irrefl _)⟩, fun _ => ⟨by simp, by simp⟩⟩
  · have hle : len ≤ m := by rw [hmm]; split <;> omega
    have h1 : ∀ i, i < len → ∃ a, (∃ c, c.length = d.sz ∧ d.K w a c ∧ ∀ j u, c[j]? = some u → w.cell? (A.add (i * d.sz + j)) = some u) ∧ ((∀ n ∈ (D i).weights P e, n ≤ reachBytes) → S a) := by
      intro i hi
      obtain ⟨cs', h2, h3⟩ := hel i (by omega)
      obtain ⟨a, hK, ha⟩ := h _ _ _ h3
      refine ⟨a, ⟨cs', d.K_len hK, hK, fun j u hu => ?_⟩, ha⟩
      obtain ⟨_, h4, h5⟩ := World.cells?_some h2
      have hj : j < P.cellsOf e := by rw [← h4]; exact (List.getElem?_eq_some_iff.1 hu).1
      rw [← hc, ← add_add, h5 j hj, hu]
    by_cases hz : len = 0
    · subst hz
      refine ⟨[], ⟨some A, cap, rfl, hl, rfl, Nat.zero_le _, fun h => absurd h (Nat.lt_irrefl _)⟩, fun _ => ⟨by simp, by simp⟩⟩
    · obtain ⟨a0, _⟩ := h1 0 (by omega)
      haveI : Inhabited α := ⟨a0⟩
      obtain ⟨F, hF⟩ := choose_lt h1
      have hlen : ((List.range len).map F).length = len := by simp
      refine ⟨(List.range len).map F, ⟨some A, cap, by rw [hlen], by rw [hlen]; exact hl, ?_⟩, fun hw => ⟨?_, ?_⟩⟩
      · rw [hlen]
        refine ⟨hlen, by unfold maxLen at hm; omega, fun _ => ⟨A, rfl, fun j p hp => ?_⟩⟩
        have hj : j < len := by have := (List.getElem?_eq_some_iff.1 hp).1; rwa [hlen] at this
        obtain rfl : F j = p := by simpa [List.getElem?_map, List.getElem?_range hj] using hp
        exact (hF j hj).1
      · have h6 := hw ((len + (m - len)) * P.bytesOf e) (by simp [DataW.weights, ht])
        rw [hlen]
        have h7 : len * P.bytesOf e ≤ (len + (m - len)) * P.bytesOf e := Nat.mul_le_mul_right _ (by omega)
        have h8 : reachBytes = 140737488351232 := rfl
        omega
      · intro x hx
        obtain ⟨i, hi, rfl⟩ := List.mem_map.1 hx
        refine (hF i (List.mem_range.1 hi)).2 (fun n hn => hw n ?_)
        simp only [DataW.weights, ht, List.mem_cons, List.mem_append]
        exact .inr (.inl (weights_all _ i hi n hn))
/-- An argument, read. -/
theorem op_arg {ts : List TypeId} {ds : List (DataW H)} {t : TypeId} {α : Type} {d : Kd α} {S : α → Prop} (h : Opens enc P w base spare held t d S) (hz : (DataW.weightsEach P ts ds).all (· ≤ reachBytes) = true) {j : Nat} {v : Value} {y : DataW H} {ps : List MemPlace}
    (ht : ts[j]? = some t) (hd : ds[j]? = some y) (hv : DataW.Trod enc P w base spare held t v y ps) : ∃ a, d.K w a v.cells.toList ∧ S a := by
  obtain ⟨fuel, hf⟩ := hv
  obtain ⟨a, hK, ha⟩ := h _ _ _ hf
  exact ⟨a, hK, ha (fun n hn => by have := List.all_eq_true.1 hz n (DataW.weights_mem_each ht hd n hn); simpa using this)⟩
end
end Go.Proofs.Ytpnhkmicepmciaa.Rd

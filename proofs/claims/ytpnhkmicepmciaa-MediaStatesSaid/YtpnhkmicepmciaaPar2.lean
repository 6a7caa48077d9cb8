/- The session's own words: par_ with followers, and with facts that tie several values together: operations that only move values, and that need not have come up where the rest begins. Plain theorems; conditions: see par4_. -/
import Derived.Test.YtpnhkmicepmciaaPar
namespace Go.Proofs.Ytpnhkmicepmciaa.Par
open Go Go.Proofs.YtpnhkmicepmciaaW.PrintLast
section
variable {P : Program} {ops : Array Oper} {Q : Exit → Act → World → Prop}
/-- As parB; F: the followers; what is not of D waits for the others of D. -/
def parFB (ops : Array Oper) (D F : List Nat) (size : Nat) (l' : Array Bool) : Bool :=
  D.all (fun i => match ops[i]? with | some o => o.guard.isNone && o.after.all (fun e => !Region.binds .any e || (D.contains e.on && decide (e.on < i))) | none => false) &&
  (decide (D.filterMap (dstAt ops)).Nodup && ((D.filterMap (dstAt ops)).all (fun t => decide (t < size)) && (decide D.Nodup &&
  ((List.range ops.size).all (fun j => D.contains j || D.all (fun d => F.contains d || Region.reachB .any ops d ops.size j)) &&
  (l'.size == ops.size && ((List.range ops.size).all (fun j => l'.getD j false == D.contains j) &&
  (F.all D.contains && (F.all (fun i => match ops[i]? with | some o => (List.range ops.size).all (fun j => match ops[j]? with | some oj => ((j == i || oj.after.any (fun e => Region.binds .any e && e.on == i)) || Region.reachB .any ops j ops.size i) || o.apart ops oj | none => false) | none => false) && Region.noSelect ops))))))))
structure DInv (ops : Array Oper) (D C : List Nat) (J : Nat → World → Prop) (R : World → World → Prop) (Φ : Nat → (Nat → Value) → World → Prop) (a : Act) (w : World) (listed : Array Bool) (v : Nat → Value) (b : Act) (W : World) : Prop where
  size : listed.size = ops.size
  sub : ∀ j, listed.getD j false = true → j ∈ D
  closed : ListedClosed .any ops listed
  bsize : b.tmps.size = a.tmps.size
  defers : b.defers = a.defers
  got : ∀ j, listed.getD j false = true → ∀ t, dstAt ops j = some t → b.tmps[t]? = some (v j)
  other : ∀ t, t < a.tmps.size → (∀ j, listed.getD j false = true → dstAt ops j ≠ some t) → b.tmps[t]? = a.tmps[t]?
  rel : R w W
  fact : ∀ j, listed.getD j false = true → Φ j v W
  cnt : J (C.filter (fun j => listed.getD j false)).length W

def upd (v : Nat → Value) (i : Nat) (x : Value) : Nat → Value := fun k => if k = i then x else v k
theorem upd_at (v : Nat → Value) (i : Nat) (x : Value) : upd v i x i = x := by simp [upd]
theorem upd_ne {v : Nat → Value} {i k : Nat} {x : Value} (h : k ≠ i) : upd v i x k = v k := by simp [upd, h]
/-- A follower: it yields in every world. -/
def DFo (P : Program) (ops : Array Oper) (R : World → World → Prop) (Φ : Nat → (Nat → Value) → World → Prop) (D : List Nat) (a : Act) (w : World) (i : Nat) : Prop :=
  ∀ (o : Oper), ops[i]? = some o → ∀ (b : Act) (W : World) (v : Nat → Value), R w W →
    (∀ j t, dstAt ops j = some t → o.after.any (fun e => Region.binds .any e && e.on == j) = true → b.eval (.tmp t) = v j ∧ Φ j v W) →
    (∀ t, D.all (fun j => dstAt ops j != some t) = true → b.eval (.tmp t) = a.eval (.tmp t)) → ∃ x, (∀ w', (execOp b.eval o).run P w' = .ok (.value x) w') ∧ Φ i (upd v i x) W
/-- One operation, whatever came up before it; v: what the operations have yielded. -/
def DOk (P : Program) (ops : Array Oper) (Q : Exit → Act → World → Prop) (R : World → World → Prop) (Φ : Nat → (Nat → Value) → World → Prop) (D C : List Nat) (J : Nat → World → Prop) (a : Act) (w : World) (i : Nat) : Prop :=
  ∀ (o : Oper), ops[i]? = some o → ∀ (b : Act) (W : World) (v : Nat → Value) (n : Nat), J n W → n + (if C.contains i then 1 else 0) ≤ C.length → R w W →
    (∀ j t, dstAt ops j = some t → o.after.any (fun e => Region.binds .any e && e.on == j) = true → b.eval (.tmp t) = v j ∧ Φ j v W) →
    (∀ t, D.all (fun j => dstAt ops j != some t) = true → b.eval (.tmp t) = a.eval (.tmp t)) →
    Oper.wp P o b W (fun b' W' => ∃ x, b' = b.put o.dst x ∧ R W W' ∧ Φ i (upd v i x) W' ∧ J (n + if C.contains i then 1 else 0) W') Q
theorem par4_go {D C F : List Nat} {J : Nat → World → Prop} {R : World → World → Prop} {Φ : Nat → (Nat → Value) → World → Prop} {a : Act} {w : World} {l' : Array Bool} (hc : parFB ops D F a.tmps.size l' = true) (hQ : ∀ (c : List PanicEntry) (a : Act) (w : World) (d : Option Tmp) (v : Value), Q (.panic c) (a.put d v) w → Q (.panic c) a w) (hCF : ∀ i ∈ F, C.contains i = false) (hr : ∀ W, R W W) (hCn : C.Nodup) (hCD : ∀ j ∈ C, j ∈ D)
    (ht : ∀ W1 W2 W3, R W1 W2 → R W2 W3 → R W1 W3) (hs : ∀ i v W W', Φ i v W → R W W' → Φ i v W') (hdep : ∀ i v v' W, (∀ j, (j == i || Region.reachB .any ops j ops.size i) = true → v j = v' j) → Φ i v W → Φ i v' W)
    (hop : ∀ i ∈ D, i ∉ F → DOk P ops Q R Φ D C J a w i) (hfo : ∀ i ∈ F, DFo P ops R Φ D a w i) (f : Nat)
    (hend : ∀ (v : Nat → Value) (W : World), R w W → (∀ i ∈ D, Φ i v W) → J C.length W → wpAny P .any ops Q f l' (fillL ops v D a) W) :
    ∀ (todo : Nat) (listed : Array Bool) (v : Nat → Value) (b : Act) (W : World), (D.filter (fun j => !listed.getD j false)).length = todo → DInv ops D C J R Φ a w listed v b W →
      wpAny P .any ops Q (todo + f) listed b W := by
  simp only [parFB, Bool.and_eq_true, decide_eq_true_eq, beq_iff_eq] at hc
  obtain ⟨c1, c2, c3, c4, c5, c6, c7, c8, c9, c10⟩ := hc
  have hD : ∀ i ∈ D, ∃ o, ops[i]? = some o ∧ o.guard = none ∧ ∀ e ∈ o.after, Region.binds .any e = true → e.on ∈ D ∧ e.on < i := fun i hi => by
    have h := List.all_eq_true.1 c1 i hi
    cases ho : ops[i]? with
    | none => rw [ho] at h; cases h
    | some o =>
      rw [ho] at h
      simp only [Bool.and_eq_true, Option.isNone_iff_eq_none] at h
      refine ⟨o, rfl, h.1, fun e he hb => ?_⟩
      have h2 := Array.all_eq_true_iff_forall_mem.1 h.2 e he
      simpa [hb] using h2
  have hlt : ∀ i ∈ D, i < ops.size := fun i hi => by obtain ⟨o, ho, _⟩ := hD i hi; exact (Array.getElem?_eq_some_iff.1 ho).1
  have huniq : ∀ i ∈ D, ∀ j ∈ D, ∀ t, dstAt ops i = some t → dstAt ops j = some t → j = i := by
    intro i hi j hj t h1 h2
    have key : ∀ (l : List Nat), (l.filterMap (dstAt ops)).Nodup → l.Nodup → i ∈ l → j ∈ l → j = i := by
      intro l
      induction l with
      | nil => intro _ _ h; cases h
      | cons x r ih =>
        intro hn hn2 hi hj
        rcases List.mem_cons.1 hi with rfl | hi' <;> rcases List.mem_cons.1 hj with rfl | hj'
        · rfl
        · rw [List.filterMap_cons, h1] at hn
          exact absurd (List.mem_filterMap.2 ⟨j, hj', h2⟩) (List.nodup_cons.1 hn).1
        · rw [List.filterMap_cons, h2] at hn
          exact absurd (List.mem_filterMap.2 ⟨i, hi', h1⟩) (List.nodup_cons.1 hn).1
        · refine ih ?_ (List.nodup_cons.1 hn2).2 hi' hj'
          rw [List.filterMap_cons] at hn
          split at hn
          · exact hn
          · exact (List.nodup_cons.1 hn).2
    exact key D c2 c4 hi hj
  intro todo
  induction todo with
  | zero =>
    intro listed v b W h0 I
    have hall : ∀ j ∈ D, listed.getD j false = true := fun j hj => by
      have h1 : D.filter (fun j => !listed.getD j false) = [] := List.eq_nil_of_length_eq_zero h0
      have h2 := List.filter_eq_nil_iff.1 h1 j hj
      simpa using h2
    have hl : listed = l' := by
      apply Array.ext (by rw [I.size, c6])
      intro j hj1 hj2
      have h1 := List.all_eq_true.1 c7 j (List.mem_range.2 (by rw [← I.size]; exact hj1))
      have e1 : listed[j] = listed.getD j false := by simp [hj1]
      have e2 : l'[j] = l'.getD j false := by simp [hj2]
      rw [e1, e2, beq_iff_eq.1 h1]
      by_cases hm : j ∈ D
      · rw [hall j hm]; simp [hm]
      · cases hg : listed.getD j false with
        | true => exact absurd (I.sub j hg) hm
        | false => simp [hm]
    have hb : b = fillL ops v D a := by
      refine act_ext (Array.ext (by rw [I.bsize, fill_size]) fun t h1 h2 => ?_) (by rw [I.defers, fill_defers])
      have ht : t < a.tmps.size := by rw [← I.bsize]; exact h1
      have hg : b.tmps[t]? = (fillL ops v D a).tmps[t]? := by
        by_cases hx : ∃ j ∈ D, dstAt ops j = some t
        · obtain ⟨j, hj, hd⟩ := hx
          rw [I.got j (hall j hj) t hd, fill_at v t j hd D a ht hj (fun k hk hd' => huniq j hj k hk t hd hd')]
        · rw [I.other t ht (fun j hj hd => hx ⟨j, I.sub j hj, hd⟩), fill_other v t D a ht (fun j hj hd => hx ⟨j, hj, hd⟩)]
      simpa [h1, h2] using hg
    rw [Nat.zero_add, hl, hb]
    refine hend v W I.rel (fun i hi => I.fact i (hall i hi)) ?_
    have hCl : C.filter (fun j => l'.getD j false) = C := List.filter_eq_self.2 (fun j hj => by rw [← hl]; exact hall j (hCD j hj))
    have := I.cnt
    rw [hl, hCl] at this
    exact this
  | succ todo ih =>
    intro listed v b W h0 I
    rw [Nat.succ_add]
    -- an element of D that is not listed
    have hun : ∃ j ∈ D, listed.getD j false = false := by
      cases hf : D.filter (fun j => !listed.getD j false) with
      | nil => rw [hf] at h0; cases h0
      | cons x r =>
        have hx : x ∈ D.filter (fun j => !listed.getD j false) := by rw [hf]; exact List.mem_cons_self ..
        obtain ⟨h1, h2⟩ := List.mem_filter.1 hx
        exact ⟨x, h1, by simpa using h2⟩
    have hmin : ∀ n j, j < n → j ∈ D → listed.getD j false = false → ∃ i ∈ D, i ∈ Region.ready .any ops listed := by
      intro n
      induction n with
      | zero => intro j h; omega
      | succ n ihn =>
        intro j hj hjD hjl
        obtain ⟨o, ho, hg, hdep⟩ := hD j hjD
        by_cases hx : ∃ e ∈ o.after, Region.binds .any e = true ∧ listed.getD e.on false = false
        · obtain ⟨e, he, hb, hl⟩ := hx
          exact ihn e.on (by have := (hdep e he hb).2; omega) (hdep e he hb).1 hl
        · refine ⟨j, hjD, mem_ready.2 ⟨?_, o, ho, fun e he hb => ?_⟩⟩
          · have : j < listed.size := by rw [I.size]; exact hlt j hjD
            simpa [this] using hjl
          · cases hl : listed.getD e.on false with
            | true => rfl
            | false => exact absurd ⟨e, he, hb, hl⟩ hx
    have step : ∀ i o x W', i ∈ Region.ready .any ops listed → i ∈ D → ops[i]? = some o → R W W' → Φ i (upd v i x) W' → J ((C.filter (fun j => listed.getD j false)).length + if C.contains i then 1 else 0) W' → wpAny P .any ops Q (todo + f) (listed.setIfInBounds i true) (b.put o.dst x) W' := by
      intro i o x W' hi hiD ho hR hΦ hJ
      obtain ⟨hiun, _, _, _⟩ := mem_ready.1 hi
      have hil : i < ops.size := (Array.getElem?_eq_some_iff.1 ho).1
      have hiun' : listed.getD i false = false := by
        have : i < listed.size := by rw [I.size]; exact hil
        simpa [this] using hiun
      have hkk : ∀ (l : List Nat), l.Nodup → (l.filter (fun j => (listed.setIfInBounds i true).getD j false)).length = (l.filter (fun j => listed.getD j false)).length + (if l.contains i then 1 else 0) := by
        have hset : ∀ j, (listed.setIfInBounds i true).getD j false = if j = i then true else listed.getD j false := fun j => by
          rw [Array.getD_eq_getD_getElem?, Array.getD_eq_getD_getElem?, Array.getElem?_setIfInBounds]
          have : i < listed.size := by rw [I.size]; exact hil
          by_cases hij : i = j
          · subst hij; simp [this]
          · simp [hij, Ne.symm hij]
        intro l
        induction l with
        | nil => intro _; simp
        | cons y r ihl =>
          intro hn
          have hn' := List.nodup_cons.1 hn
          have h1 := ihl hn'.2
          rw [List.filter_cons, List.filter_cons, hset y]
          by_cases hy : y = i
          · subst hy
            have hr : r.contains y = false := by simpa using hn'.1
            rw [hr] at h1
            simp only [hiun', if_true, List.contains_cons, beq_self_eq_true, Bool.true_or, List.length_cons]
            simp at h1
            simp [h1]
          · have hc1 : (y :: r).contains i = r.contains i := by
              rw [List.contains_cons, beq_eq_false_iff_ne.2 (fun h => hy h.symm), Bool.false_or]
            rw [if_neg hy, hc1]
            split
            · simp only [List.length_cons]; omega
            · exact h1
      have hset : ∀ j, (listed.setIfInBounds i true).getD j false = true ↔ j = i ∨ listed.getD j false = true := fun j => by
        rw [Array.getD_eq_getD_getElem?, Array.getD_eq_getD_getElem?, Array.getElem?_setIfInBounds]
        have : i < listed.size := by rw [I.size]; exact hil
        by_cases hij : i = j
        · subst hij; simp [this]
        · simp [hij, Ne.symm hij]
      refine ih (listed.setIfInBounds i true) (upd v i x) _ W' ?_ ?_
      · have hcount : ∀ (l : List Nat), l.Nodup → i ∈ l → (l.filter (fun j => !listed.getD j false)).length = (l.filter (fun j => !(listed.setIfInBounds i true).getD j false)).length + 1 := by
          intro l
          induction l with
          | nil => intro _ h; cases h
          | cons y r ihl =>
            intro hn hm
            have hn' := List.nodup_cons.1 hn
            by_cases hy : y = i
            · subst hy
              have e1 : (!listed.getD y false) = true := by rw [hiun']; rfl
              have e2 : (!(listed.setIfInBounds y true).getD y false) = false := by rw [(hset y).2 (Or.inl rfl)]; rfl
              rw [List.filter_cons, List.filter_cons, e1, e2]
              simp only [if_true, List.length_cons, Bool.false_eq_true, if_false, Nat.add_right_cancel_iff]
              congr 1
              apply List.filter_congr
              intro k hk
              have hki : k ≠ y := fun h => hn'.1 (h ▸ hk)
              cases h1 : listed.getD k false with
              | true => rw [(hset k).2 (Or.inr h1)]
              | false =>
                cases h2 : (listed.setIfInBounds y true).getD k false with
                | false => rfl
                | true =>
                  rcases (hset k).1 h2 with h3 | h3
                  · exact absurd h3 hki
                  · rw [h1] at h3; cases h3
            · have hm' : i ∈ r := (List.mem_cons.1 hm).resolve_left (fun h => hy h.symm)
              have e1 : (listed.setIfInBounds i true).getD y false = listed.getD y false := by
                cases h1 : listed.getD y false with
                | true => exact (hset y).2 (Or.inr h1)
                | false =>
                  cases h2 : (listed.setIfInBounds i true).getD y false with
                  | false => rfl
                  | true =>
                    rcases (hset y).1 h2 with h3 | h3
                    · exact absurd h3 hy
                    · rw [h1] at h3; cases h3
              rw [List.filter_cons, List.filter_cons, e1]
              have := ihl hn'.2 hm'
              split
              · simp only [List.length_cons]; omega
              · exact this
        have := hcount D c4 hiD
        omega
      · have hds : ∀ j, listed.getD j false = true → ∀ t, dstAt ops j = some t → dstAt ops i ≠ some t := fun j hj t h1 h2 => by
          have := huniq i hiD j (I.sub j hj) t h2 h1
          rw [this, hiun'] at hj
          cases hj
        have hdst : dstAt ops i = o.dst := by unfold dstAt; rw [ho]; rfl
        have htl : ∀ j ∈ D, ∀ t, dstAt ops j = some t → t < a.tmps.size := fun j hj t hd => by
          have := List.all_eq_true.1 c3 t (List.mem_filterMap.2 ⟨j, hj, hd⟩)
          simpa using this
        refine ⟨by simp [I.size], fun j hj => ?_, I.closed.set hi, by rw [put_size, I.bsize], by rw [put_defers, I.defers], fun j hj t hd => ?_, fun t ht hno => ?_, ht _ _ _ I.rel hR, fun j hj => ?_, by rw [hkk C hCn]; exact hJ⟩
        · rcases (hset j).1 hj with h | h
          · rw [h]; exact hiD
          · exact I.sub j h
        · rcases (hset j).1 hj with h | h
          · subst h
            rw [put_get _ _ _ _ (by rw [I.bsize]; exact htl j hiD t hd), ← hdst, if_pos hd, upd_at]
          · have hji : j ≠ i := fun e => by rw [e, hiun'] at h; cases h
            rw [put_get _ _ _ _ (by rw [I.bsize]; exact htl j (I.sub j h) t hd), ← hdst, if_neg (hds j h t hd), I.got j h t hd, upd_ne hji]
        · rw [put_get _ _ _ _ (by rw [I.bsize]; exact ht), ← hdst, if_neg (hno i ((hset i).2 (Or.inl rfl)))]
          exact I.other t ht (fun j hj => hno j ((hset j).2 (Or.inr hj)))
        · rcases (hset j).1 hj with h | h
          · subst h
            exact hΦ
          · have hji : j ≠ i := fun e => by rw [e, hiun'] at h; cases h
            refine hdep j v _ _ (fun k hk => ?_) (hs _ _ _ _ (I.fact j h) hR)
            have hkl : listed.getD k false = true := by
              rcases Bool.or_eq_true_iff.1 hk with h1 | h1
              · rw [beq_iff_eq.1 h1]; exact h
              · obtain ⟨oj, hoj, _⟩ := hD j (I.sub j h)
                exact Region.reach_listed I.closed _ _ h1 h
            have hki : k ≠ i := fun e => by rw [e, hiun'] at hkl; cases hkl
            rw [upd_ne hki]
    by_cases hFo : ∃ i ∈ F, i ∈ Region.ready .any ops listed
    · obtain ⟨i, hiF, hi⟩ := hFo
      obtain ⟨hiun, o, ho, hall⟩ := mem_ready.1 hi
      have hiD : i ∈ D := by have := List.all_eq_true.1 c8 i hiF; simpa using this
      have hiC : C.contains i = false := by exact hCF i hiF
      obtain ⟨o2, ho2, hg, hdep⟩ := hD i hiD
      obtain rfl : o = o2 := Option.some.inj (ho.symm.trans ho2)
      have hgetD : ∀ (t : Tmp) (x : Value), b.tmps[t]? = some x → b.eval (.tmp t) = x := fun t x h => by
        show b.tmps.getD t undef = x
        rw [Array.getD_eq_getD_getElem?, h]
        rfl
      obtain ⟨x, hrun, hΦ⟩ := hfo i hiF o ho b W v I.rel
        (fun j t hd he => by
          obtain ⟨e, hea, h1⟩ := Array.any_eq_true'.1 he
          simp only [Bool.and_eq_true, beq_iff_eq] at h1
          have hl := hall e hea h1.1
          rw [h1.2] at hl
          exact ⟨hgetD t _ (I.got j hl t hd), I.fact j hl⟩)
        (fun t h => by
          show b.tmps.getD t undef = a.tmps.getD t undef
          rw [Array.getD_eq_getD_getElem?, Array.getD_eq_getD_getElem?]
          rcases Nat.lt_or_ge t a.tmps.size with ht | ht
          · rw [I.other t ht (fun j hj hd => by have h1 := List.all_eq_true.1 h j (I.sub j hj); simp [hd] at h1)]
          · rw [Array.getElem?_eq_none (by rw [I.bsize]; exact ht), Array.getElem?_eq_none ht])
      refine wpAny_first ho (Region.noSelect_spec c10) (fun c a w h => hQ c a w _ _ h) _ _ _ _ ?_ hi (Or.inl ⟨by simp only [Region.wanted, hg], hrun⟩) (step i o x W hi hiD ho (hr W) hΦ (by rw [hiC]; exact I.cnt))
      intro j oj hoj hji hjl hno
      have h9 := List.all_eq_true.1 c9 i hiF
      rw [ho] at h9
      have h10 := List.all_eq_true.1 h9 j (List.mem_range.2 (Array.getElem?_eq_some_iff.1 hoj).1)
      rw [hoj] at h10
      simp only [Bool.or_eq_true, beq_iff_eq] at h10
      rcases h10 with ((h11 | h11) | h11) | h11
      · exact absurd h11 hji
      · obtain ⟨e, hea, h12⟩ := Array.any_eq_true'.1 h11
        simp only [Bool.and_eq_true, beq_iff_eq] at h12
        exact absurd h12.2 (hno e hea h12.1)
      · have h13 := waits_listed I.closed hi h11
        rw [Array.getD_eq_getD_getElem?] at h13 hjl
        cases h14 : listed[j]? with
        | none => rw [h14] at h13; cases h13
        | some q => rw [h14] at h13 hjl; simp at h13 hjl; rw [h13] at hjl; cases hjl
      · exact h11
    refine ⟨fun hnil => ?_, fun i hi => ?_⟩
    · obtain ⟨j, hj, hjl⟩ := hun
      obtain ⟨i, _, hi⟩ := hmin (j + 1) j (by omega) hj hjl
      rw [hnil] at hi
      cases hi
    · obtain ⟨hiun, o, ho, hall⟩ := mem_ready.1 hi
      have hil : i < ops.size := (Array.getElem?_eq_some_iff.1 ho).1
      have hiF : i ∉ F := fun h => hFo ⟨i, h, hi⟩
      have hiD : i ∈ D := by
        have h1 := List.all_eq_true.1 c5 i (List.mem_range.2 hil)
        rcases Bool.or_eq_true_iff.1 h1 with h2 | h2
        · simpa using h2
        · exfalso
          have hnf : ∀ j ∈ D, j ∉ F → listed.getD j false = true := fun j hj hjF => waits_listed I.closed hi (by have h3 := List.all_eq_true.1 h2 j hj; simpa [hjF] using h3)
          obtain ⟨j, hj, hjl⟩ := hun
          obtain ⟨m, hm, hmr⟩ := hmin (j + 1) j (by omega) hj hjl
          by_cases hmF : m ∈ F
          · exact hFo ⟨m, hmF, hmr⟩
          · have hml : m < listed.size := by rw [I.size]; exact hlt m hm
            have h4 := (mem_ready.1 hmr).1
            have h5 := hnf m hm hmF
            simp [hml] at h4 h5
            rw [h5] at h4
            cases h4
      have hiun' : listed.getD i false = false := by
        have : i < listed.size := by rw [I.size]; exact hil
        simpa [this] using hiun
      obtain ⟨o2, ho2, hg, hdep⟩ := hD i hiD
      obtain rfl : o = o2 := Option.some.inj (ho.symm.trans ho2)
      have hgetD : ∀ (t : Tmp) (x : Value), b.tmps[t]? = some x → b.eval (.tmp t) = x := fun t x h => by
        show b.tmps.getD t undef = x
        rw [Array.getD_eq_getD_getElem?, h]
        rfl
      have hle : (C.filter (fun j => listed.getD j false)).length + (if C.contains i then 1 else 0) ≤ C.length := by
        split
        · rename_i hci
          have hlt2 : (C.filter (fun j => listed.getD j false)).length < C.length := by
            have hmem : i ∈ C := by simpa using hci
            refine Nat.lt_of_le_of_ne (List.length_filter_le _ _) (fun he => ?_)
            have := List.length_filter_eq_length_iff.1 he i hmem
            rw [hiun'] at this
            cases this
          omega
        · exact List.length_filter_le _ _
      have hwp := hop i hiD hiF o ho b W v _ I.cnt hle I.rel
        (fun j t hd he => by
          obtain ⟨e, hea, h1⟩ := Array.any_eq_true'.1 he
          simp only [Bool.and_eq_true, beq_iff_eq] at h1
          have hl := hall e hea h1.1
          rw [h1.2] at hl
          exact ⟨hgetD t _ (I.got j hl t hd), I.fact j hl⟩)
        (fun t h => by
          show b.tmps.getD t undef = a.tmps.getD t undef
          rw [Array.getD_eq_getD_getElem?, Array.getD_eq_getD_getElem?]
          rcases Nat.lt_or_ge t a.tmps.size with ht | ht
          · rw [I.other t ht (fun j hj hd => by have h1 := List.all_eq_true.1 h j (I.sub j hj); simp [hd] at h1)]
          · rw [Array.getElem?_eq_none (by rw [I.bsize]; exact ht), Array.getElem?_eq_none ht])
      unfold wpOp
      rw [ho]
      simp only [Region.wanted, hg, if_true]
      refine Or.inl (Oper.wp_mono (fun b' W' h => ?_) hwp)
      obtain ⟨x, rfl, hR, hΦ, hJ⟩ := h
      exact step i o x W' hi hiD ho hR hΦ hJ
/-- A region that draws its order: every operation of D for itself (DOk), in whatever order; then what waits for all of D. R: how the world may turn (R w w, transitive); Φ: what is known of each operation's value, and stays known. -/
theorem par4_ {id n : Nat} {a : Act} {w : World} (E : List (Nat × Option Tmp)) (F C : List Nat) (J : Nat → World → Prop) (l' : Array Bool) (f : Nat) (R : World → World → Prop) (Φ : Nat → (Nat → Value) → World → Prop) (hm : P.follows .mixedOrders = true) (hn : ops.size = n)
    (hc : (parFB ops (E.map (·.1)) F a.tmps.size l' && (decide C.Nodup && (F.all (fun i => !C.contains i) && (C.all (E.map (·.1)).contains && ((E.map (·.1)).length + f == n && (E.map (·.1)).map (fun j => (j, dstAt ops j)) == E))))) = true) (hQ : ∀ (c : List PanicEntry) (a : Act) (w : World) (d : Option Tmp) (v : Value), Q (.panic c) (a.put d v) w → Q (.panic c) a w) (hr : ∀ W, R W W)
    (ht : ∀ W1 W2 W3, R W1 W2 → R W2 W3 → R W1 W3) (hs : ∀ i v W W', Φ i v W → R W W' → Φ i v W') (hdep : ∀ i v v' W, (∀ j, (j == i || Region.reachB .any ops j ops.size i) = true → v j = v' j) → Φ i v W → Φ i v' W) (hJ : J 0 w.drew)
    (hop : ∀ i ∈ E.map (·.1), i ∉ F → DOk P ops Q R Φ (E.map (·.1)) C J a w.drew i) (hfo : ∀ i ∈ F, DFo P ops R Φ (E.map (·.1)) a w.drew i)
    (hend : ∀ (v : Nat → Value) (W : World), R w.drew W → (∀ i ∈ E.map (·.1), Φ i v W) → J C.length W → wpAnyLast P .any ops Q (fun _ => True) [] f l' (fillE v E a) W) : (Code.region id ops true).wp P Q a w := by
  subst hn
  simp only [Bool.and_eq_true, beq_iff_eq, decide_eq_true_eq] at hc
  obtain ⟨hc, hCn, hCF, hCD, hl, hE⟩ := hc
  have hend' : ∀ (v : Nat → Value) (W : World), R w.drew W → (∀ i ∈ E.map (·.1), Φ i v W) → J C.length W → wpAnyLast P .any ops Q (fun _ => True) [] f l' (fillL ops v (E.map (·.1)) a) W := fun v W h1 h2 h3 => by
    rw [fillE_eq, hE]
    exact hend v W h1 h2 h3
  clear hend
  revert hc hCD hl hop hfo hend'
  generalize E.map (·.1) = D
  intro hop hfo hc hCD hl hend
  refine wp_region_any hm ?_
  rw [← hl]
  have hD : D.filter (fun j => !(Array.replicate ops.size false).getD j false) = D := by
    apply List.filter_eq_self.2
    intro j _
    simp [Array.getD_eq_getD_getElem?, Array.getElem?_replicate]
    split <;> simp
  have h0 : ∀ j, ¬ (Array.replicate ops.size false).getD j false = true := fun j => by
    rw [Array.getD_eq_getD_getElem?, Array.getElem?_replicate]
    split <;> simp
  have hC0 : C.filter (fun j => (Array.replicate ops.size false).getD j false) = [] := List.filter_eq_nil_iff.2 (fun j _ => h0 j)
  refine hl ▸ hl ▸ (par4_go (w := w.drew) hc hQ (fun i hi => by have := List.all_eq_true.1 hCF i hi; simpa using this) hr hCn (fun j hj => by simpa using List.all_eq_true.1 hCD j hj) ht hs hdep hop hfo f (fun v W h1 h2 h3 => wpAny_of_last _ _ _ _ (hend v W h1 h2 h3)) D.length (Array.replicate ops.size false) (fun _ => undef) a w.drew (by rw [hD]) ?_)
  exact ⟨by simp, fun j h => absurd h (h0 j), fun j oj _ h => absurd h (h0 j), rfl, rfl, fun j h => absurd h (h0 j), fun t _ _ => rfl, hr _, fun j h => absurd h (h0 j), by rw [hC0]; exact hJ⟩
/-- An operation that yields a value. -/
theorem d_value {o : Oper} {b : Act} {W W' : World} {R : World → World → Prop} {Φ : Nat → (Nat → Value) → World → Prop} {i : Nat} {v : Nat → Value} {x : Value} (hrun : (execOp b.eval o).run P W = .ok (.value x) W') (hR : R W W') (hΦ : Φ i (upd v i x) W') {J : World → Prop} (hJ : J W') :
    Oper.wp P o b W (fun b' W' => ∃ x, b' = b.put o.dst x ∧ R W W' ∧ Φ i (upd v i x) W' ∧ J W') Q := by
  unfold Oper.wp
  rw [hrun]
  exact ⟨x, rfl, hR, hΦ, hJ⟩
/-- A call of a Go function, by its contract. -/
theorem d_call {o : Oper} {b : Act} {W : World} {R : World → World → Prop} {Φ : Nat → (Nat → Value) → World → Prop} {J : World → Prop} {i : Nat} {v : Nat → Value} {f : FuncId} {fn : Func} {as : Array Operand} {ts : Array TypeId} (hf : P.funcs[f]? = some fn) (hname : (fn.name == "runtime.NumGoroutine") = false) (hb : fn.body.isSome = true) (args : Array Value)
    (hop : o.op = .call { callee := .value (.func f), args := as, argTypes := ts }) (hargs : as.map b.eval = args)
    (h : Calls P f args W fun e W' => ∃ x, e = .returned x ∧ R W W' ∧ Φ i (upd v i x) W' ∧ J W') : Oper.wp P o b W (fun b' W' => ∃ x, b' = b.put o.dst x ∧ R W W' ∧ Φ i (upd v i x) W' ∧ J W') Q := by
  have he := enters_ hf hname hb args W
  have hrun : (execOp b.eval o).run P W = .ok (.enter f args) W := by
    unfold execOp
    simp [hop, resolve, Deferred.ofValue, invoke, Act.eval, hargs, he]
  unfold Oper.wp
  rw [hrun, Oper.upon_enter]
  refine h.mono fun e w'' hh => ?_
  obtain ⟨x, rfl, hk⟩ := hh
  exact ⟨x, rfl, hk⟩
end
end Go.Proofs.Ytpnhkmicepmciaa.Par

/- A part of this claim's walks: functions' contracts, or plain lemmas; conditions: each one's own. -/
import Derived.Test.YtpnhkmicepmciaaBase
namespace Go.Proofs.Ytpnhkmicepmciaa.Par
open Go Go.Proofs.YtpnhkmicepmciaaW.PrintLast
section
variable {P : Program} {ops : Array Oper} {Q : Exit → Act → World → Prop}
def dstAt (ops : Array Oper) (j : Nat) : Option Tmp := (ops[j]?).bind (·.dst)
def fillL (ops : Array Oper) (v : Nat → Value) : List Nat → Act → Act
 | [], a => a
 | j :: r, a => fillL ops v r (a.put (dstAt ops j) (v j))
theorem put_get (a : Act) (d : Option Tmp) (x : Value) (t : Tmp) (ht : t < a.tmps.size) : (a.put d x).tmps[t]? = if d = some t then some x else a.tmps[t]? := by
 cases d with
 | none => simp [Act.put]
 | some k =>
  simp only [Act.put, Option.some.injEq, Array.getElem?_setIfInBounds]
  by_cases h : k = t
  ·subst h; simp [ht]
  ·simp [h]
theorem put_size (a : Act) (d : Option Tmp) (x : Value) : (a.put d x).tmps.size = a.tmps.size := by cases d <;> simp [Act.put]
theorem put_defers (a : Act) (d : Option Tmp) (x : Value) : (a.put d x).defers = a.defers := by cases d <;> simp [Act.put]
theorem fill_size (v : Nat → Value) : ∀ (l : List Nat) (a : Act), (fillL ops v l a).tmps.size = a.tmps.size
 | [], _ => rfl
 | j :: r, a => by rw [fillL, fill_size v r, put_size]
theorem fill_defers (v : Nat → Value) : ∀ (l : List Nat) (a : Act), (fillL ops v l a).defers = a.defers
 | [], _ => rfl
 | j :: r, a => by rw [fillL, fill_defers v r, put_defers]
theorem fill_other (v : Nat → Value) (t : Tmp) : ∀ (l : List Nat) (a : Act), t < a.tmps.size → (∀ j ∈ l, dstAt ops j ≠ some t) → (fillL ops v l a).tmps[t]? = a.tmps[t]?
 | [], _, _, _ => rfl
 | j :: r, a, ht, h => by
  rw [fillL, fill_other v t r _ (by rw [put_size]; exact ht) (fun k hk => h k (List.mem_cons_of_mem _ hk)), put_get _ _ _ _ ht, if_neg (h j (List.mem_cons_self ..))]
theorem fill_at (v : Nat → Value) (t : Tmp) (i : Nat) (hi : dstAt ops i = some t) : ∀ (l : List Nat) (a : Act), t < a.tmps.size → i ∈ l → (∀ j ∈ l, dstAt ops j = some t → j = i) → (fillL ops v l a).tmps[t]? = some (v i)
 | [], _, _, h, _ => by cases h
 | j :: r, a, ht, hm, hu => by
  rw [fillL]
  by_cases hr : i ∈ r
  ·exact fill_at v t i hi r _ (by rw [put_size]; exact ht) hr (fun k hk => hu k (List.mem_cons_of_mem _ hk))
  ·have hj : i = j := (List.mem_cons.1 hm).resolve_right hr
   subst hj
   rw [fill_other v t r _ (by rw [put_size]; exact ht) (fun k hk hd => hr (by rw [← hu k (List.mem_cons_of_mem _ hk) hd]; exact hk)), put_get _ _ _ _ ht, if_pos hi]
theorem act_ext {a b : Act} (h1 : a.tmps = b.tmps) (h2 : a.defers = b.defers) : a = b := by cases a; cases b; simp_all
theorem waits_listed {listed : Array Bool} (hc : ListedClosed .any ops listed) {i d : Nat} (hi : i ∈ Region.ready .any ops listed) (hr : Region.reachB .any ops d ops.size i = true) : listed.getD d false = true := by
 obtain ⟨_, o, ho, hall⟩ := mem_ready.1 hi
 cases hn : ops.size with
 | zero => rw [hn] at hr; simp [Region.reachB] at hr
 | succ n =>
  rw [hn] at hr
  unfold Region.reachB at hr
  rw [ho] at hr
  obtain ⟨e, he, h1⟩ := Array.any_eq_true'.1 hr
  simp only [Bool.and_eq_true, Bool.or_eq_true, beq_iff_eq] at h1
  have hle := hall e he h1.1
  rcases h1.2 with h2 | h2
  ·rw [← h2]; exact hle
  ·exact Region.reach_listed hc n e.on h2 hle
def parB (ops : Array Oper) (D : List Nat) (size : Nat) (l' : Array Bool) : Bool :=
 D.all (fun i => match ops[i]? with | some o => o.guard.isNone && o.after.all (fun e => !Region.binds .any e || (D.contains e.on && decide (e.on < i))) | none => false) &&
 (decide (D.filterMap (dstAt ops)).Nodup && ((D.filterMap (dstAt ops)).all (fun t => decide (t < size)) && (decide D.Nodup &&
 ((List.range ops.size).all (fun j => D.contains j || D.all (fun d => Region.reachB .any ops d ops.size j)) &&
 (l'.size == ops.size && (List.range ops.size).all (fun j => l'.getD j false == D.contains j))))))
structure ParInv (ops : Array Oper) (D C : List Nat) (J : Nat → World → Prop) (R : World → World → Prop) (Φ : Nat → Value → World → Prop) (a : Act) (w : World) (listed : Array Bool) (v : Nat → Value) (b : Act) (W : World) : Prop where
 size : listed.size = ops.size
 sub : ∀ j, listed.getD j false = true → j ∈ D
 closed : ListedClosed .any ops listed
 bsize : b.tmps.size = a.tmps.size
 defers : b.defers = a.defers
 got : ∀ j, listed.getD j false = true → ∀ t, dstAt ops j = some t → b.tmps[t]? = some (v j)
 other : ∀ t, t < a.tmps.size → (∀ j, listed.getD j false = true → dstAt ops j ≠ some t) → b.tmps[t]? = a.tmps[t]?
 rel : R w W
 fact : ∀ j, listed.getD j false = true → Φ j (v j) W
 cnt : J (C.filter (fun j => listed.getD j false)).length W
def OpOk (P : Program) (ops : Array Oper) (Q : Exit → Act → World → Prop) (R : World → World → Prop) (Φ : Nat → Value → World → Prop) (D C : List Nat) (J : Nat → World → Prop) (a : Act) (w : World) (i : Nat) : Prop :=
 ∀ (o : Oper), ops[i]? = some o → ∀ (b : Act) (W : World) (n : Nat), J n W → n + (if C.contains i then 1 else 0) ≤ C.length → R w W →
  (∀ j t, dstAt ops j = some t → o.after.any (fun e => Region.binds .any e && e.on == j) = true → Φ j (b.eval (.tmp t)) W) →
  (∀ t, D.all (fun j => dstAt ops j != some t) = true → b.eval (.tmp t) = a.eval (.tmp t)) →
  Oper.wp P o b W (fun b' W' => ∃ x, b' = b.put o.dst x ∧ R W W' ∧ Φ i x W' ∧ J (n + if C.contains i then 1 else 0) W') Q
theorem par_go {D C : List Nat} {J : Nat → World → Prop} {R : World → World → Prop} {Φ : Nat → Value → World → Prop} {a : Act} {w : World} {l' : Array Bool} (hc : parB ops D a.tmps.size l' = true) (hCn : C.Nodup) (hCD : ∀ j ∈ C, j ∈ D)
  (ht : ∀ W1 W2 W3, R W1 W2 → R W2 W3 → R W1 W3) (hs : ∀ i x W W', Φ i x W → R W W' → Φ i x W')
  (hop : ∀ i ∈ D, OpOk P ops Q R Φ D C J a w i) (f : Nat)
  (hend : ∀ (v : Nat → Value) (W : World), R w W → (∀ i ∈ D, Φ i (v i) W) → J C.length W → wpAny P .any ops Q f l' (fillL ops v D a) W) :
  ∀ (todo : Nat) (listed : Array Bool) (v : Nat → Value) (b : Act) (W : World), (D.filter (fun j => !listed.getD j false)).length = todo → ParInv ops D C J R Φ a w listed v b W →
   wpAny P .any ops Q (todo + f) listed b W := by
 simp only [parB, Bool.and_eq_true, decide_eq_true_eq, beq_iff_eq] at hc
 obtain ⟨c1, c2, c3, c4, c5, c6, c7⟩ := hc
 have hD : ∀ i ∈ D, ∃ o, ops[i]? = some o ∧ o.guard = none ∧ ∀ e ∈ o.after, Region.binds .any e = true → e.on ∈ D ∧ e.on < i := fun i hi => by
  have h := List.all_eq_true.1 c1 i hi
  cases ho : ops[i]? with
  | none => rw [ho] at h; cases h
  | some o =>
   rw [ho] at h
   simp only [Bool.and_eq_true, Option.isNone_iff_eq_none] at h
   refine ⟨o, rfl, h.1, fun e he hb => ?_⟩
   have h2 := Array.all_eq_true_iff_forall_mem.1 h.2 e he
   simpa [hb] using h2
 have hlt : ∀ i ∈ D, i < ops.size := fun i hi => by obtain ⟨o, ho, _⟩ := hD i hi; exact (Array.getElem?_eq_some_iff.1 ho).1
 have huniq : ∀ i ∈ D, ∀ j ∈ D, ∀ t, dstAt ops i = some t → dstAt ops j = some t → j = i := by
  intro i hi j hj t h1 h2
  have key : ∀ (l : List Nat), (l.filterMap (dstAt ops)).Nodup → l.Nodup → i ∈ l → j ∈ l → j = i := by
   intro l
   induction l with
   | nil => intro _ _ h; cases h
   | cons x r ih =>
    intro hn hn2 hi hj
    rcases List.mem_cons.1 hi with rfl | hi' <;> rcases List.mem_cons.1 hj with rfl | hj'
    ·rfl
    ·rw [List.filterMap_cons, h1] at hn
     exact absurd (List.mem_filterMap.2 ⟨j, hj', h2⟩) (List.nodup_cons.1 hn).1
    ·rw [List.filterMap_cons, h2] at hn
     exact absurd (List.mem_filterMap.2 ⟨i, hi', h1⟩) (List.nodup_cons.1 hn).1
    ·refine ih ?_ (List.nodup_cons.1 hn2).2 hi' hj'
     rw [List.filterMap_cons] at hn
     split at hn
     ·exact hn
     ·exact (List.nodup_cons.1 hn).2
  exact key D c2 c4 hi hj
 intro todo
 induction todo with
 | zero =>
  intro listed v b W h0 I
  have hall : ∀ j ∈ D, listed.getD j false = true := fun j hj => by
   have h1 : D.filter (fun j => !listed.getD j false) = [] := List.eq_nil_of_length_eq_zero h0
   have h2 := List.filter_eq_nil_iff.1 h1 j hj
   simpa using h2
  have hl : listed = l' := by
   apply Array.ext (by rw [I.size, c6])
   intro j hj1 hj2
   have h1 := List.all_eq_true.1 c7 j (List.mem_range.2 (by rw [← I.size]; exact hj1))
   have e1 : listed[j] = listed.getD j false := by simp [hj1]
   have e2 : l'[j] = l'.getD j false := by simp [hj2]
   rw [e1, e2, beq_iff_eq.1 h1]
   by_cases hm : j ∈ D
   ·rw [hall j hm]; simp [hm]
   ·cases hg : listed.getD j false with
    | true => exact absurd (I.sub j hg) hm
    | false => simp [hm]
  have hb : b = fillL ops v D a := by
   refine act_ext (Array.ext (by rw [I.bsize, fill_size]) fun t h1 h2 => ?_) (by rw [I.defers, fill_defers])
   have ht : t < a.tmps.size := by rw [← I.bsize]; exact h1
   have hg : b.tmps[t]? = (fillL ops v D a).tmps[t]? := by
    by_cases hx : ∃ j ∈ D, dstAt ops j = some t
    ·obtain ⟨j, hj, hd⟩ := hx
     rw [I.got j (hall j hj) t hd, fill_at v t j hd D a ht hj (fun k hk hd' => huniq j hj k hk t hd hd')]
    ·rw [I.other t ht (fun j hj hd => hx ⟨j, I.sub j hj, hd⟩), fill_other v t D a ht (fun j hj hd => hx ⟨j, hj, hd⟩)]
   simpa [h1, h2] using hg
  rw [Nat.zero_add, hl, hb]
  refine hend v W I.rel (fun i hi => I.fact i (hall i hi)) ?_
  have hCl : C.filter (fun j => l'.getD j false) = C := List.filter_eq_self.2 (fun j hj => by rw [← hl]; exact hall j (hCD j hj))
  have := I.cnt
  rw [hl, hCl] at this
  exact this
 | succ todo ih =>
  intro listed v b W h0 I
  rw [Nat.succ_add]
  -- an element of D that is not listed
  have hun : ∃ j ∈ D, listed.getD j false = false := by
   cases hf : D.filter (fun j => !listed.getD j false) with
   | nil => rw [hf] at h0; cases h0
   | cons x r =>
    have hx : x ∈ D.filter (fun j => !listed.getD j false) := by rw [hf]; exact List.mem_cons_self ..
    obtain ⟨h1, h2⟩ := List.mem_filter.1 hx
    exact ⟨x, h1, by simpa using h2⟩
  have hmin : ∀ n j, j < n → j ∈ D → listed.getD j false = false → ∃ i ∈ D, i ∈ Region.ready .any ops listed := by
   intro n
   induction n with
   | zero => intro j h; omega
   | succ n ihn =>
    intro j hj hjD hjl
    obtain ⟨o, ho, hg, hdep⟩ := hD j hjD
    by_cases hx : ∃ e ∈ o.after, Region.binds .any e = true ∧ listed.getD e.on false = false
    ·obtain ⟨e, he, hb, hl⟩ := hx
     exact ihn e.on (by have := (hdep e he hb).2; omega) (hdep e he hb).1 hl
    ·refine ⟨j, hjD, mem_ready.2 ⟨?_, o, ho, fun e he hb => ?_⟩⟩
     ·have : j < listed.size := by rw [I.size]; exact hlt j hjD
      simpa [this] using hjl
     ·cases hl : listed.getD e.on false with
      | true => rfl
      | false => exact absurd ⟨e, he, hb, hl⟩ hx
  refine ⟨fun hnil => ?_, fun i hi => ?_⟩
  ·obtain ⟨j, hj, hjl⟩ := hun
   obtain ⟨i, _, hi⟩ := hmin (j + 1) j (by omega) hj hjl
   rw [hnil] at hi
   cases hi
  ·obtain ⟨hiun, o, ho, hall⟩ := mem_ready.1 hi
   have hil : i < ops.size := (Array.getElem?_eq_some_iff.1 ho).1
   have hiD : i ∈ D := by
    have h1 := List.all_eq_true.1 c5 i (List.mem_range.2 hil)
    rcases Bool.or_eq_true_iff.1 h1 with h2 | h2
    ·simpa using h2
    ·obtain ⟨j, hj, hjl⟩ := hun
     have h3 := waits_listed I.closed hi (List.all_eq_true.1 h2 j hj)
     rw [hjl] at h3
     cases h3
   have hiun' : listed.getD i false = false := by
    have : i < listed.size := by rw [I.size]; exact hil
    simpa [this] using hiun
   obtain ⟨o2, ho2, hg, hdep⟩ := hD i hiD
   obtain rfl : o = o2 := Option.some.inj (ho.symm.trans ho2)
   have hgetD : ∀ (t : Tmp) (x : Value), b.tmps[t]? = some x → b.eval (.tmp t) = x := fun t x h => by
    show b.tmps.getD t undef = x
    rw [Array.getD_eq_getD_getElem?, h]
    rfl
   have hkk : ∀ (l : List Nat), l.Nodup → (l.filter (fun j => (listed.setIfInBounds i true).getD j false)).length = (l.filter (fun j => listed.getD j false)).length + (if l.contains i then 1 else 0) := by
    have hset : ∀ j, (listed.setIfInBounds i true).getD j false = if j = i then true else listed.getD j false := fun j => by
     rw [Array.getD_eq_getD_getElem?, Array.getD_eq_getD_getElem?, Array.getElem?_setIfInBounds]
     have : i < listed.size := by rw [I.size]; exact hil
     by_cases hij : i = j
     ·subst hij; simp [this]
     ·simp [hij, Ne.symm hij]
    intro l
    induction l with
    | nil => intro _; simp
    | cons y r ihl =>
     intro hn
     have hn' := List.nodup_cons.1 hn
     have h1 := ihl hn'.2
     rw [List.filter_cons, List.filter_cons, hset y]
     by_cases hy : y = i
     ·subst hy
      have hr : r.contains y = false := by simpa using hn'.1
      rw [hr] at h1
      simp only [hiun', if_true, List.contains_cons, beq_self_eq_true, Bool.true_or, List.length_cons]
      simp at h1
      simp [h1]
     ·have hc1 : (y :: r).contains i = r.contains i := by
       rw [List.contains_cons, beq_eq_false_iff_ne.2 (fun h => hy h.symm), Bool.false_or]
      rw [if_neg hy, hc1]
      split
      ·simp only [List.length_cons]; omega
      ·exact h1
   have hle : (C.filter (fun j => listed.getD j false)).length + (if C.contains i then 1 else 0) ≤ C.length := by
    rw [← hkk C hCn]
    exact List.length_filter_le _ _
   have hwp := hop i hiD o ho b W _ I.cnt hle I.rel
    (fun j t hd he => by
     obtain ⟨e, hea, h1⟩ := Array.any_eq_true'.1 he
     simp only [Bool.and_eq_true, beq_iff_eq] at h1
     have hl := hall e hea h1.1
     rw [h1.2] at hl
     rw [hgetD t _ (I.got j hl t hd)]
     exact I.fact j hl)
    (fun t h => by
     show b.tmps.getD t undef = a.tmps.getD t undef
     rw [Array.getD_eq_getD_getElem?, Array.getD_eq_getD_getElem?]
     rcases Nat.lt_or_ge t a.tmps.size with ht | ht
     ·rw [I.other t ht (fun j hj hd => by have h1 := List.all_eq_true.1 h j (I.sub j hj); simp [hd] at h1)]
     ·rw [Array.getElem?_eq_none (by rw [I.bsize]; exact ht), Array.getElem?_eq_none ht])
   unfold wpOp
   rw [ho]
   simp only [Region.wanted, hg, if_true]
   refine Or.inl (Oper.wp_mono (fun b' W' h => ?_) hwp)
   obtain ⟨x, rfl, hR, hΦ, hJ⟩ := h
   have hset : ∀ j, (listed.setIfInBounds i true).getD j false = true ↔ j = i ∨ listed.getD j false = true := fun j => by
    rw [Array.getD_eq_getD_getElem?, Array.getD_eq_getD_getElem?, Array.getElem?_setIfInBounds]
    have : i < listed.size := by rw [I.size]; exact hil
    by_cases hij : i = j
    ·subst hij; simp [this]
    ·simp [hij, Ne.symm hij]
   refine ih (listed.setIfInBounds i true) (fun k => if k = i then x else v k) _ W' ?_ ?_
   ·have hcount : ∀ (l : List Nat), l.Nodup → i ∈ l → (l.filter (fun j => !listed.getD j false)).length = (l.filter (fun j => !(listed.setIfInBounds i true).getD j false)).length + 1 := by
     intro l
     induction l with
     | nil => intro _ h; cases h
     | cons y r ihl =>
      intro hn hm
      have hn' := List.nodup_cons.1 hn
      by_cases hy : y = i
      ·subst hy
       have e1 : (!listed.getD y false) = true := by rw [hiun']; rfl
       have e2 : (!(listed.setIfInBounds y true).getD y false) = false := by rw [(hset y).2 (Or.inl rfl)]; rfl
       rw [List.filter_cons, List.filter_cons, e1, e2]
       simp only [if_true, List.length_cons, Bool.false_eq_true, if_false, Nat.add_right_cancel_iff]
       congr 1
       apply List.filter_congr
       intro k hk
       have hki : k ≠ y := fun h => hn'.1 (h ▸ hk)
       cases h1 : listed.getD k false with
       | true => rw [(hset k).2 (Or.inr h1)]
       | false =>
        cases h2 : (listed.setIfInBounds y true).getD k false with
        | false => rfl
        | true =>
         rcases (hset k).1 h2 with h3 | h3
         ·exact absurd h3 hki
         ·rw [h1] at h3; cases h3
      ·have hm' : i ∈ r := (List.mem_cons.1 hm).resolve_left (fun h => hy h.symm)
       have e1 : (listed.setIfInBounds i true).getD y false = listed.getD y false := by
        cases h1 : listed.getD y false with
        | true => exact (hset y).2 (Or.inr h1)
        | false =>
         cases h2 : (listed.setIfInBounds i true).getD y false with
         | false => rfl
         | true =>
          rcases (hset y).1 h2 with h3 | h3
          ·exact absurd h3 hy
          ·rw [h1] at h3; cases h3
       rw [List.filter_cons, List.filter_cons, e1]
       have := ihl hn'.2 hm'
       split
       ·simp only [List.length_cons]; omega
       ·exact this
    have := hcount D c4 hiD
    omega
   ·have hds : ∀ j, listed.getD j false = true → ∀ t, dstAt ops j = some t → dstAt ops i ≠ some t := fun j hj t h1 h2 => by
     have := huniq i hiD j (I.sub j hj) t h2 h1
     rw [this, hiun'] at hj
     cases hj
    have hdst : dstAt ops i = o.dst := by unfold dstAt; rw [ho]; rfl
    have htl : ∀ j ∈ D, ∀ t, dstAt ops j = some t → t < a.tmps.size := fun j hj t hd => by
     have := List.all_eq_true.1 c3 t (List.mem_filterMap.2 ⟨j, hj, hd⟩)
     simpa using this
    refine ⟨by simp [I.size], fun j hj => ?_, I.closed.set hi, by rw [put_size, I.bsize], by rw [put_defers, I.defers], fun j hj t hd => ?_, fun t ht hno => ?_, ht _ _ _ I.rel hR, fun j hj => ?_, by rw [hkk C hCn]; exact hJ⟩
    ·rcases (hset j).1 hj with h | h
     ·rw [h]; exact hiD
     ·exact I.sub j h
    ·rcases (hset j).1 hj with h | h
     ·subst h
      rw [put_get _ _ _ _ (by rw [I.bsize]; exact htl j hiD t hd), ← hdst, if_pos hd]
      simp
     ·have hji : j ≠ i := fun e => by rw [e, hiun'] at h; cases h
      rw [put_get _ _ _ _ (by rw [I.bsize]; exact htl j (I.sub j h) t hd), ← hdst, if_neg (hds j h t hd), I.got j h t hd]
      simp [hji]
    ·rw [put_get _ _ _ _ (by rw [I.bsize]; exact ht), ← hdst, if_neg (hno i ((hset i).2 (Or.inl rfl)))]
     exact I.other t ht (fun j hj => hno j ((hset j).2 (Or.inr hj)))
    ·rcases (hset j).1 hj with h | h
     ·subst h
      simpa using hΦ
     ·have hji : j ≠ i := fun e => by rw [e, hiun'] at h; cases h
      simp only [if_neg hji]
      exact hs _ _ _ _ (I.fact j h) hR
def fillE (v : Nat → Value) : List (Nat × Option Tmp) → Act → Act
 | [], a => a
 | (j, d) :: r, a => fillE v r (a.put d (v j))
theorem fillE_eq (v : Nat → Value) : ∀ (D : List Nat) (a : Act), fillL ops v D a = fillE v (D.map (fun j => (j, dstAt ops j))) a
 | [], _ => rfl
 | _ :: r, _ => fillE_eq v r _
theorem par_ {id n : Nat} {a : Act} {w : World} (E : List (Nat × Option Tmp)) (C : List Nat) (J : Nat → World → Prop) (l' : Array Bool) (f : Nat) (R : World → World → Prop) (Φ : Nat → Value → World → Prop) (hm : P.follows .mixedOrders = true) (hn : ops.size = n)
  (hc : (parB ops (E.map (·.1)) a.tmps.size l' && (decide C.Nodup && (C.all (E.map (·.1)).contains && ((E.map (·.1)).length + f == n && (E.map (·.1)).map (fun j => (j, dstAt ops j)) == E)))) = true) (hr : R w.drew w.drew)
  (ht : ∀ W1 W2 W3, R W1 W2 → R W2 W3 → R W1 W3) (hs : ∀ i x W W', Φ i x W → R W W' → Φ i x W') (hJ : J 0 w.drew)
  (hop : ∀ i ∈ E.map (·.1), OpOk P ops Q R Φ (E.map (·.1)) C J a w.drew i)
  (hend : ∀ (v : Nat → Value) (W : World), R w.drew W → (∀ i ∈ E.map (·.1), Φ i (v i) W) → J C.length W → wpAnyLast P .any ops Q (fun _ => True) [] f l' (fillE v E a) W) : (Code.region id ops true).wp P Q a w := by
 subst hn
 simp only [Bool.and_eq_true, beq_iff_eq, decide_eq_true_eq] at hc
 obtain ⟨hc, hCn, hCD, hl, hE⟩ := hc
 have hend' : ∀ (v : Nat → Value) (W : World), R w.drew W → (∀ i ∈ E.map (·.1), Φ i (v i) W) → J C.length W → wpAnyLast P .any ops Q (fun _ => True) [] f l' (fillL ops v (E.map (·.1)) a) W := fun v W h1 h2 h3 => by
  rw [fillE_eq, hE]
  exact hend v W h1 h2 h3
 clear hend
 revert hc hCD hl hop hend'
 generalize E.map (·.1) = D
 intro hop hc hCD hl hend
 refine wp_region_any hm ?_
 rw [← hl]
 have hD : D.filter (fun j => !(Array.replicate ops.size false).getD j false) = D := by
  apply List.filter_eq_self.2
  intro j _
  simp [Array.getD_eq_getD_getElem?, Array.getElem?_replicate]
  split <;> simp
 have h0 : ∀ j, ¬ (Array.replicate ops.size false).getD j false = true := fun j => by
  rw [Array.getD_eq_getD_getElem?, Array.getElem?_replicate]
  split <;> simp
 have hC0 : C.filter (fun j => (Array.replicate ops.size false).getD j false) = [] := List.filter_eq_nil_iff.2 (fun j _ => h0 j)
 refine hl ▸ hl ▸ (par_go (w := w.drew) hc hCn (fun j hj => by simpa using List.all_eq_true.1 hCD j hj) ht hs hop f (fun v W h1 h2 h3 => wpAny_of_last _ _ _ _ (hend v W h1 h2 h3)) D.length (Array.replicate ops.size false) (fun _ => undef) a w.drew (by rw [hD]) ?_)
 exact ⟨by simp, fun j h => absurd h (h0 j), fun j oj _ h => absurd h (h0 j), rfl, rfl, fun j h => absurd h (h0 j), fun t _ _ => rfl, hr, fun j h => absurd h (h0 j), by rw [hC0]; exact hJ⟩
theorem ev_tmp {b : Act} {t : Tmp} {v : Value} (h : b.eval (.tmp t) = v) : b.tmps[t]?.getD undef = v := by simpa [Act.eval] using h
theorem ok_value {o : Oper} {b : Act} {W W' : World} {R : World → World → Prop} {Φ : Nat → Value → World → Prop} {i : Nat} {x : Value} (hrun : (execOp b.eval o).run P W = .ok (.value x) W') (hR : R W W') (hΦ : Φ i x W') {J : World → Prop} (hJ : J W') :
  Oper.wp P o b W (fun b' W' => ∃ x, b' = b.put o.dst x ∧ R W W' ∧ Φ i x W' ∧ J W') Q := by
 unfold Oper.wp
 rw [hrun]
 exact ⟨x, rfl, hR, hΦ, hJ⟩
theorem ok_call {o : Oper} {b : Act} {W : World} {R : World → World → Prop} {Φ : Nat → Value → World → Prop} {J : World → Prop} {i : Nat} {f : FuncId} {fn : Func} {as : Array Operand} {ts : Array TypeId} (hf : P.funcs[f]? = some fn) (hname : (fn.name == "runtime.NumGoroutine") = false) (hb : fn.body.isSome = true) (args : Array Value)
  (hop : o.op = .call { callee := .value (.func f), args := as, argTypes := ts }) (hargs : as.map b.eval = args)
  (h : Calls P f args W fun e W' => ∃ x, e = .returned x ∧ R W W' ∧ Φ i x W' ∧ J W') : Oper.wp P o b W (fun b' W' => ∃ x, b' = b.put o.dst x ∧ R W W' ∧ Φ i x W' ∧ J W') Q := by
 have he := enters_ hf hname hb args W
 have hrun : (execOp b.eval o).run P W = .ok (.enter f args) W := by
  unfold execOp
  simp [hop, resolve, Deferred.ofValue, invoke, Act.eval, hargs, he]
 unfold Oper.wp
 rw [hrun, Oper.upon_enter]
 refine h.mono fun e w'' hh => ?_
 obtain ⟨x, rfl, hk⟩ := hh
 exact ⟨x, rfl, hk⟩
end
section
variable {P : Program} {ops : Array Oper} {Q : Exit → Act → World → Prop} {md : Region.Mode} {S : World → Prop} {ds : List Nat}
def wpPlan (P : Program) (md : Region.Mode) (ops : Array Oper) (Q : Exit → Act → World → Prop) (S : World → Prop) (ds : List Nat) (_is : List (Nat × Nat × Bool)) (fuel : Nat) (l : Array Bool) (a : Act) (w : World) : Prop := wpAnyLast P md ops Q S ds fuel l a w
theorem plan_ (is : List (Nat × Nat × Bool)) {fuel : Nat} {l : Array Bool} {a : Act} {w : World} (h : wpPlan P md ops Q S ds is fuel l a w) : wpAnyLast P md ops Q S ds fuel l a w := h
theorem plan_end {fuel : Nat} {l : Array Bool} {a : Act} {w : World} (h : wpAnyLast P md ops Q S ds fuel l a w) : wpPlan P md ops Q S ds [] fuel l a w := h
theorem plan_pure {i N : Nat} {is : List (Nat × Nat × Bool)} {oi : Oper} {v : Value} {fuel : Nat} {l : Array Bool} {a : Act} {w : World} (hi : ops[i]? = some oi) (hN : oi.dst = some N) (hc : anyB md ops l (l.setIfInBounds i true) i = true)
  (hy : Yields P ops oi v a) {a' : Act} (ha : a.put (some N) v = a') (h : wpPlan P md ops Q S ds is fuel (l.setIfInBounds i true) a' w) (hQ : ∀ c a w, Q (.panic c) (a.put oi.dst v) w → Q (.panic c) a w) :
  wpPlan P md ops Q S ds ((i, N, false) :: is) (fuel + 1) l a w := pure_ _ hi hN hc hQ hy ha h
theorem plan_take {i N : Nat} {is : List (Nat × Nat × Bool)} {oi : Oper} {v : Value} {fuel : Nat} {l : Array Bool} {a : Act} {w : World} (hi : ops[i]? = some oi) (hN : oi.dst = some N) (hc : takeB md ops ds l (l.setIfInBounds i true) i = true)
  (hy : YieldsIf P ops S oi v a) (hS : S w) {a' : Act} (ha : a.put (some N) v = a') (h : wpPlan P md ops Q S ds is fuel (l.setIfInBounds i true) a' w) (hQ : ∀ c a w, Q (.panic c) (a.put oi.dst v) w → Q (.panic c) a w) :
  wpPlan P md ops Q S ds ((i, N, true) :: is) (fuel + 1) l a w := take_ _ hi hN hc hQ hy hS ha h
end
section
open Go.RowKit Go.Proofs.YtpnhkmicepmciaaW.PrintWords Go.Proofs.YtpnhkmicepmciaaW.PrintMore
def Stay (g : Nat) (w w1 : World) : Prop := g < w.heap.size → w1.heap[g]? = w.heap[g]? ∧ w.heap.size ≤ w1.heap.size
theorem Stay.refl (g : Nat) (w : World) : Stay g w w := fun _ => ⟨rfl, Nat.le_refl _⟩
theorem Stay.alloc {g : Nat} {w w1 : World} (h : Stay g w w1) (o : Obj) : Stay g w (w1.alloc o) := fun hg => by
 obtain ⟨h1, h2⟩ := h hg
 exact ⟨(Below.heap_alloc w1 o g (Nat.lt_of_lt_of_le hg h2)).trans h1, by simp; omega⟩
theorem Stay.drew {g : Nat} {w w1 : World} (h : Stay g w w1) : Stay g w w1.drew := h
theorem Stay.drewN {g : Nat} {w w1 : World} (h : Stay g w w1) (n : Nat) : Stay g w (w1.drewN n) := h
theorem Stay.set {g g' j : Nat} {w w1 : World} {u : Value} (h : Stay g w w1) (hn : g ≠ g') : Stay g w (w1.setCell ⟨g', j, none⟩ u) := fun hg => by
 obtain ⟨h1, h2⟩ := h hg
 exact ⟨(Below.heap_setCell w1 _ u g hn).trans h1, by simpa using h2⟩
def Off (E : List Nat) (w w1 : World) : Prop := w.heap.size ≤ w1.heap.size ∧ ∀ (k : Nat) (cells : Array Value) (q : Nat), w.heap[k]? = some (.cells cells q (0, 0)) → q ∈ E → w1.heap[k]? = w.heap[k]?
theorem Off.refl (E : List Nat) (w : World) : Off E w w := ⟨Nat.le_refl _, fun _ _ _ _ _ => rfl⟩
theorem Off.alloc {E : List Nat} {w w1 : World} (h : Off E w w1) (o : Obj) : Off E w (w1.alloc o) :=
 ⟨by have := h.1; simp; omega, fun k c q hk hq => (Below.heap_alloc w1 o k (Nat.lt_of_lt_of_le (blk_lt hk) h.1)).trans (h.2 k c q hk hq)⟩
theorem Off.drew {E : List Nat} {w w1 : World} (h : Off E w w1) : Off E w w1.drew := h
theorem Off.drewN {E : List Nat} {w w1 : World} (h : Off E w w1) (n : Nat) : Off E w (w1.drewN n) := h
theorem Off.set {E : List Nat} {g j t : Nat} {cs : Array Value} {w w1 : World} {u : Value} (h : Off E w w1) (hb : w.heap[g]? = some (.cells cs t (0, 0))) (ht : ∀ q, q ∈ E → q ≠ t) : Off E w (w1.setCell ⟨g, j, none⟩ u) :=
 ⟨by simpa using h.1, fun k c q hk hq => by
  refine (Below.heap_setCell w1 _ u k ?_).trans (h.2 k c q hk hq)
  rintro rfl
  rw [hk] at hb
  injection hb with hb
  injection hb with _ hb
  exact ht q hq hb⟩
theorem kb {g : Nat} {o : Obj} {w w1 : World} (h : Aside0 (w.heap[g]? = some o))
  (hs : Stay g w w1 := by (with_reducible repeat (first | apply Stay.alloc | apply Stay.drewN | apply Stay.drew | refine Stay.set ?_ (Aside0.out (by assumption)))); exact Stay.refl _ _) : w1.heap[g]? = some o := (hs (blk_lt h.out)).1.trans h.out
theorem cb {g : Nat} {o : Obj} {w w1 w2 : World} (h : Aside0 (w.heap[g]? = some o)) (hb : Below w1.heap.size w1 w2)
  (hs : Stay g w w1 := by (with_reducible repeat (first | apply Stay.alloc | apply Stay.drewN | apply Stay.drew | refine Stay.set ?_ (Aside0.out (by assumption)))); exact Stay.refl _ _) : Aside0 (w2.heap[g]? = some o) := ⟨blk_below ((hs (blk_lt h.out)).1.trans h.out) hb⟩
theorem R_off {α : Type} {d : Kd α} {e base : Nat} {ok : Nat → Prop} {v : Value} {xs : List α} {w w1 : World} (h : d.R e w base ok v xs) (hs : Off (e :: d.E) w w1) : d.R e w1 base ok v xs :=
 Kd.R_mono (Kd.R_step (Kd.R_bound h) (fun k hk _ => by
  obtain ⟨_, _, _, q, hq, cells, hc⟩ := hk
  exact hs.2 k cells q hc hq)) (fun _ hk => hk.1)
theorem kr {α : Type} {d : Kd α} {e base : Nat} {ok : Nat → Prop} {v : Value} {xs : List α} {w w1 : World} (h : Aside0 (d.R e w base ok v xs))
  (hs : Off (e :: d.E) w w1 := by (with_reducible repeat (first | apply Off.alloc | apply Off.drewN | apply Off.drew | refine Off.set ?_ (Aside0.out (by assumption)) (by decide))); exact Off.refl _ _) : d.R e w1 base ok v xs := R_off h.out hs
theorem cr {α : Type} {d : Kd α} {e base : Nat} {ok : Nat → Prop} {v : Value} {xs : List α} {w w1 w2 : World} (h : Aside0 (d.R e w base ok v xs)) (hb : Below w1.heap.size w1 w2)
  (hs : Off (e :: d.E) w w1 := by (with_reducible repeat (first | apply Off.alloc | apply Off.drewN | apply Off.drew | refine Off.set ?_ (Aside0.out (by assumption)) (by decide))); exact Off.refl _ _) : Aside0 (d.R e w2 base ok v xs) := ⟨Kd.R_below (R_off h.out hs) hb⟩
theorem kB {w0 w1 : World} (h : Below w0.heap.size w0 w1 := by repeat (first | (with_reducible first | exact HB.out | apply below_alloc | apply pw_below_drewN | apply below_drew1 | refine below_set ?_ (Aside0.out (by with_reducible assumption))) | exact HB.out)) : Below w0.heap.size w0 w1 := h
theorem cB {w0 w1 w2 : World} (hb : Below w1.heap.size w1 w2) (h : Below w0.heap.size w0 w1) : Aside0 (Below w0.heap.size w0 w2) := ⟨below_step h hb⟩
theorem nb_lt {g g2 : Nat} {o : Obj} {w w1 : World} (hg : g2 = w1.heap.size) (h : Aside0 (w.heap[g]? = some o)) (hs : Below w.heap.size w w1 := by (with_reducible repeat (first | apply below_alloc | apply pw_below_drewN | apply below_drew1)); exact Below.refl _ _) : Aside0 (g ≠ g2) := ⟨by rw [hg]; exact Nat.ne_of_lt (Nat.lt_of_lt_of_le (blk_lt h.out) hs.size)⟩
theorem nb_gt {g g2 : Nat} {o : Obj} {w w1 : World} (hg : g2 = w1.heap.size) (h : Aside0 (w.heap[g]? = some o)) (hs : Below w.heap.size w w1 := by (with_reducible repeat (first | apply below_alloc | apply pw_below_drewN | apply below_drew1)); exact Below.refl _ _) : Aside0 (g2 ≠ g) := ⟨by rw [hg]; exact Nat.ne_of_gt (Nat.lt_of_lt_of_le (blk_lt h.out) hs.size)⟩
theorem gw_ {g : Nat} {w w1 : World} (hg : g = w1.heap.size) (h : Below w.heap.size w w1) : Aside0 (w.heap.size ≤ g) := ⟨by rw [hg]; exact h.size⟩
end
end Go.Proofs.Ytpnhkmicepmciaa.Par

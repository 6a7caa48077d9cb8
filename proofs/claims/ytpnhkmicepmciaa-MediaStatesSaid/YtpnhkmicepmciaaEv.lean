/- A part of this claim's walks: functions' contracts, or plain lemmas; conditions: each one's own. -/
import Derived.Test.YtpnhkmicepmciaaPar
import Derived.Test.YtpnhkmicepmciaaY10
import Derived.Test.YtpnhkmicepmciaaY16
namespace Go.Proofs.Ytpnhkmicepmciaa.Y
open Go.RowKit Go.Proofs.YtpnhkmicepmciaaW.PrintWords Go.Proofs.YtpnhkmicepmciaaW.PrintLast Go.Proofs.YtpnhkmicepmciaaW.PrintMore
set_option linter.unusedVariables false
set_option linter.unusedSimpArgs false
open Go.Proofs.Ytpnhkmicepmciaa.Par
attribute [local go_sem] max2_int min2_int max_two min_two max_three min_three max_four min_four
theorem next_range (v n : Int) (h1 : 1 ≤ n) (h2 : n ≤ 1000) : 0 ≤ Int.tmod (wrap64 (Int.tmod v n + n)) n ∧ Int.tmod (wrap64 (Int.tmod v n + n)) n < n := by
 have a := Int.tmod_lt_of_pos v (show 0 < n by omega)
 have b := Int.lt_tmod_of_pos v (show 0 < n by omega)
 have hw : wrap64 (Int.tmod v n + n) = Int.tmod v n + n := by unfold wrap64; omega
 rw [hw]
 exact ⟨Int.tmod_nonneg _ (by omega), Int.tmod_lt_of_pos _ (by omega)⟩
theorem next_calls (g : Nat) (xs : List Int) (t n : Int) (w0 w : World) (hI : IsS65 w0 w g xs t) (hB : Below w0.heap.size w0 w) (h0 : 0 ≤ t) (h1 : t ≤ 1000000) (hn : 1 ≤ n) (hn2 : n ≤ 1000) :
  Calls Try.prog 31 #[.pointer (some ⟨g, 0, none⟩), .int .i64 n] w fun e w' => ∃ r : Int, e = .returned (.int .i64 r) ∧ 0 ≤ r ∧ r < n ∧ IsS65 w0 w' g xs (t + 1) ∧ Below w0.heap.size w0 w' ∧ KeepBut w w' g none := by
 have hw : wrap64 (t + 1) = t + 1 := by unfold wrap64; omega
 have hf : ∃ r, cutroomfilm_Tape_Next.f xs t n = some (r, t + 1) ∧ 0 ≤ r ∧ r < n := by
  unfold cutroomfilm_Tape_Next.f
  rw [if_neg (by omega), hw, if_pos h0, if_neg (show ¬ n = 0 by omega)]
  split
  ·exact ⟨_, rfl, next_range _ n hn hn2⟩
  ·exact ⟨_, if_neg (by omega), next_range _ n hn hn2⟩
 obtain ⟨r, hr, r0, r1⟩ := hf
 exact (cutroomfilm_Tape_Next.calls g xs t n r (t + 1) w0 w hI hB hr).mono fun e w' ⟨he, h2, h3, h4⟩ => ⟨r, he, r0, r1, h2, h3, h4⟩
def goodE (x : S45) : Prop := x.f1.size ≤ 5 ∧ x.f2.size ≤ 5 ∧ x.f3.size ≤ 5 ∧ x.f1.toList ≠ [109, 105, 110, 101] ∧ x.f2.toList ≠ [111, 119, 110]
theorem arr_at {P : Value → Prop} {cs : List Value} (h : ∀ v ∈ cs, P v) (i : Nat) (hi : i < cs.length) : ∃ v, cs.toArray[i]? = some v ∧ P v :=
 ⟨cs[i], by simp [hi], h _ (List.getElem_mem hi)⟩
def okS (s : ByteArray) : Prop := s.size ≤ 5 ∧ s.toList ≠ [109, 105, 110, 101] ∧ s.toList ≠ [111, 119, 110]
def csF : List Value := [.string ⟨#[102, 48]⟩, .string ⟨#[102, 49]⟩, .string ⟨#[102, 50]⟩]
def csM : List Value := [.string ⟨#[109, 48]⟩, .string ⟨#[109, 49]⟩, .string ⟨#[109, 50]⟩, .string ⟨#[115, 112, 97, 114, 101]⟩]
def csP : List Value := [.string ⟨#[]⟩, .string ⟨#[115, 112, 97, 114, 101]⟩, .string ⟨#[109, 49]⟩, .string ⟨#[115, 112, 97, 114, 101]⟩]
def StrOk (v : Value) : Prop := ∃ s, v = .string s ∧ okS s
theorem csF_ok : ∀ v ∈ csF, StrOk v := by
 intro v hv
 simp only [csF, List.mem_cons, List.not_mem_nil, or_false] at hv
 rcases hv with rfl | rfl | rfl <;> exact ⟨_, rfl, by decide, by decide +kernel, by decide +kernel⟩
theorem csM_ok : ∀ v ∈ csM, StrOk v := by
 intro v hv
 simp only [csM, List.mem_cons, List.not_mem_nil, or_false] at hv
 rcases hv with rfl | rfl | rfl | rfl <;> exact ⟨_, rfl, by decide, by decide +kernel, by decide +kernel⟩
theorem csP_ok : ∀ v ∈ csP, StrOk v := by
 intro v hv
 simp only [csP, List.mem_cons, List.not_mem_nil, or_false] at hv
 rcases hv with rfl | rfl | rfl | rfl <;> exact ⟨_, rfl, by decide, by decide +kernel, by decide +kernel⟩
def RowOf (g : Nat) (cs : List Value) (x : Value) (W : World) : Prop := ∃ k, x = .slice (some ⟨k, 0, none⟩) cs.length cs.length ∧ W.heap[k]? = some (.cells cs.toArray 9 (0, 0)) ∧ k ≠ g
def PtrOf (g : Nat) (cs : List Value) (x : Value) (W : World) : Prop := ∃ k r, x = .pointer (some ⟨k, r, none⟩) ∧ r < cs.length ∧ W.heap[k]? = some (.cells cs.toArray 9 (0, 0)) ∧ k ≠ g
def IdxOf (n : Nat) (x : Value) : Prop := ∃ r : Nat, x = .int .i64 r ∧ r < n
def evPhi (g : Nat) : Nat → Value → World → Prop
 | 0, x, W => RowOf g csF x W
 | 5, x, W => RowOf g csM x W
 | 10, x, W => RowOf g csP x W
 | 1, x, _ => x = .pointer (some ⟨g, 0, none⟩)
 | 6, x, _ => x = .pointer (some ⟨g, 0, none⟩)
 | 11, x, _ => x = .pointer (some ⟨g, 0, none⟩)
 | 2, x, _ => IdxOf 3 x
 | 7, x, _ => IdxOf 4 x
 | 12, x, _ => IdxOf 4 x
 | 3, x, W => PtrOf g csF x W
 | 8, x, W => PtrOf g csM x W
 | 13, x, W => PtrOf g csP x W
 | _, x, _ => StrOk x
theorem RowOf.keep {g cs x W W'} (h : RowOf g cs x W) (hk : KeepBut W W' g none) : RowOf g cs x W' := by
 obtain ⟨k, h1, h2, h3⟩ := h
 exact ⟨k, h1, hk.blk h2 h3 (by simp), h3⟩
theorem PtrOf.keep {g cs x W W'} (h : PtrOf g cs x W) (hk : KeepBut W W' g none) : PtrOf g cs x W' := by
 obtain ⟨k, r, h1, h4, h2, h3⟩ := h
 exact ⟨k, r, h1, h4, hk.blk h2 h3 (by simp), h3⟩
theorem evPhi_keep {g : Nat} : ∀ i x W W', evPhi g i x W → KeepBut W W' g none → evPhi g i x W'
 | 0, _, _, _, h, hk => RowOf.keep h hk
 | 5, _, _, _, h, hk => RowOf.keep h hk
 | 10, _, _, _, h, hk => RowOf.keep h hk
 | 3, _, _, _, h, hk => PtrOf.keep h hk
 | 8, _, _, _, h, hk => PtrOf.keep h hk
 | 13, _, _, _, h, hk => PtrOf.keep h hk
 | 1, _, _, _, h, _ => h
 | 6, _, _, _, h, _ => h
 | 11, _, _, _, h, _ => h
 | 2, _, _, _, h, _ => h
 | 7, _, _, _, h, _ => h
 | 12, _, _, _, h, _ => h
 | 4, _, _, _, h, _ => h
 | 9, _, _, _, h, _ => h
 | 14, _, _, _, h, _ => h
 | _ + 15, _, _, _, h, _ => h
theorem R_keepB {α : Type} {d : Kd α} {e base g : Nat} {ok : Nat → Prop} {v : Value} {xs : List α} {W W' : World} (h : d.R e W base ok v xs) (hk : KeepBut W W' g none) (hg : g < base) : d.R e W' base ok v xs :=
 Kd.R_mono (Kd.R_keep (Kd.R_bound h) hk (fun k h => by have := h.2.1; omega)) (fun _ h => h.1)
def csK : List Value := [.int .i64 1, .int .i64 1, .int .i64 1, .int .i64 2, .int .i64 3, .int .i64 3, .int .i64 3, .int .i64 4, .int .i64 5]
theorem csK_ok : ∀ v ∈ csK, ∃ d : Int, v = .int .i64 d ∧ 1 ≤ d ∧ d ≤ 5 := by
 intro v hv
 simp only [csK, List.mem_cons, List.not_mem_nil, or_false] at hv
 rcases hv with rfl | rfl | rfl | rfl | rfl | rfl | rfl | rfl | rfl <;> exact ⟨_, rfl, by decide, by decide⟩
theorem ev_val {P : Program} {Q : Exit → Act → World → Prop} {o : Oper} {b : Act} {W : World} {g i : Nat} {J : World → Prop} (x : Value) (W' : World) (hrun : (execOp b.eval o).run P W = .ok (.value x) W') (hR : KeepBut W W' g none) (hΦ : evPhi g i x W') (hJ : J W') :
  Oper.wp P o b W (fun b' W' => ∃ x, b' = b.put o.dst x ∧ KeepBut W W' g none ∧ evPhi g i x W' ∧ J W') Q := ok_value (R := fun W W' => KeepBut W W' g none) (Φ := evPhi g) hrun hR hΦ hJ
def EvIs (w0 w wr : World) (g : Nat) (xs : List Int) (n0 : Nat) (T : Int) (k : Nat) (v : Value) : Prop :=
 ∃ (l : List S45) (t : Int), l.length + k ≤ n0 ∧ (∀ x ∈ l, goodE x) ∧ 0 ≤ t ∧ t + 5 * (k : Int) ≤ T ∧ Kd.R k45 45 wr w.heap.size (fun _ => True) v l ∧ IsS65 w0 wr g xs t ∧ Below w0.heap.size w0 wr ∧ KeepBut w wr g none
theorem infoEv : (Try.prog.info? 45).map (fun i => (i.zero, i.size, i.bytes)) = some (some (.agg #[.int .i64 0, .string ⟨#[]⟩, .string ⟨#[]⟩, .string ⟨#[]⟩, .int .u64 0]), 5, 64) := by kernel_rfl
theorem okS_nil : okS ⟨#[]⟩ := ⟨by decide, by decide +kernel, by decide +kernel⟩
theorem ev_done {w0 w w5 w6 : World} {g n0 k : Nat} {xs : List Int} {t T : Int} {v : Value} {l : List S45} {p : S45} (HK : KeepBut w w5 g none) (HI : IsS65 w0 w5 g xs t) (HB : Below w0.heap.size w0 w5) (hgw : g < w.heap.size) (hb : Below w.heap.size w5 w6)
  (hR : Kd.R k45 45 w6 w.heap.size (fun _ => True) v (l ++ [p])) (hl : l.length + (k + 1) ≤ n0) (hg : ∀ x ∈ l, goodE x) (hp : goodE p) (ht : 0 ≤ t) (ht1 : t + 5 * (k : Int) ≤ T) : EvIs w0 w w6 g xs n0 T k v := by
 have hge := HI.ge
 refine ⟨l ++ [p], t, by simp; omega, fun x hx => ?_, ht, ht1, hR, ?_, ?_, ⟨Nat.le_trans HK.1 hb.size, fun i hi hig hr => (hb.block i hi).trans (HK.2 i hi hig hr)⟩⟩
 ·rcases List.mem_append.1 hx with h | h
  ·exact hg x h
  ·rw [List.mem_singleton.1 h]; exact hp
 ·obtain ⟨A0, c0, h1, h2, h3⟩ := HI
  exact ⟨A0, c0, (hb.block g hgw).trans h1, h2, h3⟩
 ·exact HB.trans (hb.mono (by omega))
set_option maxHeartbeats 4000000 in
set_option maxRecDepth 100000 in
theorem events_calls (g : Nat) (xs : List Int) (t0 : Int) (n0 : Nat) (w0 w : World) (hI : IsS65 w0 w g xs t0) (hB : Below w0.heap.size w0 w) (h0 : 0 ≤ t0) (h1 : t0 ≤ 10000) (hn : n0 ≤ 100) :
  Calls Try.prog 17 #[.pointer (some ⟨g, 0, none⟩), .int .i64 n0] w fun e w' => ∃ v, e = .returned v ∧ EvIs w0 w w' g xs n0 (t0 + 1 + 5 * n0) 0 v := by
 have HI := Aside0.mk hI
 have HB := Aside0.mk hB
 have HGW := Aside0.mk hI.lt
 clear hI hB
 go_enter Try.func17, Try.ntmps17
 go_wp2_with (go_at_call 31; refine (next_calls g xs t0 _ w0 _ HI.out HB.out h0 (by omega) (by omega) (by omega)).mono ?_; rintro e w1 ⟨r, rfl, r0, r1, hI1, hB1, hK1⟩; have HI1 := Aside0.mk hI1; have HB1 := Aside0.mk hB1; have HK1 := Aside0.mk hK1; clear hI1 hB1 hK1)
 obtain ⟨r', rfl⟩ := Int.eq_ofNat_of_zero_le r0
 have hr' : r' ≤ n0 := by omega
 clear r0 r1
 go_loopw [5, 6] (fun v n wr => ∃ k : Nat, n = .int .i64 k ∧ k ≤ n0 ∧ Aside0 (EvIs w0 w wr g xs n0 (t0 + 1 + 5 * n0) k v)) (fun _ n _ => (intOf n).toNat)
 case atStart => exact ⟨r', rfl, hr', ⟨[], t0 + 1, by simp; omega, by simp, by omega, by omega, Kd.R_nil _ _ _ _ _, HI1.out, HB1.out, HK1.out⟩⟩
 case round =>
  clear HI HB HI1 HB1 HK1
  obtain ⟨k, rfl, hk, HE⟩ := hrel
  by_cases hlt : 0 < k
  ·have hkk : decide (0 < (k : Int)) = true := by simp; omega
   obtain ⟨l, t, hl, hg, ht0, ht1, hR, hI, hB, hK⟩ := HE.out
   have HI := Aside0.mk hI
   have HB := Aside0.mk hB
   have HR := Aside0.mk hR
   have HK := Aside0.mk hK
   have HG := Aside0.mk hg
   clear HE hI hB hR hK hg
   go_wp2_with fail
   obtain ⟨b5, hb5⟩ : ∃ b, b = wr.heap.size := ⟨_, rfl⟩
   obtain ⟨w2, hw2⟩ : ∃ w2, w2 = wr.alloc (.cells #[.int .i64 1, .int .i64 1, .int .i64 1, .int .i64 2, .int .i64 3, .int .i64 3, .int .i64 3, .int .i64 4, .int .i64 5] 3) := ⟨_, rfl⟩
   have hb2 : Below wr.heap.size wr w2 := hw2 ▸ below_alloc (Below.refl _ _) _
   have BK := Aside0.mk (show w2.heap[b5]? = some (.cells #[.int .i64 1, .int .i64 1, .int .i64 1, .int .i64 2, .int .i64 3, .int .i64 3, .int .i64 3, .int .i64 4, .int .i64 5] 3 (0, 0)) by rw [hw2, hb5]; exact blk_new _ _)
   have HN := Aside0.mk (show b5 ≠ g by have := HI.out.lt; omega)
   rw [← hw2, ← hb5]
   refine (next_calls g xs t 9 w0 _ (HI.out.below hb2) (below_step HB.out hb2) ht0 (by omega) (by omega) (by omega)).mono ?_
   rintro e w3 ⟨r, rfl, r0, r1, hI1, hB1, hK1⟩
   replace HK := Aside0.mk (HK.out.trans (KeepBut.of_below hb2 g none) (.inl rfl))
   replace HR := Aside0.mk (Kd.R_below HR.out hb2)
   clear hw2 hb2 hb5
   replace BK := Aside0.mk (hK1.blk BK.out HN.out (by simp))
   replace HK := Aside0.mk (HK.out.trans hK1 (.inl rfl))
   replace HR := Aside0.mk (R_keepB HR.out hK1 HGW.out)
   replace HI := Aside0.mk hI1
   replace HB := Aside0.mk hB1
   clear hI1 hB1 hK1 w2
   obtain ⟨rn, rfl⟩ := Int.eq_ofNat_of_zero_le r0
   obtain ⟨vv, hvc, kd, rfl, kd1, kd5⟩ := arr_at csK_ok rn (by show rn < 9; omega)
   have hcc : w3.cell? ⟨b5, rn, none⟩ = some (.int .i64 kd) := (blk_cell BK.out rn).trans hvc
   clear hvc
   go_wp2_with fail
   obtain ⟨b7, hb7⟩ : ∃ b, b = w3.heap.size := ⟨_, rfl⟩
   obtain ⟨w4, hw4⟩ : ∃ w4, w4 = w3.alloc (.cells #[.int .i64 kd, .string ⟨#[]⟩, .string ⟨#[]⟩, .string ⟨#[]⟩, .int .u64 0] 45) := ⟨_, rfl⟩
   have hb4 : Below w3.heap.size w3 w4 := hw4 ▸ below_alloc (Below.refl _ _) _
   have BE := Aside0.mk (show w4.heap[b7]? = some (.cells #[.int .i64 kd, .string ⟨#[]⟩, .string ⟨#[]⟩, .string ⟨#[]⟩, .int .u64 0] 45 (0, 0)) by rw [hw4, hb7]; exact blk_new _ _)
   have HN7 := Aside0.mk (show b7 ≠ g by have := HI.out.lt; omega)
   have HB7 := Aside0.mk (show w.heap.size ≤ b7 by have := HK.out.1; omega)
   rw [← hw4, ← hb7]
   replace HI := Aside0.mk (HI.out.below hb4)
   replace HB := Aside0.mk (below_step HB.out hb4)
   replace HR := Aside0.mk (show Kd.R k45 45 w4 w.heap.size (fun k => k ≠ b7) u5 l from Kd.R_below (Kd.R_mono (Kd.R_bound HR.out) (fun k h => by have := h.2.2.1; omega)) hb4)
   replace HK := Aside0.mk (HK.out.trans (KeepBut.of_below hb4 g none) (.inl rfl))
   clear hw4 hb4 hb7 BK hcc
   refine par_ (n := 18) [(0, some 25), (1, some 26), (2, some 27), (3, some 28), (4, some 29), (5, some 30), (6, some 31), (7, some 32), (8, some 33), (9, some 34), (10, some 35), (11, some 36), (12, some 37), (13, some 38), (14, some 39), (15, some 8), (16, some 9), (17, some 10)] [2, 7, 12] (fun n W => IsS65 w0 W g xs (t + 1 + n) ∧ Below w0.heap.size w0 W) #[true, true, true, true, true, true, true, true, true, true, true, true, true, true, true, true, true, true] 0 (fun W W' => KeepBut W W' g none) (evPhi g) (by kernel_rfl) rfl (by kernel_rfl) (KeepBut.refl _ _ _) (fun _ _ _ h1 h2 => h1.trans h2 (.inl rfl)) evPhi_keep ⟨by simpa using HI.out.drew, below_drew HB.out⟩ ?_ ?_
   ·intro i hi
    simp only [List.map_cons, List.map_nil, List.mem_cons, List.not_mem_nil, or_false] at hi
    rcases hi with rfl | rfl | rfl | rfl | rfl | rfl | rfl | rfl | rfl | rfl | rfl | rfl | rfl | rfl | rfl | rfl | rfl | rfl <;> intro o ho b W n hJ hn hR dep oth <;> obtain rfl := Option.some.inj ho
    ·exact ev_val (.slice (some ⟨W.heap.size, 0, none⟩) 3 3) (W.alloc (.cells csF.toArray 9)) (by go_simp; rfl) (keep_alloc (KeepBut.refl _ _ _) _) ⟨_, rfl, blk_new _ _, by have := hJ.1.lt; omega⟩ ⟨hJ.1.alloc _, below_alloc hJ.2 _⟩
    ·exact ev_val _ _ rfl (KeepBut.refl _ _ _) ((oth 0 (by kernel_rfl)).trans rfl) hJ
    ·have e1 : b.eval (.tmp 26) = .pointer (some ⟨g, 0, none⟩) := dep 1 26 rfl (by kernel_rfl)
     have hn2 : n + 1 ≤ 3 := hn
     refine ok_call (R := fun W W' => KeepBut W W' g none) (Φ := evPhi g) Try.func31 (by kernel_rfl) rfl #[.pointer (some ⟨g, 0, none⟩), .int .i64 3] rfl (by rw [← e1]; simp [Act.eval]) ((next_calls g xs (t + 1 + n) 3 w0 W hJ.1 hJ.2 (by omega) (by omega) (by omega) (by omega)).mono fun e W' ⟨r, he, r0, r1, h1, h2, h3⟩ => ⟨_, he, h3, ⟨r.toNat, by rw [Int.toNat_of_nonneg r0], by omega⟩, ⟨?_, h2⟩⟩)
     have e2 : t + 1 + ((n + 1 : Nat) : Int) = t + 1 + n + 1 := by omega
     show IsS65 w0 W' g xs (t + 1 + ((n + 1 : Nat) : Int))
     rw [e2]
     exact h1
    ·obtain ⟨k1, e1, h1, h2⟩ := dep 0 25 rfl (by kernel_rfl)
     obtain ⟨r, e2, h3⟩ := dep 2 27 rfl (by kernel_rfl)
     have h3' := h3
     replace e1 := ev_tmp e1
     replace e2 := ev_tmp e2
     refine ev_val (.pointer (some ⟨k1, r, none⟩)) W ?_ (KeepBut.refl _ _ _) ⟨k1, r, rfl, h3, h1, h2⟩ hJ
     clear h1
     simp only [csF, csM, csP, List.length_cons, List.length_nil] at e1
     replace h3' : r < 3 := h3'
     go_simp
     intro hbad
     exact absurd hbad (by omega)
    ·obtain ⟨k1, r, e1, h3, h1, h2⟩ := dep 3 28 rfl (by kernel_rfl)
     obtain ⟨u, hu, s, rfl, hs⟩ := arr_at csF_ok r h3
     have hc : W.cell? ⟨k1, r, none⟩ = some (.string s) := (blk_cell h1 r).trans hu
     replace e1 := ev_tmp e1
     refine ev_val (.string s) W ?_ (KeepBut.refl _ _ _) ⟨s, rfl, hs⟩ hJ
     clear h1 hu
     go_simp
    ·exact ev_val (.slice (some ⟨W.heap.size, 0, none⟩) 4 4) (W.alloc (.cells csM.toArray 9)) (by go_simp; rfl) (keep_alloc (KeepBut.refl _ _ _) _) ⟨_, rfl, blk_new _ _, by have := hJ.1.lt; omega⟩ ⟨hJ.1.alloc _, below_alloc hJ.2 _⟩
    ·exact ev_val _ _ rfl (KeepBut.refl _ _ _) ((oth 0 (by kernel_rfl)).trans rfl) hJ
    ·have e1 : b.eval (.tmp 31) = .pointer (some ⟨g, 0, none⟩) := dep 6 31 rfl (by kernel_rfl)
     have hn2 : n + 1 ≤ 3 := hn
     refine ok_call (R := fun W W' => KeepBut W W' g none) (Φ := evPhi g) Try.func31 (by kernel_rfl) rfl #[.pointer (some ⟨g, 0, none⟩), .int .i64 4] rfl (by rw [← e1]; simp [Act.eval]) ((next_calls g xs (t + 1 + n) 4 w0 W hJ.1 hJ.2 (by omega) (by omega) (by omega) (by omega)).mono fun e W' ⟨r, he, r0, r1, h1, h2, h3⟩ => ⟨_, he, h3, ⟨r.toNat, by rw [Int.toNat_of_nonneg r0], by omega⟩, ⟨?_, h2⟩⟩)
     have e2 : t + 1 + ((n + 1 : Nat) : Int) = t + 1 + n + 1 := by omega
     show IsS65 w0 W' g xs (t + 1 + ((n + 1 : Nat) : Int))
     rw [e2]
     exact h1
    ·obtain ⟨k1, e1, h1, h2⟩ := dep 5 30 rfl (by kernel_rfl)
     obtain ⟨r, e2, h3⟩ := dep 7 32 rfl (by kernel_rfl)
     have h3' := h3
     replace e1 := ev_tmp e1
     replace e2 := ev_tmp e2
     refine ev_val (.pointer (some ⟨k1, r, none⟩)) W ?_ (KeepBut.refl _ _ _) ⟨k1, r, rfl, h3, h1, h2⟩ hJ
     clear h1
     simp only [csF, csM, csP, List.length_cons, List.length_nil] at e1
     replace h3' : r < 4 := h3'
     go_simp
     intro hbad
     exact absurd hbad (by omega)
    ·obtain ⟨k1, r, e1, h3, h1, h2⟩ := dep 8 33 rfl (by kernel_rfl)
     obtain ⟨u, hu, s, rfl, hs⟩ := arr_at csM_ok r h3
     have hc : W.cell? ⟨k1, r, none⟩ = some (.string s) := (blk_cell h1 r).trans hu
     replace e1 := ev_tmp e1
     refine ev_val (.string s) W ?_ (KeepBut.refl _ _ _) ⟨s, rfl, hs⟩ hJ
     clear h1 hu
     go_simp
    ·exact ev_val (.slice (some ⟨W.heap.size, 0, none⟩) 4 4) (W.alloc (.cells csP.toArray 9)) (by go_simp; rfl) (keep_alloc (KeepBut.refl _ _ _) _) ⟨_, rfl, blk_new _ _, by have := hJ.1.lt; omega⟩ ⟨hJ.1.alloc _, below_alloc hJ.2 _⟩
    ·exact ev_val _ _ rfl (KeepBut.refl _ _ _) ((oth 0 (by kernel_rfl)).trans rfl) hJ
    ·have e1 : b.eval (.tmp 36) = .pointer (some ⟨g, 0, none⟩) := dep 11 36 rfl (by kernel_rfl)
     have hn2 : n + 1 ≤ 3 := hn
     refine ok_call (R := fun W W' => KeepBut W W' g none) (Φ := evPhi g) Try.func31 (by kernel_rfl) rfl #[.pointer (some ⟨g, 0, none⟩), .int .i64 4] rfl (by rw [← e1]; simp [Act.eval]) ((next_calls g xs (t + 1 + n) 4 w0 W hJ.1 hJ.2 (by omega) (by omega) (by omega) (by omega)).mono fun e W' ⟨r, he, r0, r1, h1, h2, h3⟩ => ⟨_, he, h3, ⟨r.toNat, by rw [Int.toNat_of_nonneg r0], by omega⟩, ⟨?_, h2⟩⟩)
     have e2 : t + 1 + ((n + 1 : Nat) : Int) = t + 1 + n + 1 := by omega
     show IsS65 w0 W' g xs (t + 1 + ((n + 1 : Nat) : Int))
     rw [e2]
     exact h1
    ·obtain ⟨k1, e1, h1, h2⟩ := dep 10 35 rfl (by kernel_rfl)
     obtain ⟨r, e2, h3⟩ := dep 12 37 rfl (by kernel_rfl)
     have h3' := h3
     replace e1 := ev_tmp e1
     replace e2 := ev_tmp e2
     refine ev_val (.pointer (some ⟨k1, r, none⟩)) W ?_ (KeepBut.refl _ _ _) ⟨k1, r, rfl, h3, h1, h2⟩ hJ
     clear h1
     simp only [csF, csM, csP, List.length_cons, List.length_nil] at e1
     replace h3' : r < 4 := h3'
     go_simp
     intro hbad
     exact absurd hbad (by omega)
    ·obtain ⟨k1, r, e1, h3, h1, h2⟩ := dep 13 38 rfl (by kernel_rfl)
     obtain ⟨u, hu, s, rfl, hs⟩ := arr_at csP_ok r h3
     have hc : W.cell? ⟨k1, r, none⟩ = some (.string s) := (blk_cell h1 r).trans hu
     replace e1 := ev_tmp e1
     refine ev_val (.string s) W ?_ (KeepBut.refl _ _ _) ⟨s, rfl, hs⟩ hJ
     clear h1 hu
     go_simp
    ·exact ev_val _ _ rfl (KeepBut.refl _ _ _) (dep 4 29 rfl (by kernel_rfl)) hJ
    ·exact ev_val _ _ rfl (KeepBut.refl _ _ _) (dep 9 34 rfl (by kernel_rfl)) hJ
    ·exact ev_val _ _ rfl (KeepBut.refl _ _ _) (dep 14 39 rfl (by kernel_rfl)) hJ
   ·intro v W hk hv hJ
    obtain ⟨sf, ef, hsf⟩ := hv 15 (by decide)
    obtain ⟨sm, em, hsm⟩ := hv 16 (by decide)
    obtain ⟨sp, ep, hsp⟩ := hv 17 (by decide)
    clear hv
    refine done_ (by kernel_rfl) ?_
    simp only [fillE, Act.put, List.setIfInBounds_toArray, List.set_cons_zero, List.set_cons_succ, ef, em, ep]
    have hkk5 : KeepBut w4 W g none := (KeepBut.of_below (below_drew (Below.refl _ _)) g none).trans hk (.inl rfl)
    replace HK := Aside0.mk (HK.out.trans hkk5 (.inl rfl))
    replace BE := Aside0.mk (hkk5.blk BE.out HN7.out (by simp))
    replace HR := Aside0.mk (R_keepB HR.out hkk5 HGW.out)
    replace HI := Aside0.mk (show IsS65 w0 W g xs (t + 4) from by have h := hJ.1; rwa [show t + 1 + (([2, 7, 12] : List Nat).length : Int) = t + 4 from by simp; omega] at h)
    replace HB := Aside0.mk hJ.2
    have HB8 := Aside0.mk (blk_lt BE.out)
    clear hkk5 hk hJ w4
    have HSF := Aside0.mk hsf
    have HSM := Aside0.mk hsm
    have HSP := Aside0.mk hsp
    clear hsf hsm hsp
    have he0 : W.cell? ⟨b7, 0, none⟩ = some (.int .i64 kd) := (blk_cell BE.out 0).trans rfl
    have he1 : W.cell? ⟨b7, 1, none⟩ = some (.string ⟨#[]⟩) := (blk_cell BE.out 1).trans rfl
    have he2 : W.cell? ⟨b7, 2, none⟩ = some (.string ⟨#[]⟩) := (blk_cell BE.out 2).trans rfl
    have he3 : W.cell? ⟨b7, 3, none⟩ = some (.string ⟨#[]⟩) := (blk_cell BE.out 3).trans rfl
    have he4 : W.cell? ⟨b7, 4, none⟩ = some (.int .u64 0) := (blk_cell BE.out 4).trans rfl
    have hf1 := blk_frozen BE.out 1
    have hf2 := blk_frozen BE.out 2
    have hf3 := blk_frozen BE.out 3
    have hf4 := blk_frozen BE.out 4
    obtain rfl | rfl | rfl | rfl | rfl : kd = 2 ∨ kd = 3 ∨ kd = 4 ∨ kd = 5 ∨ kd = 1 := by omega
    ·go_wp2_with ((with_reducible refine gate_builtin (b := .append) (xs := #[.tmp 68, .tmp 70]) rfl ?_); at_builtin; refine Kd.R_append (w0 := (W.setCell ⟨b7, 2, none⟩ (.string sf))) (W := (W.setCell ⟨b7, 2, none⟩ (.string sf))) k45 w.heap.size rfl (.tmp 68) (.tmp 70) 46 45 (.agg #[.int .i64 0, .string ⟨#[]⟩, .string ⟨#[]⟩, .string ⟨#[]⟩, .int .u64 0]) 64 rfl Try.underlying46 infoEv rfl (by decide) (by omega) u5 l ⟨2, ⟨#[]⟩, sf, ⟨#[]⟩, 0⟩ [.int .i64 2, .string ⟨#[]⟩, .string sf, .string ⟨#[]⟩, .int .u64 (0)] (fun k => k ≠ b7) (fun _ => False) rfl ?aX ?aP (fun _ hk => hk.elim) ?aN ?aO (Below.refl _ _) ?aS ?aL ?_; (case aX => show Value.slice _ _ _ = _; simp); (case aP => exact k45_mkM ..); (case aN => have := HB8.out; intro q hq; simp at hq; omega); (case aO => with_reducible repeat (first | exact HR.out | refine Kd.R_far ?_ (fun _ h => h) _)); (case aS => have := HK.out.1; simp; omega); (case aL => omega); intro v1 w6 ho hb1 hg1 hat1; have HO := Aside0.mk ho; have HB1 := Aside0.mk hb1; clear ho hb1 hg1 hat1)
     go_roundw
     case rel => exact ⟨k - 1, by go_num, by omega, ⟨ev_done HK.out HI.out HB.out HGW.out (Below.trans (by with_reducible repeat (first | exact Below.refl _ _ | refine Below.setCell ?_ HB7.out _)) HB1.out) (Kd.R_mono HO.out (fun _ _ => trivial)) (by omega) HG.out ⟨okS_nil.1, HSF.out.1, okS_nil.1, okS_nil.2.1, HSF.out.2.2⟩ (by omega) (by omega)⟩⟩
     case measure => simp [intOf]; omega
    ·go_wp2_with ((with_reducible refine gate_builtin (b := .append) (xs := #[.tmp 68, .tmp 70]) rfl ?_); at_builtin; refine Kd.R_append (w0 := ((W.setCell ⟨b7, 1, none⟩ (.string sm)).setCell ⟨b7, 2, none⟩ (.string sf))) (W := ((W.setCell ⟨b7, 1, none⟩ (.string sm)).setCell ⟨b7, 2, none⟩ (.string sf))) k45 w.heap.size rfl (.tmp 68) (.tmp 70) 46 45 (.agg #[.int .i64 0, .string ⟨#[]⟩, .string ⟨#[]⟩, .string ⟨#[]⟩, .int .u64 0]) 64 rfl Try.underlying46 infoEv rfl (by decide) (by omega) u5 l ⟨3, sm, sf, ⟨#[]⟩, 0⟩ [.int .i64 3, .string sm, .string sf, .string ⟨#[]⟩, .int .u64 (0)] (fun k => k ≠ b7) (fun _ => False) rfl ?aX ?aP (fun _ hk => hk.elim) ?aN ?aO (Below.refl _ _) ?aS ?aL ?_; (case aX => show Value.slice _ _ _ = _; simp); (case aP => exact k45_mkM ..); (case aN => have := HB8.out; intro q hq; simp at hq; omega); (case aO => with_reducible repeat (first | exact HR.out | refine Kd.R_far ?_ (fun _ h => h) _)); (case aS => have := HK.out.1; simp; omega); (case aL => omega); intro v1 w6 ho hb1 hg1 hat1; have HO := Aside0.mk ho; have HB1 := Aside0.mk hb1; clear ho hb1 hg1 hat1)
     go_roundw
     case rel => exact ⟨k - 1, by go_num, by omega, ⟨ev_done HK.out HI.out HB.out HGW.out (Below.trans (by with_reducible repeat (first | exact Below.refl _ _ | refine Below.setCell ?_ HB7.out _)) HB1.out) (Kd.R_mono HO.out (fun _ _ => trivial)) (by omega) HG.out ⟨HSM.out.1, HSF.out.1, okS_nil.1, HSM.out.2.1, HSF.out.2.2⟩ (by omega) (by omega)⟩⟩
     case measure => simp [intOf]; omega
    ·go_wp2_with ((with_reducible refine gate_builtin (b := .append) (xs := #[.tmp 68, .tmp 70]) rfl ?_); at_builtin; refine Kd.R_append (w0 := ((W.setCell ⟨b7, 1, none⟩ (.string sm)).setCell ⟨b7, 2, none⟩ (.string sf))) (W := ((W.setCell ⟨b7, 1, none⟩ (.string sm)).setCell ⟨b7, 2, none⟩ (.string sf))) k45 w.heap.size rfl (.tmp 68) (.tmp 70) 46 45 (.agg #[.int .i64 0, .string ⟨#[]⟩, .string ⟨#[]⟩, .string ⟨#[]⟩, .int .u64 0]) 64 rfl Try.underlying46 infoEv rfl (by decide) (by omega) u5 l ⟨4, sm, sf, ⟨#[]⟩, 0⟩ [.int .i64 4, .string sm, .string sf, .string ⟨#[]⟩, .int .u64 (0)] (fun k => k ≠ b7) (fun _ => False) rfl ?aX ?aP (fun _ hk => hk.elim) ?aN ?aO (Below.refl _ _) ?aS ?aL ?_; (case aX => show Value.slice _ _ _ = _; simp); (case aP => exact k45_mkM ..); (case aN => have := HB8.out; intro q hq; simp at hq; omega); (case aO => with_reducible repeat (first | exact HR.out | refine Kd.R_far ?_ (fun _ h => h) _)); (case aS => have := HK.out.1; simp; omega); (case aL => omega); intro v1 w6 ho hb1 hg1 hat1; have HO := Aside0.mk ho; have HB1 := Aside0.mk hb1; clear ho hb1 hg1 hat1)
     go_roundw
     case rel => exact ⟨k - 1, by go_num, by omega, ⟨ev_done HK.out HI.out HB.out HGW.out (Below.trans (by with_reducible repeat (first | exact Below.refl _ _ | refine Below.setCell ?_ HB7.out _)) HB1.out) (Kd.R_mono HO.out (fun _ _ => trivial)) (by omega) HG.out ⟨HSM.out.1, HSF.out.1, okS_nil.1, HSM.out.2.1, HSF.out.2.2⟩ (by omega) (by omega)⟩⟩
     case measure => simp [intOf]; omega
    ·go_wp2_with ((with_reducible refine gate_builtin (b := .append) (xs := #[.tmp 68, .tmp 70]) rfl ?_); at_builtin; refine Kd.R_append (w0 := ((W.setCell ⟨b7, 1, none⟩ (.string sm)).setCell ⟨b7, 3, none⟩ (.string sp))) (W := ((W.setCell ⟨b7, 1, none⟩ (.string sm)).setCell ⟨b7, 3, none⟩ (.string sp))) k45 w.heap.size rfl (.tmp 68) (.tmp 70) 46 45 (.agg #[.int .i64 0, .string ⟨#[]⟩, .string ⟨#[]⟩, .string ⟨#[]⟩, .int .u64 0]) 64 rfl Try.underlying46 infoEv rfl (by decide) (by omega) u5 l ⟨5, sm, ⟨#[]⟩, sp, 0⟩ [.int .i64 5, .string sm, .string ⟨#[]⟩, .string sp, .int .u64 (0)] (fun k => k ≠ b7) (fun _ => False) rfl ?aX ?aP (fun _ hk => hk.elim) ?aN ?aO (Below.refl _ _) ?aS ?aL ?_; (case aX => show Value.slice _ _ _ = _; simp); (case aP => exact k45_mkM ..); (case aN => have := HB8.out; intro q hq; simp at hq; omega); (case aO => with_reducible repeat (first | exact HR.out | refine Kd.R_far ?_ (fun _ h => h) _)); (case aS => have := HK.out.1; simp; omega); (case aL => omega); intro v1 w6 ho hb1 hg1 hat1; have HO := Aside0.mk ho; have HB1 := Aside0.mk hb1; clear ho hb1 hg1 hat1)
     go_roundw
     case rel => exact ⟨k - 1, by go_num, by omega, ⟨ev_done HK.out HI.out HB.out HGW.out (Below.trans (by with_reducible repeat (first | exact Below.refl _ _ | refine Below.setCell ?_ HB7.out _)) HB1.out) (Kd.R_mono HO.out (fun _ _ => trivial)) (by omega) HG.out ⟨HSM.out.1, okS_nil.1, HSP.out.1, HSM.out.2.1, okS_nil.2.2⟩ (by omega) (by omega)⟩⟩
     case measure => simp [intOf]; omega
    ·go_wp2_with fail
     refine (next_calls g xs (t + 4) 2 w0 _ HI.out HB.out (by omega) (by omega) (by omega) (by omega)).mono ?_
     rintro e w7 ⟨r7, rfl, r70, r71, hI7, hB7, hK7⟩
     replace HK := Aside0.mk (HK.out.trans hK7 (.inl rfl))
     replace BE := Aside0.mk (hK7.blk BE.out HN7.out (by simp))
     replace HR := Aside0.mk (R_keepB HR.out hK7 HGW.out)
     replace HB8 := Aside0.mk (blk_lt BE.out)
     have HI7 := Aside0.mk hI7
     have HB9 := Aside0.mk hB7
     clear hK7 hI7 hB7 he0 he1 he2 he3 he4 hf1 hf2 hf3 hf4 HI HB
     obtain ⟨w8, hw8⟩ : ∃ w8, w8 = w7 := ⟨_, rfl⟩
     rw [← hw8] at HK BE HR HB8 HI7 HB9 ⊢
     clear hw8 W w7
     have he0 : w8.cell? ⟨b7, 0, none⟩ = some (.int .i64 1) := (blk_cell BE.out 0).trans rfl
     have he1 : w8.cell? ⟨b7, 1, none⟩ = some (.string ⟨#[]⟩) := (blk_cell BE.out 1).trans rfl
     have he2 : w8.cell? ⟨b7, 2, none⟩ = some (.string ⟨#[]⟩) := (blk_cell BE.out 2).trans rfl
     have he3 : w8.cell? ⟨b7, 3, none⟩ = some (.string ⟨#[]⟩) := (blk_cell BE.out 3).trans rfl
     have he4 : w8.cell? ⟨b7, 4, none⟩ = some (.int .u64 0) := (blk_cell BE.out 4).trans rfl
     have hf2 := blk_frozen BE.out 2
     have hf4 := blk_frozen BE.out 4
     go_wp2_with ((with_reducible refine gate_builtin (b := .append) (xs := #[.tmp 68, .tmp 70]) rfl ?_); at_builtin; refine Kd.R_append (w0 := ((w8.setCell ⟨b7, 2, none⟩ (.string sf)).setCell ⟨b7, 4, none⟩ (.int .u64 (1 + r7)))) (W := ((w8.setCell ⟨b7, 2, none⟩ (.string sf)).setCell ⟨b7, 4, none⟩ (.int .u64 (1 + r7)))) k45 w.heap.size rfl (.tmp 68) (.tmp 70) 46 45 (.agg #[.int .i64 0, .string ⟨#[]⟩, .string ⟨#[]⟩, .string ⟨#[]⟩, .int .u64 0]) 64 rfl Try.underlying46 infoEv rfl (by decide) (by omega) u5 l ⟨1, ⟨#[]⟩, sf, ⟨#[]⟩, 1 + r7⟩ [.int .i64 1, .string ⟨#[]⟩, .string sf, .string ⟨#[]⟩, .int .u64 (1 + r7)] (fun k => k ≠ b7) (fun _ => False) rfl ?aX ?aP (fun _ hk => hk.elim) ?aN ?aO (Below.refl _ _) ?aS ?aL ?_; (case aX => show Value.slice _ _ _ = _; simp); (case aP => exact k45_mkM ..); (case aN => have := HB8.out; intro q hq; simp at hq; omega); (case aO => with_reducible repeat (first | exact HR.out | refine Kd.R_far ?_ (fun _ h => h) _)); (case aS => have := HK.out.1; simp; omega); (case aL => omega); intro v1 w6 ho hb1 hg1 hat1; have HO := Aside0.mk ho; have HB1 := Aside0.mk hb1; clear ho hb1 hg1 hat1)
     go_roundw
     case rel => exact ⟨k - 1, by go_num, by omega, ⟨ev_done HK.out HI7.out HB9.out HGW.out (Below.trans (by with_reducible repeat (first | exact Below.refl _ _ | refine Below.setCell ?_ HB7.out _)) HB1.out) (Kd.R_mono HO.out (fun _ _ => trivial)) (by omega) HG.out ⟨okS_nil.1, HSF.out.1, okS_nil.1, okS_nil.2.1, HSF.out.2.2⟩ (by omega) (by omega)⟩⟩
     case measure => simp [intOf]; omega
  ·obtain rfl : k = 0 := by omega
   go_wp2
   go_ret
   exact ⟨_, rfl, HE.out⟩
end Go.Proofs.Ytpnhkmicepmciaa.Y

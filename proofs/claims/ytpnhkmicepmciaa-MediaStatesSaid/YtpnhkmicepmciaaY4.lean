/- A part of this claim's walks: functions' contracts, or plain lemmas; conditions: each one's own. -/
import Derived.Test.YtpnhkmicepmciaaY0
import Derived.Test.YtpnhkmicepmciaaPar
namespace Go.Proofs.Ytpnhkmicepmciaa.Y
open Go.RowKit Go.Proofs.YtpnhkmicepmciaaW.PrintWords Go.Proofs.YtpnhkmicepmciaaW.PrintLast Go.Proofs.YtpnhkmicepmciaaW.PrintMore Go.Proofs.Ytpnhkmicepmciaa.Par
attribute [local go_sem] max2_int min2_int max_two min_two max_three min_three max_four min_four   -- for this text's walks alone
set_option linter.unusedVariables false
set_option linter.unusedSimpArgs false
def media_Sum.l0 : Nat → Int → List Int → Int → Int → Option (Int)
 | 0, _, _, _, _ => none
 | k + 1, x3, x6, x7, x8 => if x8 < x7 then (if 0 ≤ x8 then (if x8 < (x6.length : Int) then (media_Sum.l0 k (IntKind.u64.wrap ((Go.bits .xor .u64 x3 (IntKind.u64.wrap (rd x6 x8))) * 1099511628211)) x6 x7 (wrap64 (x8 + 1))) else (none)) else (none)) else (some x3)
def media_Sum.f (k : Nat) (l0 : List Int) : Option (Int) := media_Sum.l0 k 14695981039346656037 l0 (l0.length : Int) 0
theorem media_Sum.mono_l : ∀ k, (∀ y0 y1 y2 y3, LeO (media_Sum.l0 k y0 y1 y2 y3) (media_Sum.l0 (k + 1) y0 y1 y2 y3))
 | 0 => fun _ _ _ _ r h => by simp [media_Sum.l0] at h
 | k + 1 => by
  have ih0 := media_Sum.mono_l k
  ·intro y0 y1 y2 y3
   unfold media_Sum.l0
   repeat' first
   | (with_reducible exact ih0 _ _ _ _)
   | (with_reducible exact LeO.refl _)
   | (with_reducible exact LeO.none _)
   | (with_reducible refine LeO.ite ?_ ?_)
   | (with_reducible refine LeO.bind ?_ (fun _ => ?_))
   | exact ih0 _ _ _ _
   | exact LeO.none _
   | refine LeO.ite ?_ ?_
   | refine LeO.bind ?_ (fun _ => ?_)
theorem media_Sum.mono : ∀ a0 k, LeO (media_Sum.f k a0) (media_Sum.f (k + 1) a0) := by
 intro a0 k
 have ih0 := media_Sum.mono_l k
 unfold media_Sum.f
 repeat' first
   | (with_reducible exact ih0 _ _ _ _)
   | (with_reducible exact LeO.refl _)
   | (with_reducible exact LeO.none _)
   | (with_reducible refine LeO.ite ?_ ?_)
   | (with_reducible refine LeO.bind ?_ (fun _ => ?_))
   | exact ih0 _ _ _ _
   | exact LeO.none _
   | refine LeO.ite ?_ ?_
   | refine LeO.bind ?_ (fun _ => ?_)
set_option maxHeartbeats 8000000 in
set_option maxRecDepth 100000 in
theorem media_Sum.calls (k : Nat) (A0 : Option Addr) (c0 : Nat) (l0 : List Int) (r : Int) (w : World) (hr0 : Kd.C (Kd.int .u8) w A0 l0.length l0) (hc0 : l0.length ≤ c0) (h : media_Sum.f k l0 = some r) :
  Calls Try.prog 9 #[.slice A0 l0.length c0] w fun e w' => e = .returned (.int .u64 r) ∧ Drawn0 w w' := by
 have HR0 := Aside0.mk hr0
 have HC0 := Aside0.mk hc0
 clear hr0 hc0
 have H : (media_Sum.l0 k 14695981039346656037 l0 (l0.length : Int) 0) = some r := h
 clear h
 have H' := Aside0.mk H
 clear H
 go_enter Try.func9, Try.ntmps9
 go_wp2
 go_loopg [3, 8] k (fun kq v3 v8 w' => ∃ (x3_1 : Int) (x8_1 : Int), v3 = .int .u64 x3_1 ∧ v8 = .int .i64 x8_1 ∧ Aside0 (media_Sum.l0 kq x3_1 l0 (l0.length : Int) x8_1 = some r) ∧ Aside0 (kq ≤ k) ∧ Drawn0 w w')
 case atStart => exact ⟨(14695981039346656037), (0), (by first | rfl | (simp; done) | (simp [*]; done)), (by first | rfl | (simp; done) | (simp [*]; done)), H', ⟨Nat.le_refl _⟩, by repeat (first | exact Drawn0.refl _ | apply Drawn0.step)⟩
 case round =>
  clear H'
  obtain ⟨x3_1, x8_1, rfl, rfl, HA, HK1, ⟨m1, rfl⟩⟩ := hrel
  cases gk with
  | zero => exact absurd HA.out (by simp [media_Sum.l0])
  | succ k1 =>
   have H := HA.out
   clear HA
   simp only [media_Sum.l0] at H
   by_cases c2 : x8_1 < (l0.length : Int)
   ·rw [if_pos c2] at H
    have c2b0 : decide (x8_1 < (l0.length : Int)) = true := decide_eq_true c2
    clear c2
    by_cases c3 : 0 ≤ x8_1
    ·rw [if_pos c3] at H
     have c3b0 : decide (0 ≤ x8_1) = true := decide_eq_true c3
     clear c3
     by_cases c4 : x8_1 < (l0.length : Int)
     ·rw [if_pos c4] at H
      have c4b0 : decide (x8_1 < (l0.length : Int)) = true := decide_eq_true c4
      clear c4
      have H' := Aside0.mk H
      clear H
      have p101 : 0 ≤ (x8_1 : Int) := of_decide_eq_true (by first | (with_reducible assumption) | assumption)
      have q101 : x8_1 < (l0.length : Int) := of_decide_eq_true (by first | (with_reducible assumption) | assumption)
      obtain ⟨ad101, e101, hx101_0⟩ := Kd.at_int HR0.out x8_1 p101 q101
      cases e101
      replace p101 := eq_true p101
      replace q101 := eq_true q101
      go_wp2
      go_roundg k1
      case measure => have := HK1.out; omega
      case rel => exact ⟨(IntKind.u64.wrap ((Go.bits .xor .u64 x3_1 (IntKind.u64.wrap (rd l0 x8_1))) * 1099511628211)), (wrap64 (x8_1 + 1)), (by first | rfl | (simp; done) | (simp [*]; done)), (by first | rfl | (simp; done) | (simp [*]; done)), H', ⟨by have := HK1.out; omega⟩, by repeat (first | exact Drawn0.refl _ | apply Drawn0.step)⟩
     ·rw [if_neg c4] at H
      exact absurd H (by simp)
    ·rw [if_neg c3] at H
     exact absurd H (by simp)
   ·rw [if_neg c2] at H
    have c2b0 : decide (x8_1 < (l0.length : Int)) = false := decide_eq_false c2
    clear c2
    obtain rfl := Option.some.inj H
    go_wp2
    go_ret
    exact ⟨by first | rfl | (simp; done) | (simp [*]; done), by repeat (first | exact Drawn0.refl _ | apply Drawn0.step)⟩
def firstAt {α : Type} (p : α → Bool) (l : List α) : Int := match l.findIdx? p with | some i => (i : Int) | none => -1
theorem clo_file (x : S37) (g : Nat) (nm : ByteArray) (w : World) (hg : w.cell? ⟨g, 0, none⟩ = some (.string nm)) (hl : g < w.heap.size) :
  Calls Try.prog 44 #[.agg #[.string x.f0, .int .u64 x.f1, .bool x.f2], .pointer (some ⟨g, 0, none⟩)] w fun e w' => e = .returned (.bool (x.f0.toList == nm.toList)) ∧ Below w.heap.size w w' := by
 have hu := Try.underlying37
 have hg2 : (w.alloc (.cells #[.string x.f0, .int .u64 x.f1, .bool x.f2] 37)).cell? ⟨g, 0, none⟩ = some (.string nm) := by
  rw [World.cell?_alloc_past _ _ _ hl]; exact hg
 go_enter Try.func44, Try.ntmps44
 go_wp2
 go_ret
 exact ⟨rfl, (Below.refl _ _).alloc (Nat.le_refl _) _⟩
set_option maxHeartbeats 1000000 in
set_option maxRecDepth 100000 in
theorem file_index (A : Option Addr) (c : Nat) (l : List S37) (g : Nat) (nm : ByteArray) (w : World) (hr : Kd.C k37 w A l.length l) (hg : w.cell? ⟨g, 0, none⟩ = some (.string nm)) (hl : g < w.heap.size) :
  Calls Try.prog 43 #[.slice A l.length c, .func (.func 44) #[] #[.pointer (some ⟨g, 0, none⟩)]] w fun e w' => e = .returned (.int .i64 (firstAt (fun x : S37 => x.f0.toList == nm.toList) l)) ∧ Below w.heap.size w w' := by
 have HR := Aside0.mk hr
 have hlen : l.length ≤ 9223372036854775807 := hr.2.1
 clear hr
 obtain ⟨r, hr⟩ : ∃ r, r = firstAt (fun x : S37 => x.f0.toList == nm.toList) l := ⟨_, rfl⟩
 rw [← hr]
 have HRR := Aside0.mk hr
 clear hr
 have hu37 := Try.underlying37
 go_enter Try.func43, Try.ntmps43
 go_wp2
 go_loopw [8] (fun i wr => ∃ k : Nat, k ≤ l.length ∧ i = .int .i64 k ∧ Aside0 (∀ j, j < k → ∀ h : j < l.length, ((l[j]'h).f0.toList == nm.toList) = false) ∧ Aside0 (Below w.heap.size w wr)) (fun i _ => l.length - (intOf i).toNat)
 case atStart => exact ⟨0, Nat.zero_le _, rfl, ⟨fun j hj => absurd hj (by omega)⟩, ⟨Below.refl _ _⟩⟩
 case round =>
  obtain ⟨k, hk, rfl, HK, HB⟩ := hrel
  by_cases hlt : k < l.length
  ·obtain ⟨ad, e1, hx0, hx1, hx2⟩ := at_T37 HR.out (k : Int) (by omega) (by omega)
   cases e1
   replace hx0 := (HB.out.cell (World.block_lt_of_cell? w _ hx0)).trans hx0
   replace hx1 := (HB.out.cell (World.block_lt_of_cell? w _ hx1)).trans hx1
   replace hx2 := (HB.out.cell (World.block_lt_of_cell? w _ hx2)).trans hx2
   have hg2 : wr.cell? ⟨g, 0, none⟩ = some (.string nm) := (HB.out.cell (World.block_lt_of_cell? w _ hg)).trans hg
   have hl2 : g < wr.heap.size := Nat.lt_of_lt_of_le hl HB.out.size
   rw [Int.toNat_natCast] at hx0 hx1 hx2
   have p1 : (0 ≤ (k : Int)) = True := eq_true (by omega)
   have q1 : ((k : Int) < (l.length : Int)) = True := eq_true (by omega)
   go_wp2_with fail
   refine (clo_file _ g nm _ hg2 hl2).mono ?_
   rintro e w1 ⟨rfl, hb1⟩
   have hb2 : Below w.heap.size w w1 := below_then HB.out HB.out.size hb1
   have HB2 := Aside0.mk hb2
   clear hb1 hb2 hg2 hl2 hx0 hx1 hx2 p1 q1
   obtain ⟨b, hbv⟩ : ∃ b, b = ((rd_T37 l (k : Int)).f0.toList == nm.toList) := ⟨_, rfl⟩
   rw [← hbv]
   have Hbv := Aside0.mk hbv
   clear hbv
   have hrd : rd_T37 l (k : Int) = l[k]'hlt := by simp [rd_T37, List.getD, hlt]
   cases b with
   | true =>
    have hr : r = (k : Int) := by
     rw [HRR.out]
     unfold firstAt
     have : l.findIdx? (fun x : S37 => x.f0.toList == nm.toList) = some k := by
      rw [List.findIdx?_eq_some_iff_getElem]
      refine ⟨hlt, ?_, fun j hj => ?_⟩
      ·rw [hrd] at Hbv; exact Hbv.out.symm
      ·rw [HK.out j hj (by omega)]; simp
     rw [this]
    subst hr
    clear hrd
    go_wp2
    go_ret
    exact ⟨rfl, HB2.out⟩
   | false =>
    have hK2 : Aside0 (∀ j, j < k + 1 → ∀ h : j < l.length, ((l[j]'h).f0.toList == nm.toList) = false) := ⟨fun j hj h => by
     rcases Nat.lt_or_ge j k with h1 | h1
     ·exact HK.out j h1 h
     ·obtain rfl : j = k := by omega
      rw [hrd] at Hbv; exact Hbv.out.symm⟩
    clear hrd
    go_wp2
    go_roundw
    case rel => exact ⟨k + 1, by omega, by go_num, hK2, HB2⟩
    case measure => simp [intOf]; omega
  ·obtain rfl : k = l.length := by omega
   have hr : r = -1 := by
    rw [HRR.out]
    unfold firstAt
    have : l.findIdx? (fun x : S37 => x.f0.toList == nm.toList) = none := by
     rw [List.findIdx?_eq_none_iff]
     intro x hx
     obtain ⟨j, hj, rfl⟩ := List.getElem_of_mem hx
     exact HK.out j hj hj
    rw [this]
   subst hr
   go_wp2
   go_ret
   exact ⟨rfl, HB.out⟩
def media_State_file.f (l0_0 : List S37) (l0_1 : List S39) (a1 : ByteArray) : Option Int := some (firstAt (fun x : S37 => x.f0.toList == a1.toList) l0_0)
set_option maxHeartbeats 1000000 in
set_option maxRecDepth 100000 in
theorem media_State_file.calls (A0_0 : Option Addr) (c0_0 : Nat) (l0_0 : List (S37)) (A0_1 : Option Addr) (c0_1 : Nat) (l0_1 : List (S39)) (a1 : ByteArray) (r : Int) (w : World) (hr0_0 : Kd.C k37 w A0_0 l0_0.length l0_0) (hc0_0 : l0_0.length ≤ c0_0) (hr0_1 : Kd.C k39 w A0_1 l0_1.length l0_1) (hc0_1 : l0_1.length ≤ c0_1) (h : media_State_file.f l0_0 l0_1 a1 = some r) :
  Calls Try.prog 40 #[.agg #[.slice A0_0 l0_0.length c0_0, .slice A0_1 l0_1.length c0_1], .string a1] w fun e w' => e = .returned (.int .i64 r) ∧ Below w.heap.size w w' := by
 have hu30 := Try.underlying30
 have HR := Aside0.mk hr0_0
 have hmf : ∀ (fn : Fn) (first cap : Array Value) (w : World), (Instr.makeFunc fn first cap).run Try.prog w = .ok (.func fn first cap) w := fun _ _ _ _ => rfl
 obtain rfl : firstAt (fun x : S37 => x.f0.toList == a1.toList) l0_0 = r := Option.some.inj h
 clear hr0_0 hc0_0 hr0_1 hc0_1 h
 go_enter Try.func40, Try.ntmps40
 go_wp2_with fail
 refine (file_index _ _ l0_0 (w.heap.size + 1) a1 _ (Kd.C_below HR.out (((Below.refl _ _).alloc (Nat.le_refl _) _).alloc (by simp) _)) ?_ ?_).mono ?_
 ·rw [World.cell?_alloc_at _ _ _ _ (by simp)]; rfl
 ·simp
 rintro e w1 ⟨rfl, hb⟩
 have HB := Aside0.mk (((Below.refl w.heap.size w).alloc (Nat.le_refl _) _).alloc (by simp) _ |>.trans (hb.mono (by simp; omega)))
 clear hb
 go_wp2
 go_ret
 exact ⟨rfl, HB.out⟩
theorem clo_link (x : S39) (g : Nat) (nm : ByteArray) (w : World) (hg : w.cell? ⟨g, 0, none⟩ = some (.string nm)) (hl : g < w.heap.size) :
  Calls Try.prog 39 #[.agg #[.string x.f0, .string x.f1, .int .u64 x.f2, .string x.f3], .pointer (some ⟨g, 0, none⟩)] w fun e w' => e = .returned (.bool (x.f0.toList == nm.toList)) ∧ Below w.heap.size w w' := by
 have hu := Try.underlying39
 have hg2 : (w.alloc (.cells #[.string x.f0, .string x.f1, .int .u64 x.f2, .string x.f3] 39)).cell? ⟨g, 0, none⟩ = some (.string nm) := by
  rw [World.cell?_alloc_past _ _ _ hl]; exact hg
 go_enter Try.func39, Try.ntmps39
 go_wp2
 go_ret
 exact ⟨rfl, (Below.refl _ _).alloc (Nat.le_refl _) _⟩
set_option maxHeartbeats 1000000 in
set_option maxRecDepth 100000 in
theorem link_index (A : Option Addr) (c : Nat) (l : List S39) (g : Nat) (nm : ByteArray) (w : World) (hr : Kd.C k39 w A l.length l) (hg : w.cell? ⟨g, 0, none⟩ = some (.string nm)) (hl : g < w.heap.size) :
  Calls Try.prog 38 #[.slice A l.length c, .func (.func 39) #[] #[.pointer (some ⟨g, 0, none⟩)]] w fun e w' => e = .returned (.int .i64 (firstAt (fun x : S39 => x.f0.toList == nm.toList) l)) ∧ Below w.heap.size w w' := by
 have HR := Aside0.mk hr
 have hlen : l.length ≤ 9223372036854775807 := hr.2.1
 clear hr
 obtain ⟨r, hr⟩ : ∃ r, r = firstAt (fun x : S39 => x.f0.toList == nm.toList) l := ⟨_, rfl⟩
 rw [← hr]
 have HRR := Aside0.mk hr
 clear hr
 have hu39 := Try.underlying39
 go_enter Try.func38, Try.ntmps38
 go_wp2
 go_loopw [8] (fun i wr => ∃ k : Nat, k ≤ l.length ∧ i = .int .i64 k ∧ Aside0 (∀ j, j < k → ∀ h : j < l.length, ((l[j]'h).f0.toList == nm.toList) = false) ∧ Aside0 (Below w.heap.size w wr)) (fun i _ => l.length - (intOf i).toNat)
 case atStart => exact ⟨0, Nat.zero_le _, rfl, ⟨fun j hj => absurd hj (by omega)⟩, ⟨Below.refl _ _⟩⟩
 case round =>
  obtain ⟨k, hk, rfl, HK, HB⟩ := hrel
  by_cases hlt : k < l.length
  ·obtain ⟨ad, e1, hx0, hx1, hx2, hx3⟩ := at_T39 HR.out (k : Int) (by omega) (by omega)
   cases e1
   replace hx0 := (HB.out.cell (World.block_lt_of_cell? w _ hx0)).trans hx0
   replace hx1 := (HB.out.cell (World.block_lt_of_cell? w _ hx1)).trans hx1
   replace hx2 := (HB.out.cell (World.block_lt_of_cell? w _ hx2)).trans hx2
   replace hx3 := (HB.out.cell (World.block_lt_of_cell? w _ hx3)).trans hx3
   have hg2 : wr.cell? ⟨g, 0, none⟩ = some (.string nm) := (HB.out.cell (World.block_lt_of_cell? w _ hg)).trans hg
   have hl2 : g < wr.heap.size := Nat.lt_of_lt_of_le hl HB.out.size
   rw [Int.toNat_natCast] at hx0 hx1 hx2 hx3
   have p1 : (0 ≤ (k : Int)) = True := eq_true (by omega)
   have q1 : ((k : Int) < (l.length : Int)) = True := eq_true (by omega)
   go_wp2_with fail
   refine (clo_link _ g nm _ hg2 hl2).mono ?_
   rintro e w1 ⟨rfl, hb1⟩
   have hb2 : Below w.heap.size w w1 := below_then HB.out HB.out.size hb1
   have HB2 := Aside0.mk hb2
   clear hb1 hb2 hg2 hl2 hx0 hx1 hx2 hx3 p1 q1
   obtain ⟨b, hbv⟩ : ∃ b, b = ((rd_T39 l (k : Int)).f0.toList == nm.toList) := ⟨_, rfl⟩
   rw [← hbv]
   have Hbv := Aside0.mk hbv
   clear hbv
   have hrd : rd_T39 l (k : Int) = l[k]'hlt := by simp [rd_T39, List.getD, hlt]
   cases b with
   | true =>
    have hr : r = (k : Int) := by
     rw [HRR.out]
     unfold firstAt
     have : l.findIdx? (fun x : S39 => x.f0.toList == nm.toList) = some k := by
      rw [List.findIdx?_eq_some_iff_getElem]
      refine ⟨hlt, ?_, fun j hj => ?_⟩
      ·rw [hrd] at Hbv; exact Hbv.out.symm
      ·rw [HK.out j hj (by omega)]; simp
     rw [this]
    subst hr
    clear hrd
    go_wp2
    go_ret
    exact ⟨rfl, HB2.out⟩
   | false =>
    have hK2 : Aside0 (∀ j, j < k + 1 → ∀ h : j < l.length, ((l[j]'h).f0.toList == nm.toList) = false) := ⟨fun j hj h => by
     rcases Nat.lt_or_ge j k with h1 | h1
     ·exact HK.out j h1 h
     ·obtain rfl : j = k := by omega
      rw [hrd] at Hbv; exact Hbv.out.symm⟩
    clear hrd
    go_wp2
    go_roundw
    case rel => exact ⟨k + 1, by omega, by go_num, hK2, HB2⟩
    case measure => simp [intOf]; omega
  ·obtain rfl : k = l.length := by omega
   have hr : r = -1 := by
    rw [HRR.out]
    unfold firstAt
    have : l.findIdx? (fun x : S39 => x.f0.toList == nm.toList) = none := by
     rw [List.findIdx?_eq_none_iff]
     intro x hx
     obtain ⟨j, hj, rfl⟩ := List.getElem_of_mem hx
     exact HK.out j hj hj
    rw [this]
   subst hr
   go_wp2
   go_ret
   exact ⟨rfl, HB.out⟩
def media_State_link.f (l0_0 : List S37) (l0_1 : List S39) (a1 : ByteArray) : Option Int := some (firstAt (fun x : S39 => x.f0.toList == a1.toList) l0_1)
set_option maxHeartbeats 1000000 in
set_option maxRecDepth 100000 in
theorem media_State_link.calls (A0_0 : Option Addr) (c0_0 : Nat) (l0_0 : List (S37)) (A0_1 : Option Addr) (c0_1 : Nat) (l0_1 : List (S39)) (a1 : ByteArray) (r : Int) (w : World) (hr0_0 : Kd.C k37 w A0_0 l0_0.length l0_0) (hc0_0 : l0_0.length ≤ c0_0) (hr0_1 : Kd.C k39 w A0_1 l0_1.length l0_1) (hc0_1 : l0_1.length ≤ c0_1) (h : media_State_link.f l0_0 l0_1 a1 = some r) :
  Calls Try.prog 29 #[.agg #[.slice A0_0 l0_0.length c0_0, .slice A0_1 l0_1.length c0_1], .string a1] w fun e w' => e = .returned (.int .i64 r) ∧ Below w.heap.size w w' := by
 have hu30 := Try.underlying30
 have HR := Aside0.mk hr0_1
 have hmf : ∀ (fn : Fn) (first cap : Array Value) (w : World), (Instr.makeFunc fn first cap).run Try.prog w = .ok (.func fn first cap) w := fun _ _ _ _ => rfl
 obtain rfl : firstAt (fun x : S39 => x.f0.toList == a1.toList) l0_1 = r := Option.some.inj h
 clear hr0_0 hc0_0 hr0_1 hc0_1 h
 go_enter Try.func29, Try.ntmps29
 go_wp2_with fail
 refine (link_index _ _ l0_1 (w.heap.size + 1) a1 _ (Kd.C_below HR.out (((Below.refl _ _).alloc (Nat.le_refl _) _).alloc (by simp) _)) ?_ ?_).mono ?_
 ·rw [World.cell?_alloc_at _ _ _ _ (by simp)]; rfl
 ·simp
 rintro e w1 ⟨rfl, hb⟩
 have HB := Aside0.mk (((Below.refl w.heap.size w).alloc (Nat.le_refl _) _).alloc (by simp) _ |>.trans (hb.mono (by simp; omega)))
 clear hb
 go_wp2
 go_ret
 exact ⟨rfl, HB.out⟩
def media_State_present.f (l0_0 : List (S37)) (l0_1 : List (S39)) (a1 : ByteArray) : Option (Int) := (media_State_file.f l0_0 l0_1 a1).bind fun t103 => (if t103 = (-1) then (some (-1)) else (if 0 ≤ t103 then (if t103 < (l0_0.length : Int) then (if (rd_T37 l0_0 t103).f2 = true then (some t103) else (some (-1))) else (none)) else (none)))
set_option maxHeartbeats 8000000 in
set_option maxRecDepth 100000 in
theorem media_State_present.calls (A0_0 : Option Addr) (c0_0 : Nat) (l0_0 : List (S37)) (A0_1 : Option Addr) (c0_1 : Nat) (l0_1 : List (S39)) (a1 : ByteArray) (r : Int) (w : World) (hr0_0 : Kd.C k37 w A0_0 l0_0.length l0_0) (hc0_0 : l0_0.length ≤ c0_0) (hr0_1 : Kd.C k39 w A0_1 l0_1.length l0_1) (hc0_1 : l0_1.length ≤ c0_1) (h : media_State_present.f l0_0 l0_1 a1 = some r) :
  Calls Try.prog 30 #[.agg #[.slice A0_0 l0_0.length c0_0, .slice A0_1 l0_1.length c0_1], .string a1] w fun e w' => e = .returned (.int .i64 r) ∧ Below w.heap.size w w' := by
 have hu30 := Try.underlying30
 have HR0_0 := Aside0.mk hr0_0
 have HC0_0 := Aside0.mk hc0_0
 clear hr0_0 hc0_0
 have HR0_1 := Aside0.mk hr0_1
 have HC0_1 := Aside0.mk hc0_1
 clear hr0_1 hc0_1
 have HB := Aside0.mk (Below.refl w.heap.size w)
 have H : ((media_State_file.f l0_0 l0_1 a1).bind fun t103 => (if t103 = (-1) then (some (-1)) else (if 0 ≤ t103 then (if t103 < (l0_0.length : Int) then (if (rd_T37 l0_0 t103).f2 = true then (some t103) else (some (-1))) else (none)) else (none)))) = some r := h
 clear h
 replace H := Option.bind_eq_some_iff.mp H
 obtain ⟨t103, A30, H⟩ := H
 replace H : (if t103 = (-1) then (some (-1)) else (if 0 ≤ t103 then (if t103 < (l0_0.length : Int) then (if (rd_T37 l0_0 t103).f2 = true then (some t103) else (some (-1))) else (none)) else (none))) = some r := H
 have A3 := Aside0.mk A30
 clear A30
 by_cases c4 : t103 = (-1)
 ·rw [if_pos c4] at H
  have c4b0 : (t103 == (-1)) = true := beq_iff_eq.mpr c4
  have c4b1 : (t103 != (-1)) = false := bne_eq_false_iff_eq.mpr c4
  clear c4
  obtain rfl := Option.some.inj H
  go_enter Try.func30, Try.ntmps30
  go_wp2_with (first | ((with_reducible refine gate_dst (N := 2) rfl ?_); refine box_event ?hg (N := 2) ?hd (cs := #[.slice A0_0 l0_0.length c0_0, .slice A0_1 l0_1.length c0_1]) (t := 30) ?hr ?_; (case hd => rfl); (case hg => rfl); (case hr => first | (go_simp; done) | (go_simp; rfl)); intro gb102 hg w5 hbox hb; have BK102 := Aside0.mk (hbox); have GW102 := gw_ hg kB; have GE102 := gw_ hg kB; replace HB := cB hb kB; clear hb hbox hg; have hcz6_0 : w5.cell? ⟨gb102, 0, none⟩ = some (.slice A0_0 l0_0.length c0_0) := (blk_cell BK102.out 0).trans rfl; have hcz6_1 : w5.cell? ⟨gb102, 1, none⟩ = some (.slice A0_1 l0_1.length c0_1) := (blk_cell BK102.out 1).trans rfl; have hfz6_0 := blk_frozen BK102.out 0; have hfz6_1 := blk_frozen BK102.out 1) | ((with_reducible refine gate_callee (f := 40) rfl ?_); refine goesL_ (some 8) rfl rfl Try.func40 (by kernel_rfl) rfl #[.agg #[.slice A0_0 l0_0.length c0_0, .slice A0_1 l0_1.length c0_1], .string a1] rfl (by (try simp only [List.map_toArray, List.map_cons, List.map_nil]); first | done | rfl | (simp only [List.length_drop, List.length_take]; rfl)) ?_; (with_reducible refine (media_State_file.calls _ _ l0_0 _ _ l0_1 a1 t103 _ ?side1 ?side2 ?side3 ?side4 A3.out).mono ?_); (case side1 => repeat (first | exact (Kd.C_below HR0_0.out HB.out) | (with_reducible refine Kd.C_alloc ?_ _) | (with_reducible refine Kd.C_drewN ?_ _) | (with_reducible refine Kd.C_drew ?_))); (case side2 => exact HC0_0.out); (case side3 => repeat (first | exact (Kd.C_below HR0_1.out HB.out) | (with_reducible refine Kd.C_alloc ?_ _) | (with_reducible refine Kd.C_drewN ?_ _) | (with_reducible refine Kd.C_drew ?_))); (case side4 => exact HC0_1.out); rintro e w7 ⟨rfl, hb⟩; refine ⟨_, rfl, ?_⟩; replace BK102 := cb BK102 hb; replace HB := cB hb kB; (try clear hb); (try clear hb2); (try clear hk); (try clear hi)))
  go_ret
  exact ⟨by first | rfl | (simp [errW_none, errW_some] <;> rfl) | (simp [*, errW_none, errW_some] <;> rfl), kB⟩
 ·rw [if_neg c4] at H
  have c4b0 : (t103 == (-1)) = false := beq_eq_false_iff_ne.mpr c4
  have c4b1 : (t103 != (-1)) = true := bne_iff_ne.mpr c4
  by_cases c8 : 0 ≤ t103
  ·rw [if_pos c8] at H
   have c8b0 : decide (0 ≤ t103) = true := decide_eq_true c8
   clear c8
   by_cases c9 : t103 < (l0_0.length : Int)
   ·rw [if_pos c9] at H
    have c9b0 : decide (t103 < (l0_0.length : Int)) = true := decide_eq_true c9
    clear c9
    obtain ⟨bq10, hbq10⟩ : ∃ b_ : Bool, b_ = ((rd_T37 l0_0 t103).f2) := ⟨_, rfl⟩
    replace H : (if bq10 = true then (some t103) else (some (-1))) = some r := by rw [← hbq10] at H; exact H
    have Nbq10 := Aside0.mk hbq10
    clear hbq10
    by_cases c11 : bq10 = true
    ·subst c11
     have H1 : (some t103) = some r := by rw [if_pos rfl] at H; exact H
     clear H
     have H := H1
     clear H1
     obtain rfl := Option.some.inj H
     go_enter Try.func30, Try.ntmps30
     go_wp2_with (first | ((with_reducible refine gate_dst (N := 2) rfl ?_); refine box_event ?hg (N := 2) ?hd (cs := #[.slice A0_0 l0_0.length c0_0, .slice A0_1 l0_1.length c0_1]) (t := 30) ?hr ?_; (case hd => rfl); (case hg => rfl); (case hr => first | (go_simp; done) | (go_simp; rfl)); intro gb102 hg w12 hbox hb; have BK102 := Aside0.mk (hbox); have GW102 := gw_ hg kB; have GE102 := gw_ hg kB; replace HB := cB hb kB; clear hb hbox hg; have hcz13_0 : w12.cell? ⟨gb102, 0, none⟩ = some (.slice A0_0 l0_0.length c0_0) := (blk_cell BK102.out 0).trans rfl; have hcz13_1 : w12.cell? ⟨gb102, 1, none⟩ = some (.slice A0_1 l0_1.length c0_1) := (blk_cell BK102.out 1).trans rfl; have hfz13_0 := blk_frozen BK102.out 0; have hfz13_1 := blk_frozen BK102.out 1) | ((with_reducible refine gate_callee (f := 40) rfl ?_); refine goesL_ (some 8) rfl rfl Try.func40 (by kernel_rfl) rfl #[.agg #[.slice A0_0 l0_0.length c0_0, .slice A0_1 l0_1.length c0_1], .string a1] rfl (by (try simp only [List.map_toArray, List.map_cons, List.map_nil]); first | done | rfl | (simp only [List.length_drop, List.length_take]; rfl)) ?_; (with_reducible refine (media_State_file.calls _ _ l0_0 _ _ l0_1 a1 t103 _ ?side1 ?side2 ?side3 ?side4 A3.out).mono ?_); (case side1 => repeat (first | exact (Kd.C_below HR0_0.out HB.out) | (with_reducible refine Kd.C_alloc ?_ _) | (with_reducible refine Kd.C_drewN ?_ _) | (with_reducible refine Kd.C_drew ?_))); (case side2 => exact HC0_0.out); (case side3 => repeat (first | exact (Kd.C_below HR0_1.out HB.out) | (with_reducible refine Kd.C_alloc ?_ _) | (with_reducible refine Kd.C_drewN ?_ _) | (with_reducible refine Kd.C_drew ?_))); (case side4 => exact HC0_1.out); rintro e w14 ⟨rfl, hb⟩; refine ⟨_, rfl, ?_⟩; replace BK102 := cb BK102 hb; replace HB := cB hb kB; (try clear hb); (try clear hb2); (try clear hk); (try clear hi); have hcz15_0 : w14.cell? ⟨gb102, 0, none⟩ = some (.slice A0_0 l0_0.length c0_0) := (blk_cell BK102.out 0).trans rfl; have hcz15_1 : w14.cell? ⟨gb102, 1, none⟩ = some (.slice A0_1 l0_1.length c0_1) := (blk_cell BK102.out 1).trans rfl; have hfz15_0 := blk_frozen BK102.out 0; have hfz15_1 := blk_frozen BK102.out 1; have p104 : 0 ≤ (t103 : Int) := of_decide_eq_true (by first | (with_reducible assumption) | assumption); have q104 : t103 < (l0_0.length : Int) := of_decide_eq_true (by first | (with_reducible assumption) | assumption); obtain ⟨ad104, e104, hx104_0, hx104_1, hx104_2⟩ := at_T37 HR0_0.out t103 p104 q104; (try rw [← Nbq10.out] at hx104_2); cases e104; replace hx104_0 := (HB.out.cell (World.block_lt_of_cell? w _ hx104_0)).trans hx104_0; replace hx104_1 := (HB.out.cell (World.block_lt_of_cell? w _ hx104_1)).trans hx104_1; replace hx104_2 := (HB.out.cell (World.block_lt_of_cell? w _ hx104_2)).trans hx104_2; replace p104 := eq_true p104; replace q104 := eq_true q104))
     go_ret
     exact ⟨by first | rfl | (simp [errW_none, errW_some] <;> rfl) | (simp [*, errW_none, errW_some] <;> rfl), kB⟩
    ·replace c11 := Bool.eq_false_iff.mpr c11
     subst c11
     have H1 : (some (-1)) = some r := by rw [if_neg (show ¬ (false = true) by decide)] at H; exact H
     clear H
     have H := H1
     clear H1
     obtain rfl := Option.some.inj H
     go_enter Try.func30, Try.ntmps30
     go_wp2_with (first | ((with_reducible refine gate_dst (N := 2) rfl ?_); refine box_event ?hg (N := 2) ?hd (cs := #[.slice A0_0 l0_0.length c0_0, .slice A0_1 l0_1.length c0_1]) (t := 30) ?hr ?_; (case hd => rfl); (case hg => rfl); (case hr => first | (go_simp; done) | (go_simp; rfl)); intro gb102 hg w16 hbox hb; have BK102 := Aside0.mk (hbox); have GW102 := gw_ hg kB; have GE102 := gw_ hg kB; replace HB := cB hb kB; clear hb hbox hg; have hcz17_0 : w16.cell? ⟨gb102, 0, none⟩ = some (.slice A0_0 l0_0.length c0_0) := (blk_cell BK102.out 0).trans rfl; have hcz17_1 : w16.cell? ⟨gb102, 1, none⟩ = some (.slice A0_1 l0_1.length c0_1) := (blk_cell BK102.out 1).trans rfl; have hfz17_0 := blk_frozen BK102.out 0; have hfz17_1 := blk_frozen BK102.out 1) | ((with_reducible refine gate_callee (f := 40) rfl ?_); refine goesL_ (some 8) rfl rfl Try.func40 (by kernel_rfl) rfl #[.agg #[.slice A0_0 l0_0.length c0_0, .slice A0_1 l0_1.length c0_1], .string a1] rfl (by (try simp only [List.map_toArray, List.map_cons, List.map_nil]); first | done | rfl | (simp only [List.length_drop, List.length_take]; rfl)) ?_; (with_reducible refine (media_State_file.calls _ _ l0_0 _ _ l0_1 a1 t103 _ ?side1 ?side2 ?side3 ?side4 A3.out).mono ?_); (case side1 => repeat (first | exact (Kd.C_below HR0_0.out HB.out) | (with_reducible refine Kd.C_alloc ?_ _) | (with_reducible refine Kd.C_drewN ?_ _) | (with_reducible refine Kd.C_drew ?_))); (case side2 => exact HC0_0.out); (case side3 => repeat (first | exact (Kd.C_below HR0_1.out HB.out) | (with_reducible refine Kd.C_alloc ?_ _) | (with_reducible refine Kd.C_drewN ?_ _) | (with_reducible refine Kd.C_drew ?_))); (case side4 => exact HC0_1.out); rintro e w18 ⟨rfl, hb⟩; refine ⟨_, rfl, ?_⟩; replace BK102 := cb BK102 hb; replace HB := cB hb kB; (try clear hb); (try clear hb2); (try clear hk); (try clear hi); have hcz19_0 : w18.cell? ⟨gb102, 0, none⟩ = some (.slice A0_0 l0_0.length c0_0) := (blk_cell BK102.out 0).trans rfl; have hcz19_1 : w18.cell? ⟨gb102, 1, none⟩ = some (.slice A0_1 l0_1.length c0_1) := (blk_cell BK102.out 1).trans rfl; have hfz19_0 := blk_frozen BK102.out 0; have hfz19_1 := blk_frozen BK102.out 1; have p104 : 0 ≤ (t103 : Int) := of_decide_eq_true (by first | (with_reducible assumption) | assumption); have q104 : t103 < (l0_0.length : Int) := of_decide_eq_true (by first | (with_reducible assumption) | assumption); obtain ⟨ad104, e104, hx104_0, hx104_1, hx104_2⟩ := at_T37 HR0_0.out t103 p104 q104; (try rw [← Nbq10.out] at hx104_2); cases e104; replace hx104_0 := (HB.out.cell (World.block_lt_of_cell? w _ hx104_0)).trans hx104_0; replace hx104_1 := (HB.out.cell (World.block_lt_of_cell? w _ hx104_1)).trans hx104_1; replace hx104_2 := (HB.out.cell (World.block_lt_of_cell? w _ hx104_2)).trans hx104_2; replace p104 := eq_true p104; replace q104 := eq_true q104))
     go_ret
     exact ⟨by first | rfl | (simp [errW_none, errW_some] <;> rfl) | (simp [*, errW_none, errW_some] <;> rfl), kB⟩
   ·rw [if_neg c9] at H
    exact absurd H (by simp)
  ·rw [if_neg c8] at H
   exact absurd H (by simp)
theorem firstAt_range {α : Type} (p : α → Bool) (l : List α) : firstAt p l = -1 ∨ (0 ≤ firstAt p l ∧ firstAt p l < l.length) := by
 unfold firstAt
 split
 ·rename_i i h
  have := (List.findIdx?_eq_some_iff_getElem.1 h).1
  omega
 ·exact .inl rfl
def linkV (ls : List S39) (m : ByteArray) : Int := firstAt (fun x : S39 => x.f0.toList == m.toList) ls
def fileV (fs : List S37) (f : ByteArray) : Int := firstAt (fun x : S37 => x.f0.toList == f.toList) fs
def presentV (fs : List S37) (f : ByteArray) : Int := if fileV fs f = -1 then -1 else if (rd_T37 fs (fileV fs f)).f2 = true then fileV fs f else -1
theorem presentV_range (fs : List S37) (f : ByteArray) : presentV fs f = -1 ∨ (0 ≤ presentV fs f ∧ presentV fs f < fs.length) := by
 have h := firstAt_range (fun x : S37 => x.f0.toList == f.toList) fs
 unfold presentV
 split
 ·exact .inl rfl
 ·split
  ·exact h
  ·exact .inl rfl
theorem presentV_f (fs : List S37) (ls : List S39) (f : ByteArray) : media_State_present.f fs ls f = some (presentV fs f) := by
 have h := firstAt_range (fun x : S37 => x.f0.toList == f.toList) fs
 show (some (fileV fs f)).bind _ = _
 rw [Option.bind_some]
 unfold presentV
 by_cases h1 : fileV fs f = -1
 ·rw [if_pos h1, if_pos h1]
 ·have h2 : 0 ≤ fileV fs f ∧ fileV fs f < fs.length := h.resolve_left h1
  rw [if_neg h1, if_neg h1, if_pos h2.1, if_pos h2.2]
  split <;> rfl
theorem linkV_f (fs : List S37) (ls : List S39) (f : ByteArray) : media_State_link.f fs ls f = some (linkV ls f) := rfl
theorem linkV_range (ls : List S39) (m : ByteArray) : linkV ls m = -1 ∨ (0 ≤ linkV ls m ∧ linkV ls m < ls.length) := firstAt_range _ ls
def statusV (fs : List S37) (ls : List S39) (m : ByteArray) : Int :=
 if linkV ls m = -1 then 0
 else if presentV fs (rd_T39 ls (linkV ls m)).f1 = -1 then 3
 else if (rd_T37 fs (presentV fs (rd_T39 ls (linkV ls m)).f1)).f1 = (rd_T39 ls (linkV ls m)).f2 then 1 else 2
def media_Status.f (l0_0 : List S37) (l0_1 : List S39) (a1 : ByteArray) : Option Int := some (statusV l0_0 l0_1 a1)
theorem statusV_f (fs : List S37) (ls : List S39) (m : ByteArray) : media_Status.f fs ls m = some (statusV fs ls m) := rfl
set_option maxHeartbeats 1000000 in
set_option maxRecDepth 100000 in
theorem media_Status.calls (A0_0 : Option Addr) (c0_0 : Nat) (l0_0 : List (S37)) (A0_1 : Option Addr) (c0_1 : Nat) (l0_1 : List (S39)) (a1 : ByteArray) (r : Int) (w : World) (hr0_0 : Kd.C k37 w A0_0 l0_0.length l0_0) (hc0_0 : l0_0.length ≤ c0_0) (hr0_1 : Kd.C k39 w A0_1 l0_1.length l0_1) (hc0_1 : l0_1.length ≤ c0_1) (h : media_Status.f l0_0 l0_1 a1 = some r) :
  Calls Try.prog 15 #[.agg #[.slice A0_0 l0_0.length c0_0, .slice A0_1 l0_1.length c0_1], .string a1] w fun e w' => e = .returned (.int .i64 r) ∧ Below w.heap.size w w' := by
 have hu30 := Try.underlying30
 have hu39 := Try.underlying39
 have HC0 := Aside0.mk hr0_0
 have HC1 := Aside0.mk hr0_1
 have HL0 := Aside0.mk hc0_0
 have HL1 := Aside0.mk hc0_1
 have HRES := Aside0.mk (Option.some.inj h).symm
 clear hr0_0 hc0_0 hr0_1 hc0_1 h
 go_enter Try.func15, Try.ntmps15
 go_wp2_with fail
 obtain ⟨w1, hw1⟩ : ∃ w', w' = w.alloc (.cells #[.slice A0_0 l0_0.length c0_0, .slice A0_1 l0_1.length c0_1] 30) := ⟨_, rfl⟩
 obtain ⟨bs, hbs⟩ : ∃ b, b = w.heap.size := ⟨_, rfl⟩
 have BK1 := Aside0.mk (show w1.heap[bs]? = some (.cells #[.slice A0_0 l0_0.length c0_0, .slice A0_1 l0_1.length c0_1] 30 (0, 0)) by rw [hw1, hbs]; exact blk_new _ _)
 have HB1 := Aside0.mk (show Below w.heap.size w w1 by rw [hw1]; exact below_alloc (Below.refl _ _) _)
 rw [← hw1, ← hbs]
 clear hw1 hbs
 refine (media_State_link.calls _ _ _ _ _ l0_1 a1 _ _ (Kd.C_below HC0.out HB1.out) HL0.out (Kd.C_below HC1.out HB1.out) HL1.out (linkV_f l0_0 l0_1 a1)).mono ?_
 rintro e w2 ⟨rfl, hb⟩
 have BK2 := Aside0.mk (blk_below BK1.out hb)
 have HB2 := Aside0.mk (below_step HB1.out hb)
 clear hb BK1 HB1
 have hlr := linkV_range l0_1 a1
 unfold statusV at HRES
 obtain ⟨lv, hlv⟩ : ∃ v, v = linkV l0_1 a1 := ⟨_, rfl⟩
 rw [← hlv] at hlr HRES ⊢
 clear hlv
 by_cases h1 : lv = -1
 ·have b1 : (lv == -1) = true := beq_iff_eq.2 h1
  obtain rfl := HRES.out.trans (if_pos h1)
  go_wp2
  go_ret
  exact ⟨rfl, HB2.out⟩
 ·have b1 : (lv == -1) = false := beq_eq_false_iff_ne.2 h1
  have hl := hlr.resolve_left h1
  have HRES2 := Aside0.mk (HRES.out.trans (if_neg h1))
  clear HRES hlr h1
  have HLR := Aside0.mk hl
  obtain ⟨x, hx⟩ : ∃ x, x = rd_T39 l0_1 lv := ⟨_, rfl⟩
  rw [← hx] at HRES2
  obtain ⟨ad, e1, hx0, hx1, hx2, hx3⟩ := at_T39 (Kd.C_below HC1.out HB2.out) lv hl.1 hl.2
  rw [← hx] at hx0 hx1 hx2 hx3
  clear hx
  subst e1
  have hc0 : w2.cell? ⟨bs, 0, none⟩ = some (.slice A0_0 l0_0.length c0_0) := (blk_cell BK2.out 0).trans rfl
  have hc1 : w2.cell? ⟨bs, 1, none⟩ = some (.slice (some ad) l0_1.length c0_1) := (blk_cell BK2.out 1).trans rfl
  have n0 := World.new_ne w2 ⟨bs, 0, none⟩ hc0
  have n1 := World.new_ne w2 ⟨bs, 1, none⟩ hc1
  have hlb : bs < w2.heap.size := blk_lt BK2.out
  have p1 := eq_true hl.1
  have q1 := eq_true hl.2
  go_wp2_with fail
  obtain ⟨w3, hw3⟩ : ∃ w', w' = w2.alloc (.cells #[.string x.f0, .string x.f1, .int .u64 x.f2, .string x.f3] 39) := ⟨_, rfl⟩
  obtain ⟨bl, hbl⟩ : ∃ b, b = w2.heap.size := ⟨_, rfl⟩
  have BL3 := Aside0.mk (show w3.heap[bl]? = some (.cells #[.string x.f0, .string x.f1, .int .u64 x.f2, .string x.f3] 39 (0, 0)) by rw [hw3, hbl]; exact blk_new _ _)
  have BK3 := Aside0.mk (show w3.heap[bs]? = some (.cells #[.slice A0_0 l0_0.length c0_0, .slice (some ad) l0_1.length c0_1] 30 (0, 0)) by rw [hw3]; exact blk_alloc BK2.out _)
  have HB3 := Aside0.mk (show Below w.heap.size w w3 by rw [hw3]; exact below_alloc HB2.out _)
  rw [← hw3, ← hbl]
  clear hw3 hbl hx0 hx1 hx2 hx3 hc0 hc1 n0 n1 hlb p1 q1 BK2 HB2 hl
  refine (media_State_present.calls _ _ l0_0 _ _ _ x.f1 _ _ (Kd.C_below HC0.out HB3.out) HL0.out (Kd.C_below HC1.out HB3.out) HL1.out (presentV_f l0_0 l0_1 x.f1)).mono ?_
  rintro e w4 ⟨rfl, hb⟩
  have BL4 := Aside0.mk (blk_below BL3.out hb)
  have BK4 := Aside0.mk (blk_below BK3.out hb)
  have HB4 := Aside0.mk (below_step HB3.out hb)
  clear hb BL3 BK3 HB3
  have hpr := presentV_range l0_0 x.f1
  obtain ⟨pv, hpv⟩ : ∃ v, v = presentV l0_0 x.f1 := ⟨_, rfl⟩
  rw [← hpv] at hpr HRES2 ⊢
  clear hpv
  by_cases h2 : pv = -1
  ·have b2 : (pv == -1) = true := beq_iff_eq.2 h2
   obtain rfl := HRES2.out.trans (if_pos h2)
   go_wp2
   go_ret
   exact ⟨rfl, HB4.out⟩
  ·have b2 : (pv == -1) = false := beq_eq_false_iff_ne.2 h2
   have hp := hpr.resolve_left h2
   have HRES3 := Aside0.mk (HRES2.out.trans (if_neg h2))
   clear HRES2 hpr h2
   obtain ⟨y, hy⟩ : ∃ y, y = rd_T37 l0_0 pv := ⟨_, rfl⟩
   rw [← hy] at HRES3
   obtain ⟨ad2, e2, hy0, hy1, hy2⟩ := at_T37 (Kd.C_below HC0.out HB4.out) pv hp.1 hp.2
   rw [← hy] at hy0 hy1 hy2
   clear hy
   subst e2
   have hc0 : w4.cell? ⟨bs, 0, none⟩ = some (.slice (some ad2) l0_0.length c0_0) := (blk_cell BK4.out 0).trans rfl
   have hl2 : w4.cell? ⟨bl, 2, none⟩ = some (.int .u64 x.f2) := (blk_cell BL4.out 2).trans rfl
   have p2 := eq_true hp.1
   have q2 := eq_true hp.2
   go_wp2
   go_quiet (fail)
   by_cases h3 : y.f1 = x.f2
   ·have b3 : (y.f1 == x.f2) = true := beq_iff_eq.2 h3
    obtain rfl := HRES3.out.trans (if_pos h3)
    go_wp2
    go_ret
    exact ⟨rfl, pw_below_drewN HB4.out _⟩
   ·have b3 : (y.f1 == x.f2) = false := beq_eq_false_iff_ne.2 h3
    obtain rfl := HRES3.out.trans (if_neg h3)
    go_wp2
    go_ret
    exact ⟨rfl, pw_below_drewN HB4.out _⟩
theorem conv_ev {P : Program} (w : World) (src dst e : TypeId) (s : ByteArray) {u : TypeDesc}
  (hs : P.underlying src = some u) (hd : P.underlying dst = some (.slice e)) (he : P.underlying e = some (.int .u8)) :
  ∃ W1 c, (convert src dst (.string s)).run P w = .ok (.slice (some ⟨w.heap.size, 0, none⟩) s.size c) W1 ∧ Below w.heap.size w W1 ∧
   ∀ j, j < s.size → W1.cell? ⟨w.heap.size, j, none⟩ = some (.int .u8 (bt s j)) := by
 refine ⟨Lib.bytesWorld w e s, _, Lib.run_convert_string_bytes w src dst e s hs hd he, ?_, ?_⟩
 ·refine ⟨?_, ?_, ?_, by rw [Lib.bytesWorld_size]; omega, fun i hi => Lib.bytesWorld_at_old w e s i hi⟩
  ·rfl
  ·rfl
  ·rfl
 ·intro j hj
  rw [Lib.bytesWorld_cell w e s j hj]
  have hj' : j < s.data.size := hj
  have : ((j : Int).toNat) = j := by omega
  simp only [bt, this]
  rw [dif_pos hj]
  simp only [List.getD, Array.getElem?_toList, Array.getElem?_eq_getElem hj', Option.getD_some]
  rfl
def okName (c : Int) : Bool := (decide (97 ≤ c) && decide (c ≤ 122)) || (decide (48 ≤ c) && decide (c ≤ 57)) || c == 45 || c == 95 || c == 46
def timeline_ValidName.f (a0 : ByteArray) : Option Bool :=
 if a0.size ≤ 140737488351232 then some (decide (1 ≤ a0.size) && decide (a0.size ≤ 32) && decide (∀ j, j < a0.size → okName (bt a0 j) = true)) else none
set_option maxHeartbeats 1000000 in
set_option maxRecDepth 100000 in
theorem timeline_ValidName.calls (a0 : ByteArray) (r : Bool) (w : World) (h : timeline_ValidName.f a0 = some r) :
  Calls Try.prog 25 #[.string a0] w fun e w' => e = .returned (.bool r) ∧ Below w.heap.size w w' := by
 unfold timeline_ValidName.f at h
 split at h
 case isFalse => cases h
 rename_i hsz
 have HS : Aside0 (a0.size ≤ 140737488351232) := ⟨hsz⟩
 have hm : a0.size ≤ 9223372036854775807 := by omega
 obtain ⟨W1, cc, hconv, hb, hcell⟩ := conv_ev (P := Try.prog) w 9 22 5 a0 Try.underlying9 Try.underlying22 Try.underlying5
 have HB : Aside0 (Below w.heap.size w W1) := ⟨hb⟩
 have HR : Aside0 (r = (decide (1 ≤ a0.size) && decide (a0.size ≤ 32) && decide (∀ j, j < a0.size → okName (bt a0 j) = true))) := ⟨(Option.some.inj h).symm⟩
 have HC : Aside0 (∀ j, j < a0.size → W1.cell? ⟨w.heap.size, j, none⟩ = some (.int .u8 (bt a0 j))) := ⟨hcell⟩
 clear hcell hb h hsz
 go_enter Try.func25, Try.ntmps25
 go_wp2
 go_loop [8] (fun i => ∃ k : Nat, k ≤ a0.size ∧ i = .int .i64 k ∧ Aside0 (∀ j, j < k → okName (bt a0 j) = true)) (fun i => a0.size - (intOf i).toNat)
 case atStart => exact ⟨0, Nat.zero_le _, rfl, ⟨fun j hj => absurd hj (by omega)⟩⟩
 case round =>
  obtain ⟨k, hk, rfl, HK⟩ := hrel
  by_cases hlt : k < a0.size
  ·have hcell := HC.out k hlt
   have hbr := bt_range a0 (k : Int)
   obtain ⟨c, hc⟩ : ∃ c, c = bt a0 (k : Int) := ⟨_, rfl⟩
   rw [← hc] at hcell hbr
   have Hc := Aside0.mk hc
   clear hc
   have hcs : (c < 45 ∨ (47 ≤ c ∧ c ≤ 47) ∨ (58 ≤ c ∧ c ≤ 94) ∨ (96 ≤ c ∧ c ≤ 96) ∨ 123 ≤ c) ∨ ((45 ≤ c ∧ c ≤ 45) ∨ (46 ≤ c ∧ c ≤ 46) ∨ (95 ≤ c ∧ c ≤ 95) ∨ (48 ≤ c ∧ c ≤ 57) ∨ (97 ≤ c ∧ c ≤ 122)) := by omega
   rcases hcs with hcs | hcs
   ·have hbad : okName c = false := by simp only [okName]; simp; omega
    have hr : r = false := by
     rw [HR.out]
     have hn : ¬ (∀ j, j < a0.size → okName (bt a0 j) = true) := fun hall => by
      have := hall k hlt
      rw [← Hc.out, hbad] at this
      cases this
     rw [decide_eq_false hn, Bool.and_false]
    subst hr
    clear hbad
    rcases hcs with hcs | hcs | hcs | hcs | hcs
    all_goals
     have b45 : (c != 45) = true := by rw [bne_iff_ne]; omega
     have b46 : (c != 46) = true := by rw [bne_iff_ne]; omega
     have b95 : (c != 95) = true := by rw [bne_iff_ne]; omega
     go_wp2
     go_ret
     exact ⟨rfl, HB.out⟩
   ·have hgood : Aside0 (∀ j, j < k + 1 → okName (bt a0 j) = true) := ⟨fun j hj => by
     rcases Nat.lt_or_ge j k with h1 | h1
     ·exact HK.out j h1
     ·obtain rfl : j = k := by omega
      rw [← Hc.out]
      simp only [okName]; simp; omega⟩
    clear HR
    rcases hcs with hcs | hcs | hcs | hcs | hcs
    ·obtain rfl : c = 45 := by omega
     clear hcs hbr
     go_wp2
     go_round
     case rel => exact ⟨k + 1, by omega, by go_num, hgood⟩
     case measure => simp [intOf]; omega
    ·obtain rfl : c = 46 := by omega
     clear hcs hbr
     go_wp2
     go_round
     case rel => exact ⟨k + 1, by omega, by go_num, hgood⟩
     case measure => simp [intOf]; omega
    ·obtain rfl : c = 95 := by omega
     clear hcs hbr
     go_wp2
     go_round
     case rel => exact ⟨k + 1, by omega, by go_num, hgood⟩
     case measure => simp [intOf]; omega
    all_goals
     go_wp2
     go_round
     case rel => exact ⟨k + 1, by omega, by go_num, hgood⟩
     case measure => simp [intOf]; omega
  ·obtain rfl : k = a0.size := by omega
   have hall := HK.out
   have HR' : Aside0 (r = (decide (1 ≤ a0.size) && decide (a0.size ≤ 32))) := ⟨by rw [HR.out]; simp [decide_eq_true hall]⟩
   clear HR hall HK
   by_cases h1 : 1 ≤ a0.size
   ·by_cases h2 : a0.size ≤ 32
    ·go_wp2
     go_ret
     exact ⟨by rw [HR'.out]; simp [h1, h2] <;> omega, HB.out⟩
    ·go_wp2
     go_ret
     exact ⟨by rw [HR'.out]; simp [h1, h2] <;> omega, HB.out⟩
   ·go_wp2
    go_ret
    exact ⟨by rw [HR'.out]; simp [h1] <;> omega, HB.out⟩
section
open Go.Maps Go.WideMaps
def vName (s : ByteArray) : Bool := decide (1 ≤ s.size) && decide (s.size ≤ 32) && decide (∀ j, j < s.size → okName (bt s j) = true)
def strSet (l : List ByteArray) : DataW Unit := Go.Maps.setOf (.lit (.bool true)) (l.map fun s => Lit.string s.data.toList)
theorem strSet_snoc (l : List ByteArray) (s : ByteArray) : strSet (l ++ [s]) = (strSet l).put (.string s.data.toList) (.lit (.bool true)) := by
 unfold strSet
 rw [List.map_append, List.map_singleton, setOf_snoc]
theorem bytes_ext {a b : ByteArray} (h : a.data.toList = b.data.toList) : a = b := by
 cases a; cases b
 simp only [ByteArray.mk.injEq]
 exact Array.toList_inj.mp h
theorem sameKey_str (a b : ByteArray) : (Lit.string a.data.toList).sameKey (.string b.data.toList) = true ↔ a = b := by
 constructor
 ·intro h
  have := WideAt.sameKey_eq h
  injection this with h
  exact bytes_ext h
 ·rintro rfl
  exact WideAt.sameKey_self trivial
theorem isKey_strs (l : List ByteArray) : ∀ x ∈ l.map (fun s => Lit.string s.data.toList), WideAt.IsKeyLit x := by
 intro x hx
 obtain ⟨s, _, rfl⟩ := List.mem_map.1 hx
 trivial
theorem strSet_size (l : List ByteArray) : Go.Maps.size (strSet l) ≤ l.length ∧ (Go.Maps.size (strSet l) = l.length ↔ l.Nodup) := by
 generalize hn : l.length = n
 induction n generalizing l with
 | zero =>
  obtain rfl := List.length_eq_zero_iff.1 hn
  exact ⟨Nat.le_refl _, by simp [strSet, setOf, Go.Maps.size]⟩
 | succ n ih =>
  obtain ⟨l', s, rfl⟩ : ∃ l' s, l = l' ++ [s] := by
   refine ⟨l.dropLast, l.getLast (by intro h; rw [h] at hn; simp at hn), (List.dropLast_concat_getLast _).symm⟩
  have hl : l'.length = n := by simpa using hn
  obtain ⟨h1, h2⟩ := ih l' hl
  rw [strSet_snoc, size_put (show Tidy (strSet l') from tidy_setOf _ _ (isKey_strs l')), show Go.Maps.has (strSet l') (Lit.string s.data.toList) = _ from has_setOf _ _ _ (isKey_strs l')]
  have hany : ((l'.map fun s => Lit.string s.data.toList).any fun x => x.sameKey (.string s.data.toList)) = true ↔ s ∈ l' := by
   rw [List.any_eq_true]
   constructor
   ·rintro ⟨x, hx, hk⟩
    obtain ⟨b, hb, rfl⟩ := List.mem_map.1 hx
    rw [sameKey_str] at hk
    exact hk ▸ hb
   ·intro h
    exact ⟨_, List.mem_map.2 ⟨s, h, rfl⟩, (sameKey_str s s).2 rfl⟩
  rw [List.nodup_append]
  by_cases hm : s ∈ l'
  ·rw [if_pos (hany.2 hm)]
   refine ⟨by omega, fun h => absurd h (by omega), fun h => absurd rfl (h.2.2 s hm s (by simp))⟩
  ·rw [if_neg (fun h => hm (hany.1 h))]
   refine ⟨by omega, fun h => ⟨h2.1 (by omega), by simp, fun a ha b hb => ?_⟩, fun h => by have := h2.2 h.1; omega⟩
   simp only [List.mem_singleton] at hb
   rintro rfl
   exact hm (hb ▸ ha)
theorem lawStr : Keyed Try.prog 9 := string_keyed Try.underlying9
theorem vName_calls (s : ByteArray) (w : World) (hs : s.size ≤ 140737488351232) : Calls Try.prog 25 #[.string s] w fun e w' => e = .returned (.bool (vName s)) ∧ Below w.heap.size w w' :=
 timeline_ValidName.calls s (vName s) w (by unfold timeline_ValidName.f; rw [if_pos hs]; rfl)
theorem take_map_succ {α β : Type} (f : α → β) (l : List α) (k : Nat) (h : k < l.length) : (l.take (k + 1)).map f = (l.take k).map f ++ [f (l[k]'h)] := by
 rw [List.take_add_one, List.getElem?_eq_getElem h, List.map_append]; rfl
theorem all_false {α : Type} (p : α → Bool) (l : List α) (k : Nat) (h : k < l.length) (hp : p (l[k]'h) = false) : l.all p = false := by
 rw [List.all_eq_false]
 exact ⟨_, List.getElem_mem h, by simp [hp]⟩
theorem all_true {α : Type} (p : α → Bool) (l : List α) (hp : ∀ j (h : j < l.length), p (l[j]'h) = true) : l.all p = true := by
 rw [List.all_eq_true]
 intro x hx
 obtain ⟨j, hj, rfl⟩ := List.getElem_of_mem hx
 exact hp j hj
end
end Go.Proofs.Ytpnhkmicepmciaa.Y

/-
  The law GroupLogs, walked.
-/
import Derived.Test.YtogbdnecpdcmiabDoorG3
import Derived.Test.YtogbdnecpdcmiabDoorG1
/-
  The law GroupLogs returns true for all arguments.
-/
namespace Go.Proofs.YtogbdnecpdcmiabDoor
open Go Go.RowKit
set_option maxRecDepth 100000 in
set_option maxHeartbeats 1000000 in
/-- the reference's logarithm to the base 1 -/
theorem rlog_one (p q g x : Int) (w : World) (hG : GSpec p q g) (q1 : q ≤ 70000) :
    Calls Tryd.prog 23 #[gV p q g, .int .i64 1, .int .i64 x] w (Ret (.int .i64 (if x = 1 then 0 else -1)) w) := by
  have p3 := hG.p3; have pm := hG.pm; have q3 := hG.q3
  clear hG
  have hb := below_alloc w (.cells #[.int .i64 p, .int .i64 q, .int .i64 g] 24)
  have hmod : ((1 : Int).toNat * (1 : Int).toNat % p.toNat : Nat) = 1 := by
    rw [show (1 : Int).toNat = 1 from rfl, Nat.one_mul]
    exact Nat.mod_eq_of_lt (by omega)
  have HM := Lib.hid hmod
  clear hmod
  by_cases hx1 : x = 1
  · rw [if_pos hx1]
    subst hx1
    have t0 : decide (0 < q) = true := by simp; omega
    go_enter Tryd.func23, Tryd.ntmps23
    go_wp2
    go_loopw [7, 8] (fun vy ve wr => vy = .int .i64 1 ∧ ve = .int .i64 0 ∧ Drew (w.alloc (.cells #[.int .i64 p, .int .i64 q, .int .i64 g] 24)) wr) (fun _ _ _ => 0)
    case atStart => exact ⟨rfl, rfl, Drew.refl _⟩
    case round =>
      obtain ⟨rfl, rfl, hd⟩ := hrel
      have hbox := box_at hd.below
      go_wp2
      go_ret
      exact ret_of rfl (below_next hb hd.below)
  · rw [if_neg hx1]
    obtain ⟨n, rfl⟩ : ∃ n : Nat, q = n := ⟨q.toNat, by omega⟩
    have t1 : ((1 : Int) == x) = false := by simp; omega
    go_enter Tryd.func23, Tryd.ntmps23
    go_wp2
    go_loopw [7, 8] (fun vy ve wr => ∃ i : Nat, vy = .int .i64 1 ∧ ve = .int .i64 i ∧ i ≤ n ∧ Drew (w.alloc (.cells #[.int .i64 p, .int .i64 n, .int .i64 g] 24)) wr) (fun _ ve _ => n - (intOf ve).toNat)
    case atStart => exact ⟨0, rfl, rfl, by omega, Drew.refl _⟩
    case round =>
      obtain ⟨i, rfl, rfl, hi, hd⟩ := hrel
      have hbox := box_at hd.below
      by_cases hlt : i < n
      · have t0 : decide ((i : Int) < (n : Int)) = true := by simp; omega
        go_wp2_with (go_at_call 50; refine (rmul_z _ _ _ (by decide) (by omega) (by decide) (by omega) pm _).mono ?_; rintro e w' ⟨rfl, hw⟩; have hd := drew_next hd hw; clear hw; rw [HM.out])
        go_roundw
        case rel => exact ⟨i + 1, rfl, by go_num, by omega, hd⟩
        case measure => simp [intOf]; omega
      · have t0 : decide ((i : Int) < (n : Int)) = false := by simp; omega
        go_wp2
        go_ret
        exact ret_of rfl (below_next hb hd.below)
set_option maxRecDepth 100000 in
theorem is_fault (E : Int) (h : E ≠ 0) (w : World) : Calls Tryd.prog 21 #[.int .i64 0, .int .i64 E, .int .i64 E, .int .i64 0] w (Ret (.bool true) w) := by
  have t0 : (E != 0) = true := by simpa using h
  have t1 : (E == E) = true := by simp
  go_enter Tryd.func21, Tryd.ntmps21
  go_wp2
  go_ret
  exact ret_of rfl (Below.refl _ _)
set_option maxRecDepth 100000 in
theorem is_ok (n : Int) (w : World) : Calls Tryd.prog 21 #[.int .i64 n, .int .i64 0, .int .i64 0, .int .i64 n] w (Ret (.bool true) w) := by
  have t1 : (n == n) = true := by simp
  go_enter Tryd.func21, Tryd.ntmps21
  go_wp2
  go_ret
  exact ret_of rfl (Below.refl _ _)
section
variable (p q g m x : Int) (w : World)
set_option maxRecDepth 100000 in
set_option maxHeartbeats 1000000 in
theorem lawl_fault (p0 : -9223372036854775808 ≤ p) (p1 : p ≤ 9223372036854775807) (q0 : -9223372036854775808 ≤ q) (q1 : q ≤ 9223372036854775807) (hT : Tabs w) (E : Int) (hE : fltE p q g [m, x] = E) (h0 : E ≠ 0) :
    Calls Tryd.prog 5 #[gV p q g, .int .i64 m, .int .i64 x] w (Ret (.bool true) w) := by
  obtain ⟨W2, hW2, hB1, l1, hb⟩ := one_box w #[.int .i64 p, .int .i64 q, .int .i64 g] 24
  have hT2 : Tabs W2 := by rw [hW2]; exact hT.alloc _
  have HB1 := Lib.hid hB1; have HT := Lib.hid hT2; have HE := Lib.hid hE
  have t0 : (E != 0) = true := by simpa using h0
  clear hT hE
  go_enter Tryd.func5, Tryd.ntmps5
  go_upto_region 1 with (fail)
  rw [← hW2]
  obtain ⟨B1, hB1'⟩ : ∃ B, B = w.heap.size := ⟨_, rfl⟩
  rw [← hB1'] at hB1 HB1 l1 ⊢
  have hk : Below W2.heap.size W2 W2 := Below.refl _ _
  have c1 := hB1
  have hT := hT2
  clear hW2 hB1' hB1 hT2
  go_wp2_with (first
    | (go_at_call 6; refine (awake10_any _ (by assumption)).mono ?_; rintro e w' ⟨rfl, hw⟩; have hk := below_next hk hw; have c1 := box_keep HB1.out l1 hk; have hT := HT.out.below hk; clear hw)
    | (go_at_call 19; refine (glog_fault p q g m x _ p0 p1 q0 q1 (by assumption) E HE.out h0).mono ?_; rintro e w' ⟨rfl, hw⟩; have hk := below_next hk hw; have c1 := box_keep HB1.out l1 hk; have hT := HT.out.below hk; clear hw)
    | (go_at_call 20; refine (fault_any p q g [m, x] 2 _ _ rfl (IntsAt.two _ m x) (by decide)).mono ?_; rintro e w' ⟨rfl, hw⟩; rw [HE.out]; have hk := below_next hk (below_next (below_alloc _ _) hw); clear hw)
    | (go_at_call 21; refine (is_fault E h0 _).mono ?_; rintro e w' ⟨rfl, hw⟩; have hk := below_next hk hw; clear hw))
  go_ret
  exact ret_of rfl (below_next hb hk)
set_option maxRecDepth 100000 in
set_option maxHeartbeats 1000000 in
theorem lawl_big (hT : Tabs w) (hE : fltE p q g [m, x] = 0) (hq : 1048576 < q)
    (hlog : ∀ W, Tabs W → Calls Tryd.prog 19 #[gV p q g, .int .i64 m, .int .i64 x] W (Ret (.tuple #[.int .i64 0, .int .i64 9]) W)) :
    Calls Tryd.prog 5 #[gV p q g, .int .i64 m, .int .i64 x] w (Ret (.bool true) w) := by
  obtain ⟨W2, hW2, hB1, l1, hb⟩ := one_box w #[.int .i64 p, .int .i64 q, .int .i64 g] 24
  have hT2 : Tabs W2 := by rw [hW2]; exact hT.alloc _
  have HB1 := Lib.hid hB1; have HT := Lib.hid hT2; have HE := Lib.hid hE; have HLOG := Lib.hid hlog
  have t0 : decide (1048576 < q) = true := by simp; omega
  clear hT hE hlog
  go_enter Tryd.func5, Tryd.ntmps5
  go_upto_region 1 with (fail)
  rw [← hW2]
  obtain ⟨B1, hB1'⟩ : ∃ B, B = w.heap.size := ⟨_, rfl⟩
  rw [← hB1'] at hB1 HB1 l1 ⊢
  have hk : Below W2.heap.size W2 W2 := Below.refl _ _
  have c1 := hB1
  have hT := hT2
  clear hW2 hB1' hB1 hT2
  go_wp2_with (first
    | (go_at_call 6; refine (awake10_any _ (by assumption)).mono ?_; rintro e w' ⟨rfl, hw⟩; have hk := below_next hk hw; have c1 := box_keep HB1.out l1 hk; have hT := HT.out.below hk; clear hw)
    | (go_at_call 19; refine (HLOG.out _ (by assumption)).mono ?_; rintro e w' ⟨rfl, hw⟩; have hk := below_next hk hw; have c1 := box_keep HB1.out l1 hk; have hT := HT.out.below hk; clear hw)
    | (go_at_call 20; refine (fault_any p q g [m, x] 2 _ _ rfl (IntsAt.two _ m x) (by decide)).mono ?_; rintro e w' ⟨rfl, hw⟩; rw [HE.out]; have hk := below_next hk (below_next (below_alloc _ _) hw); have c1 := box_keep HB1.out l1 hk; clear hw)
    | (go_at_call 21; refine (is_fault 9 (by decide) _).mono ?_; rintro e w' ⟨rfl, hw⟩; have hk := below_next hk hw; clear hw))
  go_ret
  exact ret_of rfl (below_next hb hk)
set_option maxRecDepth 100000 in
set_option maxHeartbeats 1000000 in
/-- up to 70,000: the reference is asked -/
theorem lawl_low (n : Int) (hn : 0 ≤ n) (hT : Tabs w) (hE : fltE p q g [m, x] = 0) (hq : q ≤ 70000)
    (hlog : ∀ W, Tabs W → Calls Tryd.prog 19 #[gV p q g, .int .i64 m, .int .i64 x] W (Ret (.tuple #[.int .i64 n, .int .i64 0]) W))
    (href : ∀ W, Calls Tryd.prog 23 #[gV p q g, .int .i64 m, .int .i64 x] W (Ret (.int .i64 n) W)) :
    Calls Tryd.prog 5 #[gV p q g, .int .i64 m, .int .i64 x] w (Ret (.bool true) w) := by
  obtain ⟨W2, hW2, hB1, l1, hb⟩ := one_box w #[.int .i64 p, .int .i64 q, .int .i64 g] 24
  have hT2 : Tabs W2 := by rw [hW2]; exact hT.alloc _
  have HB1 := Lib.hid hB1; have HT := Lib.hid hT2; have HE := Lib.hid hE; have HLOG := Lib.hid hlog
  have HREF := Lib.hid href
  clear href
  have t0 : decide (1048576 < q) = false := by simp; omega
  have t1 : decide (70000 < q) = false := by simp; omega
  have t2 : decide (n < 0) = false := by simp; omega
  clear hT hE hlog
  go_enter Tryd.func5, Tryd.ntmps5
  go_upto_region 1 with (fail)
  rw [← hW2]
  obtain ⟨B1, hB1'⟩ : ∃ B, B = w.heap.size := ⟨_, rfl⟩
  rw [← hB1'] at hB1 HB1 l1 ⊢
  have hk : Below W2.heap.size W2 W2 := Below.refl _ _
  have c1 := hB1
  have hT := hT2
  clear hW2 hB1' hB1 hT2
  go_wp2_with (first
    | (go_at_call 6; refine (awake10_any _ (by assumption)).mono ?_; rintro e w' ⟨rfl, hw⟩; have hk := below_next hk hw; have c1 := box_keep HB1.out l1 hk; have hT := HT.out.below hk; clear hw)
    | (go_at_call 19; refine (HLOG.out _ (by assumption)).mono ?_; rintro e w' ⟨rfl, hw⟩; have hk := below_next hk hw; have c1 := box_keep HB1.out l1 hk; have hT := HT.out.below hk; clear hw)
    | (go_at_call 20; refine (fault_any p q g [m, x] 2 _ _ rfl (IntsAt.two _ m x) (by decide)).mono ?_; rintro e w' ⟨rfl, hw⟩; rw [HE.out]; have hk := below_next hk (below_next (below_alloc _ _) hw); have c1 := box_keep HB1.out l1 hk; clear hw)
    | (go_at_call 23; refine (HREF.out _).mono ?_; rintro e w' ⟨rfl, hw⟩; have hk := below_next hk hw; clear hw)
    | (go_at_call 21; refine (is_ok n _).mono ?_; rintro e w' ⟨rfl, hw⟩; have hk := below_next hk hw; clear hw))
  go_ret
  exact ret_of rfl (below_next hb hk)
set_option maxRecDepth 100000 in
set_option maxHeartbeats 1000000 in
/-- up to 70,000, where there is none -/
theorem lawl_none (hT : Tabs w) (hE : fltE p q g [m, x] = 0) (hq : q ≤ 70000)
    (hlog : ∀ W, Tabs W → Calls Tryd.prog 19 #[gV p q g, .int .i64 m, .int .i64 x] W (Ret (.tuple #[.int .i64 0, .int .i64 7]) W))
    (href : ∀ W, Calls Tryd.prog 23 #[gV p q g, .int .i64 m, .int .i64 x] W (Ret (.int .i64 (-1)) W)) :
    Calls Tryd.prog 5 #[gV p q g, .int .i64 m, .int .i64 x] w (Ret (.bool true) w) := by
  obtain ⟨W2, hW2, hB1, l1, hb⟩ := one_box w #[.int .i64 p, .int .i64 q, .int .i64 g] 24
  have hT2 : Tabs W2 := by rw [hW2]; exact hT.alloc _
  have HB1 := Lib.hid hB1; have HT := Lib.hid hT2; have HE := Lib.hid hE; have HLOG := Lib.hid hlog
  have HREF := Lib.hid href
  clear href
  have t0 : decide (1048576 < q) = false := by simp; omega
  have t1 : decide (70000 < q) = false := by simp; omega
  clear hT hE hlog
  go_enter Tryd.func5, Tryd.ntmps5
  go_upto_region 1 with (fail)
  rw [← hW2]
  obtain ⟨B1, hB1'⟩ : ∃ B, B = w.heap.size := ⟨_, rfl⟩
  rw [← hB1'] at hB1 HB1 l1 ⊢
  have hk : Below W2.heap.size W2 W2 := Below.refl _ _
  have c1 := hB1
  have hT := hT2
  clear hW2 hB1' hB1 hT2
  go_wp2_with (first
    | (go_at_call 6; refine (awake10_any _ (by assumption)).mono ?_; rintro e w' ⟨rfl, hw⟩; have hk := below_next hk hw; have c1 := box_keep HB1.out l1 hk; have hT := HT.out.below hk; clear hw)
    | (go_at_call 19; refine (HLOG.out _ (by assumption)).mono ?_; rintro e w' ⟨rfl, hw⟩; have hk := below_next hk hw; have c1 := box_keep HB1.out l1 hk; have hT := HT.out.below hk; clear hw)
    | (go_at_call 20; refine (fault_any p q g [m, x] 2 _ _ rfl (IntsAt.two _ m x) (by decide)).mono ?_; rintro e w' ⟨rfl, hw⟩; rw [HE.out]; have hk := below_next hk (below_next (below_alloc _ _) hw); have c1 := box_keep HB1.out l1 hk; clear hw)
    | (go_at_call 23; refine (HREF.out _).mono ?_; rintro e w' ⟨rfl, hw⟩; have hk := below_next hk hw; clear hw)
    | (go_at_call 21; refine (is_fault 7 (by decide) _).mono ?_; rintro e w' ⟨rfl, hw⟩; have hk := below_next hk hw; clear hw))
  go_ret
  exact ret_of rfl (below_next hb hk)
set_option maxRecDepth 100000 in
set_option maxHeartbeats 1000000 in
/-- up to 2^20: the power is asked -/
theorem lawl_mid (n : Int) (hn : 0 ≤ n) (hnq : n < q) (hT : Tabs w) (hE : fltE p q g [m, x] = 0) (hq : q ≤ 1048576) (hq7 : 70000 < q)
    (hlog : ∀ W, Tabs W → Calls Tryd.prog 19 #[gV p q g, .int .i64 m, .int .i64 x] W (Ret (.tuple #[.int .i64 n, .int .i64 0]) W))
    (hpow : ∀ W, Calls Tryd.prog 22 #[gV p q g, .int .i64 m, .int .i64 n] W (Ret (.int .i64 x) W)) :
    Calls Tryd.prog 5 #[gV p q g, .int .i64 m, .int .i64 x] w (Ret (.bool true) w) := by
  obtain ⟨W2, hW2, hB1, l1, hb⟩ := one_box w #[.int .i64 p, .int .i64 q, .int .i64 g] 24
  have hT2 : Tabs W2 := by rw [hW2]; exact hT.alloc _
  have HB1 := Lib.hid hB1; have HT := Lib.hid hT2; have HE := Lib.hid hE; have HLOG := Lib.hid hlog
  have HPOW := Lib.hid hpow
  clear hpow
  have t0 : decide (1048576 < q) = false := by simp; omega
  have t1 : decide (70000 < q) = true := by simp; omega
  have t2 : decide (0 ≤ n) = true := by simp; omega
  have t3 : decide (n < q) = true := by simp; omega
  have t4 : (x == x) = true := by simp
  clear hT hE hlog
  go_enter Tryd.func5, Tryd.ntmps5
  go_upto_region 1 with (fail)
  rw [← hW2]
  obtain ⟨B1, hB1'⟩ : ∃ B, B = w.heap.size := ⟨_, rfl⟩
  rw [← hB1'] at hB1 HB1 l1 ⊢
  have hk : Below W2.heap.size W2 W2 := Below.refl _ _
  have c1 := hB1
  have hT := hT2
  clear hW2 hB1' hB1 hT2
  go_wp2_with (first
    | (go_at_call 6; refine (awake10_any _ (by assumption)).mono ?_; rintro e w' ⟨rfl, hw⟩; have hk := below_next hk hw; have c1 := box_keep HB1.out l1 hk; have hT := HT.out.below hk; clear hw)
    | (go_at_call 19; refine (HLOG.out _ (by assumption)).mono ?_; rintro e w' ⟨rfl, hw⟩; have hk := below_next hk hw; have c1 := box_keep HB1.out l1 hk; have hT := HT.out.below hk; clear hw)
    | (go_at_call 20; refine (fault_any p q g [m, x] 2 _ _ rfl (IntsAt.two _ m x) (by decide)).mono ?_; rintro e w' ⟨rfl, hw⟩; rw [HE.out]; have hk := below_next hk (below_next (below_alloc _ _) hw); have c1 := box_keep HB1.out l1 hk; clear hw)
    | (go_at_call 22; refine (HPOW.out _).mono ?_; rintro e w' ⟨rfl, hw⟩; have hk := below_next hk hw; clear hw))
  go_ret
  exact ret_of rfl (below_next hb hk)
set_option maxRecDepth 100000 in
set_option maxHeartbeats 1000000 in
theorem lawl_mid_none (hx : x ≠ 1) (hT : Tabs w) (hE : fltE p q g [1, x] = 0) (hq : q ≤ 1048576) (hq7 : 70000 < q)
    (hlog : ∀ W, Tabs W → Calls Tryd.prog 19 #[gV p q g, .int .i64 1, .int .i64 x] W (Ret (.tuple #[.int .i64 0, .int .i64 7]) W)) :
    Calls Tryd.prog 5 #[gV p q g, .int .i64 1, .int .i64 x] w (Ret (.bool true) w) := by
  obtain ⟨W2, hW2, hB1, l1, hb⟩ := one_box w #[.int .i64 p, .int .i64 q, .int .i64 g] 24
  have hT2 : Tabs W2 := by rw [hW2]; exact hT.alloc _
  have HB1 := Lib.hid hB1; have HT := Lib.hid hT2; have HE := Lib.hid hE; have HLOG := Lib.hid hlog
  have t0 : decide (1048576 < q) = false := by simp; omega
  have t1 : decide (70000 < q) = true := by simp; omega
  have t4 : (x != 1) = true := by simpa using hx
  clear hT hE hlog
  go_enter Tryd.func5, Tryd.ntmps5
  go_upto_region 1 with (fail)
  rw [← hW2]
  obtain ⟨B1, hB1'⟩ : ∃ B, B = w.heap.size := ⟨_, rfl⟩
  rw [← hB1'] at hB1 HB1 l1 ⊢
  have hk : Below W2.heap.size W2 W2 := Below.refl _ _
  have c1 := hB1
  have hT := hT2
  clear hW2 hB1' hB1 hT2
  go_wp2_with (first
    | (go_at_call 6; refine (awake10_any _ (by assumption)).mono ?_; rintro e w' ⟨rfl, hw⟩; have hk := below_next hk hw; have c1 := box_keep HB1.out l1 hk; have hT := HT.out.below hk; clear hw)
    | (go_at_call 19; refine (HLOG.out _ (by assumption)).mono ?_; rintro e w' ⟨rfl, hw⟩; have hk := below_next hk hw; have c1 := box_keep HB1.out l1 hk; have hT := HT.out.below hk; clear hw)
    | (go_at_call 20; refine (fault_any p q g [1, x] 2 _ _ rfl (IntsAt.two _ 1 x) (by decide)).mono ?_; rintro e w' ⟨rfl, hw⟩; rw [HE.out]; have hk := below_next hk (below_next (below_alloc _ _) hw); have c1 := box_keep HB1.out l1 hk; clear hw))
  go_ret
  exact ret_of rfl (below_next hb hk)
end
theorem flt_zero {p q g m x : Int} (h : fltE p q g [m, x] = 0) : GSpec p q g ∧ memB p q m = true ∧ memB p q x = true := by
  cases c0 : gvalB p q g
  · rw [fltE_arg c0] at h; cases h
  · cases c1 : [m, x].any (fun x => !memB p q x)
    · have h1 : memB p q m = true ∧ memB p q x = true := by simpa using c1
      exact ⟨gvalB_true.1 c0, h1.1, h1.2⟩
    · rw [fltE_rng c0 c1] at h; cases h
theorem lawL_any (p q g m x : Int) (w : World) (p0 : -9223372036854775808 ≤ p) (p1 : p ≤ 9223372036854775807) (q0 : -9223372036854775808 ≤ q) (q1 : q ≤ 9223372036854775807) (hT : Tabs w) :
    Calls Tryd.prog 5 #[gV p q g, .int .i64 m, .int .i64 x] w (Ret (.bool true) w) := by
  by_cases h0 : fltE p q g [m, x] = 0
  · obtain ⟨hG, hm, hx⟩ := flt_zero h0
    by_cases hbig : 1048576 < q
    · exact lawl_big p q g m x w hT h0 hbig (fun W hW => glog_big p q g m x W hG hW hm hx hbig)
    · by_cases hm1 : m = 1
      · subst hm1
        have hlog := fun W hW => glog_one p q g x W hG hW hx (by omega)
        by_cases hx1 : x = 1
        · subst hx1
          simp only [if_true] at hlog
          by_cases h7 : q ≤ 70000
          · exact lawl_low p q g 1 1 w 0 (by decide) hT h0 h7 hlog (fun W => by have := rlog_one p q g 1 W hG h7; simpa using this)
          · refine lawl_mid p q g 1 1 w 0 (by decide) (by omega) hT h0 (by omega) (by omega) hlog (fun W => ?_)
            have h5 := rgpow_any p q g 1 0 W hG (by decide) (by have := hG.p3; omega)
            rw [show (1 : Int).toNat = 1 from rfl, Nat.one_pow, Nat.mod_eq_of_lt (by have := hG.p3; omega)] at h5
            exact h5
        · simp only [if_neg hx1] at hlog
          by_cases h7 : q ≤ 70000
          · exact lawl_none p q g 1 x w hT h0 h7 hlog (fun W => by have := rlog_one p q g x W hG h7; rw [if_neg hx1] at this; exact this)
          · exact lawl_mid_none p q g x w hx1 hT h0 (by omega) (by omega) hlog
      · obtain ⟨s, hs⟩ := hG.log hm hm1 hx
        have hC := hG.cyc hm hm1
        have hlog := fun W hW => glog_any p q g m x s W hG hW hm hx (by omega) hm1 hC hs
        have m1 := mem_pos hm
        have x1 := mem_pos hx
        have hsq : (s : Int) < q := by have := hs.lt; have := hG.q3; omega
        by_cases h7 : q ≤ 70000
        · exact lawl_low p q g m x w s (by omega) hT h0 h7 hlog (fun W => rlog_any p q g m x s W hG.pm hG.qp (by omega) m1.2 (by omega) hC hs)
        · refine lawl_mid p q g m x w s (by omega) hsq hT h0 (by omega) (by omega) hlog (fun W => ?_)
          have h5 := rgpow_any p q g m s W hG (by omega) m1.2
          rw [Int.emod_eq_of_lt (by omega) hsq, Int.toNat_natCast, hs.eq] at h5
          rw [show ((x.toNat : Nat) : Int) = x by omega] at h5
          exact h5
  · exact lawl_fault p q g m x w p0 p1 q0 q1 hT _ rfl h0
end Go.Proofs.YtogbdnecpdcmiabDoor

/-
  Logarithms, by the program and by the reference.
-/
import Derived.Test.YtogbdnecpdcmiabDoorJ3
import Derived.Test.YtogbdnecpdcmiabDoorJ4
import Derived.Maps.OwnOps
import Derived.Shelf.Abstract
/-
  The discrete logarithm: group.Log, and the reference's.
-/
namespace Go.Proofs.YtogbdnecpdcmiabDoor
open Go Go.RowKit
set_option maxRecDepth 100000 in
set_option maxHeartbeats 4000000 in
theorem rlog_any (p q g m x : Int) (s : Nat) (w : World) (pm : p < 2305843009213693952) (hqp : q ≤ p - 1) (hm0 : 0 ≤ m) (hm : m < p) (hx0 : 0 ≤ x) (hC : Cyc p.toNat q.toNat m.toNat) (hL : LogN p.toNat q.toNat m.toNat x.toNat s) :
    Calls Tryd.prog 23 #[gV p q g, .int .i64 m, .int .i64 x] w (Ret (.int .i64 (s : Int)) w) := by
  have hsq : (s : Int) < q := by have := hL.lt; omega
  have HC := Lib.hid hC; have HL := Lib.hid hL
  have h2 := hC.p2
  clear hC hL
  have hp2 : 2 ≤ p := by omega
  clear h2
  have hb := below_alloc w (.cells #[.int .i64 p, .int .i64 q, .int .i64 g] 24)
  have hB0 : Below (w.alloc (.cells #[.int .i64 p, .int .i64 q, .int .i64 g] 24)).heap.size (w.alloc (.cells #[.int .i64 p, .int .i64 q, .int .i64 g] 24)) (w.alloc (.cells #[.int .i64 p, .int .i64 q, .int .i64 g] 24)) := Below.refl _ _
  go_enter Tryd.func23, Tryd.ntmps23
  go_wp2
  go_loopw [7, 8] (fun vy ve wr => ∃ e : Nat, vy = .int .i64 (m.toNat ^ e % p.toNat : Nat) ∧ ve = .int .i64 e ∧ e ≤ s ∧ Drew (w.alloc (.cells #[.int .i64 p, .int .i64 q, .int .i64 g] 24)) wr) (fun _ ve _ => s - (intOf ve).toNat)
  case atStart => exact ⟨0, by rw [Nat.pow_zero, Nat.mod_eq_of_lt (by omega)]; rfl, rfl, by omega, Drew.refl _⟩
  case round =>
    obtain ⟨e, rfl, rfl, hes, hd⟩ := hrel
    have hbox := box_at hd.below
    obtain ⟨Y, hY⟩ : ∃ Y, Y = m.toNat ^ e % p.toNat := ⟨_, rfl⟩
    have hYp : (Y : Int) < p := by have : Y < p.toNat := by (rw [hY]; exact Nat.mod_lt _ (by omega))
                                   omega
    rw [← hY]
    have HY := Lib.hid hY
    clear hY
    have heq : (e : Int) < q := by omega
    have t0 : decide ((e : Int) < q) = true := by simp; omega
    by_cases hlt : e = s
    · have t1 : ((Y : Int) == x) = true := by
        have h1 := HL.out.eq
        rw [← hlt, ← HY.out] at h1
        simp; omega
      subst hlt
      go_wp2
      go_ret
      exact ret_of rfl (below_next hb hd.below)
    · obtain ⟨Y2, hY2⟩ : ∃ Y2, Y2 = m.toNat ^ (e + 1) % p.toNat := ⟨_, rfl⟩
      have t1 : ((Y : Int) == x) = false := by
        have h1 : Y ≠ x.toNat := fun h => hlt (LogN.unique HC.out ⟨by omega, by rw [← HY.out]; exact h⟩ HL.out)
        simp; omega
      have nx : Y2 = Y * m.toNat % p.toNat := by rw [hY2, HY.out, Nat.mod_mul_mod, Nat.pow_succ]
      have HY2 := Lib.hid hY2
      clear hY2
      have NX := Lib.hid nx
      clear nx
      go_wp2_with (go_at_call 50; refine (rmul_z _ _ _ (by omega) hYp hm0 hm pm _).mono ?_; rintro e w' ⟨rfl, hw⟩; have hd := drew_next hd hw; clear hw; rw [Int.toNat_natCast, ← NX.out])
      go_roundw
      case rel => exact ⟨e + 1, by rw [HY2.out], by go_num, by omega, hd⟩
      case measure => simp [intOf]; omega
theorem gcheck2 (p q g m x : Int) (W : World) (hG : GSpec p q g) (hT : Tabs W) (hm : memB p q m = true) (hx : memB p q x = true) {B : Nat} (hB : W.heap.size = B) :
    Calls Tryd.prog 45 #[gV p q g, .slice (some ⟨B, 0, none⟩) 2 2] (W.alloc (.cells #[.int .i64 m, .int .i64 x] 3)) (Ret (.int .i64 0) (W.alloc (.cells #[.int .i64 m, .int .i64 x] 3))) := by
  subst hB
  refine gcheck_any p q g [m, x] W.heap.size _ hG (hT.alloc _) (size_lt _ _) 2 rfl (by omega) (fun y hy => ?_) (fun j hj => ?_)
  · simp only [List.mem_cons, List.not_mem_nil, or_false] at hy
    rcases hy with rfl | rfl
    · exact hm
    · exact hx
  · rw [cell_of_row _ W.heap.size j _ _ _ (heap_alloc_new _ _)]
    have : j = 0 ∨ j = 1 := by omega
    rcases this with rfl | rfl <;> rfl
set_option maxRecDepth 100000 in
set_option maxHeartbeats 4000000 in
/-- a group that is too great -/
theorem glog_big (p q g m x : Int) (w : World) (hG : GSpec p q g) (hT : Tabs w) (hm : memB p q m = true) (hx : memB p q x = true) (hq : 1048576 < q) :
    Calls Tryd.prog 19 #[gV p q g, .int .i64 m, .int .i64 x] w (Ret (.tuple #[.int .i64 0, .int .i64 9]) w) := by
  have HG := Lib.hid hG; have HM := Lib.hid hm; have HX := Lib.hid hx
  clear hG hm hx
  have hb := below_next (below_alloc w (.cells #[.int .i64 p, .int .i64 q, .int .i64 g] 24)) (below_alloc _ (.cells #[.int .i64 m, .int .i64 x] 3))
  have hz : w.heap.size < ((w.alloc (.cells #[.int .i64 p, .int .i64 q, .int .i64 g] 24)).alloc (.cells #[.int .i64 m, .int .i64 x] 3)).heap.size := by simp; omega
  have t1 : decide (1048576 < q) = true := by simp; omega
  go_enter Tryd.func19, Tryd.ntmps19
  go_wp2_with (go_at_call 45; refine (gcheck2 p q g m x _ HG.out (hT.alloc _) HM.out HX.out (by simp)).mono ?_; rintro e w' ⟨rfl, hw⟩; have hb := below_next hb hw; obtain ⟨hc, hf⟩ := bcell hw; have hz := Nat.lt_of_lt_of_le hz hw.size; clear hw)
  go_ret2
  exact ret_of rfl hb
end Go.Proofs.YtogbdnecpdcmiabDoor
/-
  group.Log, by baby steps and giant steps.
-/
namespace Go.Proofs.YtogbdnecpdcmiabDoor
open Go Go.RowKit Go.Maps
theorem lawK : Keyed Tryd.prog 3 := int_keyed Tryd.underlying3
theorem zeroK (w : World) : (zeroValue 3).run Tryd.prog w = .ok (.int .i64 0) w := by kernel_rfl
theorem wf64 {y : Int} (h : -9223372036854775808 ≤ y) (k : y < 9223372036854775808) : (Lit.int .i64 y).wf = true := by
  unfold Lit.wf
  have e1 : IntKind.i64.min = -9223372036854775808 := rfl
  have e2 : IntKind.i64.max = 9223372036854775807 := rfl
  simp [e1, e2]; omega
theorem giant_next {p q m c k Z Zk : Nat} (hC : Cyc p q m) (hZ : Z = m ^ (c % q) % p) (hk : Zk = m ^ (c * k) % p) : Zk * Z % p = m ^ (c * (k + 1)) % p := by
  rw [hk, hZ, pow_mod_order hC, ← Nat.mul_mod, ← Nat.pow_add, Nat.mul_succ]
set_option maxRecDepth 100000 in
set_option maxHeartbeats 4000000 in
theorem glog_any (p q g m x : Int) (s : Nat) (w : World) (hG : GSpec p q g) (hT : Tabs w) (hm : memB p q m = true) (hx : memB p q x = true) (hq : q ≤ 1048576) (hm1 : m ≠ 1)
    (hC : Cyc p.toNat q.toNat m.toNat) (hL : LogN p.toNat q.toNat m.toNat x.toNat s) :
    Calls Tryd.prog 19 #[gV p q g, .int .i64 m, .int .i64 x] w (Ret (.tuple #[.int .i64 (s : Int), .int .i64 0]) w) := by
  have p3 := hG.p3; have pm := hG.pm; have q3 := hG.q3; have hqp := hG.qp
  obtain ⟨a1, ap⟩ := mem_pos hm
  obtain ⟨x1, xp⟩ := mem_pos hx
  have hsq : (s : Int) < q := by have := hL.lt; omega
  have HG := Lib.hid hG; have HM := Lib.hid hm; have HX := Lib.hid hx; have HC := Lib.hid hC; have HL := Lib.hid hL
  have t1 : decide (1048576 < q) = false := by simp; omega
  have t2 : (m == 1) = false := by simp; omega
  clear hG hm hx hC hL hm1
  have hmm := @run_makeMap Tryd.prog
  have hb := below_next (below_alloc w (.cells #[.int .i64 p, .int .i64 q, .int .i64 g] 24)) (below_alloc _ (.cells #[.int .i64 m, .int .i64 x] 3))
  have hB0 := below_alloc (w.alloc (.cells #[.int .i64 p, .int .i64 q, .int .i64 g] 24)) (.cells #[.int .i64 m, .int .i64 x] 3)
  go_enter Tryd.func19, Tryd.ntmps19
  go_wp2_with (go_at_call 45; refine (gcheck2 p q g m x _ HG.out (hT.alloc _) HM.out HX.out (by simp)).mono ?_; rintro e w' ⟨rfl, hw⟩; have hb := below_next hb hw; have hB0 := below_next hB0 hw; have hbox := box_at hB0; clear hw)
  have hT2 : Tabs (w'.alloc (.map #[] 0)) := (Tabs.below (hT.alloc _) (by first | assumption | exact hB0.mono (by simp))).alloc _
  obtain ⟨W0, hW0⟩ : ∃ W, W = w'.alloc (.map #[] 0) := ⟨_, rfl⟩
  have hown0 : W0.ownsMap Tryd.prog 3 (plainElem (H := Unit) Tryd.prog 3) w'.heap.size 0 (.map []) := by rw [hW0]; exact World.ownsMap_made _ _ _ _
  have hbk : Below w'.heap.size w' W0 := by rw [hW0]; exact below_alloc _ _
  obtain ⟨B, hB⟩ : ∃ B, B = w'.heap.size := ⟨_, rfl⟩
  have hBw : w.heap.size < B := by rw [hB]; exact Nat.lt_of_lt_of_le (size_lt w _) hB0.size
  rw [← hW0, ← hB]
  rw [← hB] at hown0 hbk
  have HBB := Lib.hid hB
  clear hB hW0
  go_loopw [10, 35] (fun vy vi wr => ∃ (i : Nat) (y : Int) (D : DataW Unit), vy = .int .i64 y ∧ vi = .int .i64 i ∧ i ≤ 1024 ∧ y = ((x.toNat * m.toNat ^ i % p.toNat : Nat) : Int) ∧
      wr.ownsMap Tryd.prog 3 (plainElem (H := Unit) Tryd.prog 3) B i D ∧ BInv p.toNat m.toNat x.toNat D i ∧ Below B w' wr) (fun _ vi _ => 1024 - (intOf vi).toNat)
  case atStart => exact ⟨0, x, .map [], rfl, rfl, by omega, by rw [Nat.pow_zero, Nat.mul_one, Nat.mod_eq_of_lt (by omega)]; omega, hown0, BInv.start _ _ _, hbk⟩
  case round =>
    obtain ⟨i, y, D, rfl, rfl, hi, hy, hown, hD, hbl⟩ := hrel
    have hbox2 : ∀ j, wr.cell? ⟨w.heap.size, j, none⟩ = #[Value.int .i64 p, .int .i64 q, .int .i64 g][j]? := fun j => (hbl.cell (p := ⟨w.heap.size, j, none⟩) hBw).trans (hbox j)
    have hwy : (Lit.int .i64 y).wf = true := wf64 (by omega) (by
      have : x.toNat * m.toNat ^ i % p.toNat < p.toNat := Nat.mod_lt _ (by omega)
      omega)
    have hkey : keyOf Tryd.prog 3 (.int .i64 y) = some (.int .i64 y) := keyOf_int_mk Tryd.underlying3 hwy
    have hwi : (Lit.int .i64 (i : Int)).wf = true := wf64 (by omega) (by omega)
    by_cases hlt : i = 1024
    · have t3 : decide ((i : Int) < 1024) = false := by simp; omega
      obtain ⟨E, hE⟩ : ∃ E, E = (1024 : Int) % q := ⟨_, rfl⟩
      have hE0 : 0 ≤ E := by rw [hE]; exact Int.emod_nonneg _ (by omega)
      have hEm : E < q := by rw [hE]; exact Int.emod_lt_of_pos _ (by omega)
      obtain ⟨Z, hZ⟩ : ∃ Z, Z = m.toNat ^ E.toNat % p.toNat := ⟨_, rfl⟩
      have HE := Lib.hid hE; have HZ := Lib.hid hZ
      clear hE hZ hy hown0 hbk
      have HLT := Lib.hid hlt
      clear hlt
      have hq0 : ¬ q = 0 := by omega
      have hpw : ∀ v, Calls Tryd.prog 30 #[.int .i64 m, .int .i64 E, .int .i64 p] v (RetQ (.tuple #[.int .i64 (Z : Int), .int .i64 0]) v) := fun v => by
        rw [HZ.out]; exact wpow_z m E p (by omega) ap hE0 (by omega) pm v
      have HPW := Lib.hid hpw
      clear hpw
      go_upto_region 18 with (fail)
      go_quiet (first
        | (go_at_call 30; rw [← HE.out]; exact calls_quiet (HPW.out _)))
      have hZp : (Z : Int) < p := by
        have : Z < p.toNat := by rw [HZ.out]; exact Nat.mod_lt _ (by omega)
        omega
      go_wp2
      clear t1 t2 t3
      go_loopw [14, 64] (fun vz vk w2 => ∃ k Zk : Nat, vz = .int .i64 Zk ∧ vk = .int .i64 k ∧ k ≤ giantAt s ∧ Zk = m.toNat ^ (1024 * k) % p.toNat ∧ (∀ j < k, Maps.has D (.int .i64 ((m.toNat ^ (1024 * j) % p.toNat : Nat) : Int)) = false) ∧ Drew wr w2) (fun _ vk _ => giantAt s - (intOf vk).toNat)
      case atStart => exact ⟨0, 1, rfl, rfl, by omega, by rw [Nat.mul_zero, Nat.pow_zero, Nat.mod_eq_of_lt (by omega)], fun j hj => by omega, ⟨nq, rfl⟩⟩
      case round =>
        obtain ⟨k, Zk, rfl, rfl, hk, hZk, hno, n2, rfl⟩ := hrel
        have hg := giant_lt HL.out.lt
        have t4 : decide ((k : Int) < q / 1024 + 2) = true := by simp; omega
        have hZkp : (Zk : Int) < p := by
          have : Zk < p.toNat := by rw [hZk]; exact Nat.mod_lt _ (by omega)
          omega
        have hkey : keyOf Tryd.prog 3 (.int .i64 (Zk : Int)) = some (.int .i64 (Zk : Int)) := keyOf_int_mk Tryd.underlying3 (wf64 (by omega) (by omega))
        have hbl2 : Below B w' (wr.drewN n2) := hbl.trans ((below_drewN wr n2).mono (by rw [HBB.out]; exact hbl.size))
        have hbox4 : ∀ j, (wr.drewN n2).cell? ⟨w.heap.size, j, none⟩ = #[Value.int .i64 p, .int .i64 q, .int .i64 g][j]? := fun j => (hbl2.cell (p := ⟨w.heap.size, j, none⟩) hBw).trans (hbox j)
        have HD := Lib.hid hD
        have HZk := Lib.hid hZk; have HNO := Lib.hid hno
        clear hZk hno hD
        cases hh : Maps.has D (.int .i64 (Zk : Int))
        · have hkl : k < giantAt s := by
            refine Nat.lt_of_le_of_ne hk fun e => ?_
            obtain ⟨i1, hi1, hi2⟩ := giant_meet HL.out
            have h3 := HD.out.there i1 (by rw [HLT.out]; exact hi1)
            rw [hi2, ← e, ← HZk.out, hh] at h3
            exact Bool.noConfusion h3
          obtain ⟨Z3, hZ3⟩ : ∃ Z3, Z3 = Zk * Z % p.toNat := ⟨_, rfl⟩
          have nx : Z3 = m.toNat ^ (1024 * (k + 1)) % p.toNat := by
            have hE : E.toNat = 1024 % q.toNat := by rw [HE.out, Int.toNat_emod (by omega) (by omega)]; rfl
            exact hZ3.trans (giant_next HC.out (by rw [← hE]; exact HZ.out) HZk.out)
          have HZ3 := Lib.hid hZ3; have NX := Lib.hid nx
          clear hZ3 nx
          go_wp2_with (first
            | (at_lookup; refine wpList_lookup_own_ok_int _ rfl _ _ 68 rfl 3 3 .i64 lawK Tryd.underlying68 Tryd.underlying3 (zeroK _) B i D rfl hown _ _ rfl hkey ?_; intro c hat hwc)
            | (go_at_call 18; refine (wMul_z _ _ _ (by omega) hZkp (by omega) hZp pm _).mono ?_; rintro e w2 ⟨rfl, n, rfl⟩; rw [Int.toNat_natCast, Int.toNat_natCast, ← HZ3.out]))
          go_roundw
          case rel =>
            refine ⟨k + 1, Z3, rfl, by go_num, by omega, NX.out, fun j hj => ?_, n2 + n, rfl⟩
            rcases Nat.lt_or_eq_of_le (Nat.le_of_lt_succ hj) with h3 | rfl
            · exact HNO.out j h3
            · rw [← HZk.out]; exact hh
          case measure => simp [intOf]; omega
        · obtain ⟨i2, hi1, hi2, hi3⟩ := HD.out.val _ hh
          have hS : ((k : Int) * 1024 - (i2 : Int)) % q = (s : Int) := by
            have h3 : x.toNat * m.toNat ^ i2 % p.toNat = m.toNat ^ (1024 * k) % p.toNat := by rw [← HZk.out]; exact (Int.ofNat_inj.1 hi2).symm
            have h4 := log_hit HC.out HL.out h3
            rw [Int.toNat_of_nonneg (by omega)] at h4
            exact h4
          have HS := Lib.hid hS; have HI := Lib.hid hi2; have HI3 := Lib.hid hi3
          clear hS hi2 hi3
          go_wp2_with (first
            | (at_lookup; refine wpList_lookup_own_ok_int _ rfl _ _ 68 rfl 3 3 .i64 lawK Tryd.underlying68 Tryd.underlying3 (zeroK _) B i D rfl hown _ _ rfl hkey ?_; intro c hat hwc; rw [HI3.out] at hat; injection hat with hat; injection hat with _ hat; subst hat; clear hwc)
            | (go_at_call 46; refine (wreduce_z _ _ (by omega) (by omega) _).mono ?_; rintro e w2 ⟨rfl, n, rfl⟩; rw [HS.out]))
          go_ret2
          exact ret_of rfl (below_next (below_next hb (by rw [← HBB.out]; exact hbl)) (below_drewN _ _))
    · have t3 : decide ((i : Int) < 1024) = true := by simp; omega
      obtain ⟨Y2, hY2⟩ : ∃ Y2, Y2 = y.toNat * m.toNat % p.toNat := ⟨_, rfl⟩
      have hyp : 0 ≤ y ∧ y < p := by
        have : x.toNat * m.toNat ^ i % p.toNat < p.toNat := Nat.mod_lt _ (by omega)
        omega
      have nx : Y2 = x.toNat * m.toNat ^ (i + 1) % p.toNat := by rw [hY2, hy, Int.toNat_natCast, Nat.mod_mul_mod, Nat.pow_succ, ← Nat.mul_assoc]
      have HY2 := Lib.hid hY2; have NX := Lib.hid nx; have HY := Lib.hid hy
      clear hY2 nx hy
      go_wp2_with (first
        | (at_mapUpdate; refine wpList_mapUpdate_own _ rfl _ _ _ 68 rfl 3 3 lawK Tryd.underlying68 _ B i _ rfl hown (by unfold maxLen; omega) _ _ _ rfl rfl hkey _ [] (plainElem_int Tryd.underlying3 hwi) ?_; intro w1 hown1 hgrow1; have hbl1 := hbl.grown hgrow1 (by rw [HBB.out]; exact hbl.size) (fun j hj => by cases hj; exact Nat.le_refl _); have hbox3 : ∀ j, w1.cell? ⟨w.heap.size, j, none⟩ = #[Value.int .i64 p, .int .i64 q, .int .i64 g][j]? := fun j => (hbl1.cell (p := ⟨w.heap.size, j, none⟩) hBw).trans (hbox j))
        | (go_at_call 18; refine (wMul_z _ _ _ hyp.1 hyp.2 (by omega) ap pm _).mono ?_; rintro e w2 ⟨rfl, n, rfl⟩; rw [← HY2.out]))
      go_roundw
      case rel =>
        refine ⟨i + 1, (Y2 : Int), _, rfl, by go_num, by omega, by rw [NX.out], hown1, ?_, ?_⟩
        · rw [HY.out]; exact hD.next
        · exact hbl1.trans ((below_drewN w1 n).mono (Nat.le_of_lt hown1.lt))
      case measure => simp [intOf]; omega
end Go.Proofs.YtogbdnecpdcmiabDoor
/-
  The first error of a group and numbers: group.check, and the law's fault.
-/
namespace Go.Proofs.YtogbdnecpdcmiabDoor
open Go Go.RowKit Go.Shelf
/-- the array of a slice reads as a list of integers -/
structure IntsAt (w : World) (B : Nat) (xs : List Int) : Prop where
  lt : B < w.heap.size
  at_ : ∀ j, j < xs.length → w.cell? ⟨B, j, none⟩ = some (.int .i64 (xs.getD j 0))
theorem IntsAt.below {w w' : World} {B : Nat} {xs : List Int} (h : IntsAt w B xs) (hk : Below w.heap.size w w') : IntsAt w' B xs :=
  ⟨Nat.lt_of_lt_of_le h.lt hk.size, fun j hj => by rw [hk.cell (p := ⟨B, j, none⟩) h.lt]; exact h.at_ j hj⟩
theorem IntsAt.two (W : World) (a b : Int) : IntsAt (W.alloc (.cells #[.int .i64 a, .int .i64 b] 3)) W.heap.size [a, b] := by
  refine ⟨size_lt _ _, fun j hj => ?_⟩
  have hj2 : j < 2 := hj
  rw [cell_of_row _ W.heap.size j _ _ _ (heap_alloc_new _ _)]
  have : j = 0 ∨ j = 1 := by omega
  rcases this with rfl | rfl <;> rfl
/-- an index is found or not -/
def IxRet (b : Bool) (w : World) (e : Ending) (w' : World) : Prop := ∃ r : Int, decide (0 ≤ r) = b ∧ e = .returned (.int .i64 r) ∧ Below w.heap.size w w'
theorem ixRet_of {b : Bool} {r : Int} {w w' : World} (h : decide (0 ≤ r) = b) (hb : Below w.heap.size w w') : IxRet b w (.returned (.int .i64 r)) w' := ⟨r, h, rfl, hb⟩
theorem getD_mem {xs : List Int} {i : Nat} (h : i < xs.length) : xs.getD i 0 ∈ xs := by
  rw [List.getD_eq_getElem?_getD, List.getElem?_eq_getElem h]
  exact List.getElem_mem _
theorem any_hit {F : Int → Bool} {xs : List Int} {i : Nat} (h : i < xs.length) (hf : F (xs.getD i 0) = true) : xs.any F = true := List.any_eq_true.2 ⟨_, getD_mem h, hf⟩
theorem any_miss {F : Int → Bool} {xs : List Int} (h : ∀ j, j < xs.length → F (xs.getD j 0) = false) : xs.any F = false := by
  rw [List.any_eq_false]
  intro x hx
  obtain ⟨j, hj, rfl⟩ := List.getElem_of_mem hx
  have := h j hj
  rw [List.getD_eq_getElem?_getD, List.getElem?_eq_getElem hj] at this
  simpa using this
set_option maxRecDepth 100000 in
set_option maxHeartbeats 400000 in
theorem index_any (f : Nat) (lb : Array Value) (F : Int → Bool) (xs : List Int) (n B : Nat) (w : World) (eg : ∀ args w, (callFunc f args).run Tryd.prog w = .ok (.enter f args) w) (hn : xs.length = n) (hS : IntsAt w B xs) (hl : n ≤ 1000)
    (hp : ∀ W x, Below w.heap.size w W → Calls Tryd.prog f (#[.int .i64 x] ++ lb) W (Ret (.bool (F x)) W)) :
    Calls Tryd.prog 69 #[.slice (some ⟨B, 0, none⟩) n n, .func (.func f) #[] lb] w (IxRet (xs.any F) w) := by
  have HN := Lib.hid hn; have HS := Lib.hid hS; have HP := Lib.hid hp
  clear hn hS hp
  go_enter Tryd.func69, Tryd.ntmps69
  go_wp2
  go_loopw [5, 8] (fun _ vi wr => ∃ i : Nat, vi = .int .i64 i ∧ i ≤ n ∧ (∀ j, j < i → F (xs.getD j 0) = false) ∧ Below w.heap.size w wr) (fun _ vi _ => n - (intOf vi).toNat)
  case atStart => exact ⟨0, rfl, by omega, fun j h => by omega, Below.refl _ _⟩
  case round =>
    obtain ⟨i, rfl, hi, hno, hb⟩ := hrel
    have HNO := Lib.hid hno
    clear hno
    by_cases hlt : i < n
    · have hc := (HS.out.below hb).at_ i (by rw [HN.out]; exact hlt)
      obtain ⟨x, hx⟩ : ∃ x, x = xs.getD i 0 := ⟨_, rfl⟩
      rw [← hx] at hc
      have hcall := HP.out wr x hb
      have HX := Lib.hid hx
      clear hx
      cases hfx : F x
      · have HFX := Lib.hid hfx
        rw [hfx] at hcall
        clear hfx
        go_wp2_with (go_at_fn f; refine hcall.mono ?_; rintro e w' ⟨rfl, hw⟩; have hb := below_next hb hw; clear hw)
        go_roundw
        case rel =>
          refine ⟨i + 1, by go_num, by omega, fun j h => ?_, hb⟩
          rcases Nat.lt_or_ge j i with h5 | h5
          · exact HNO.out j h5
          · rw [show j = i by omega, ← HX.out]; exact HFX.out
        case measure => simp [intOf]; omega
      · have hany : xs.any F = true := any_hit (i := i) (by rw [HN.out]; exact hlt) (by rw [← HX.out]; exact hfx)
        have HA := Lib.hid hany
        rw [hfx] at hcall
        clear hfx hany
        go_wp2_with (go_at_fn f; refine hcall.mono ?_; rintro e w' ⟨rfl, hw⟩; have hb := below_next hb hw; clear hw)
        go_ret
        exact ixRet_of (by rw [HA.out]; simp) hb
    · have h12 : i = n := by omega
      have hany : xs.any F = false := any_miss (fun j hj => HNO.out j (by have := HN.out; omega))
      have HA := Lib.hid hany
      subst h12
      clear hany
      go_wp2
      go_ret
      exact ixRet_of (by rw [HA.out]; rfl) hb
set_option maxRecDepth 100000 in
theorem contains_func (f : Nat) (lb : Array Value) (F : Int → Bool) (xs : List Int) (n B : Nat) (w : World) (eg : ∀ args w, (callFunc f args).run Tryd.prog w = .ok (.enter f args) w) (hn : xs.length = n) (hS : IntsAt w B xs) (hl : n ≤ 1000)
    (hp : ∀ W x, Below w.heap.size w W → Calls Tryd.prog f (#[.int .i64 x] ++ lb) W (Ret (.bool (F x)) W)) :
    Calls Tryd.prog 47 #[.slice (some ⟨B, 0, none⟩) n n, .func (.func f) #[] lb] w (Ret (.bool (xs.any F)) w) := by
  have HN := Lib.hid hn; have HS := Lib.hid hS; have HP := Lib.hid hp
  clear hn hS hp
  obtain ⟨b, hb0⟩ : ∃ b, b = xs.any F := ⟨_, rfl⟩
  rw [← hb0]
  have HB0 := Lib.hid hb0
  clear hb0
  go_enter Tryd.func47, Tryd.ntmps47
  go_wp2_with (go_at_call 69; refine (index_any f lb F xs n B _ eg HN.out HS.out hl HP.out).mono ?_; rintro e w' ⟨r, hr, rfl, hw⟩; rw [← HB0.out] at hr)
  go_ret
  exact ret_of rfl hw
open Classical in
/-- the first error -/
noncomputable def fltE (p q g : Int) (xs : List Int) : Int := if gvalB p q g = true then (if xs.any (fun x => !memB p q x) = true then 2 else 0) else 1
theorem fltE_arg {p q g : Int} {xs : List Int} (h : gvalB p q g = false) : fltE p q g xs = 1 := by rw [fltE, h]; rfl
theorem fltE_rng {p q g : Int} {xs : List Int} (h : gvalB p q g = true) (k : xs.any (fun x => !memB p q x) = true) : fltE p q g xs = 2 := by rw [fltE, h, k]; rfl
theorem fltE_ok {p q g : Int} {xs : List Int} (h : gvalB p q g = true) (k : xs.any (fun x => !memB p q x) = false) : fltE p q g xs = 0 := by rw [fltE, h, k]; rfl
theorem enters48 : Enters Tryd.prog 48 := enters_of Tryd.func48 (by kernel_rfl) rfl
theorem pushTwo (a b : Value) : (#[a] ++ #[b] : Array Value) = #[a, b] := rfl
set_option maxRecDepth 100000 in
theorem fault1_any (p q g x : Int) (B : Nat) (w : World) (hG : GSpec p q g) (hc : ∀ j, w.cell? ⟨B, j, none⟩ = #[Value.int .i64 p, .int .i64 q, .int .i64 g][j]?) :
    Calls Tryd.prog 48 #[.int .i64 x, .pointer (some ⟨B, 0, none⟩)] w (Ret (.bool (!memB p q x)) w) := by
  have HG := Lib.hid hG
  clear hG
  obtain ⟨b, hb0⟩ : ∃ b, b = memB p q x := ⟨_, rfl⟩
  rw [← hb0]
  have HB0 := Lib.hid hb0
  clear hb0
  go_enter Tryd.func48, Tryd.ntmps48
  go_wp2_with (go_at_call 49; refine (rmember_any _ _ _ _ _ HG.out).mono ?_; rintro e w' ⟨rfl, hw⟩; rw [← HB0.out])
  go_ret
  exact ret_of rfl hw
set_option maxRecDepth 100000 in
set_option maxHeartbeats 400000 in
theorem fault_any (p q g : Int) (xs : List Int) (n B : Nat) (w : World) (hn : xs.length = n) (hS : IntsAt w B xs) (hl : n ≤ 1000) :
    Calls Tryd.prog 20 #[gV p q g, .slice (some ⟨B, 0, none⟩) n n] w (Ret (.int .i64 (fltE p q g xs)) w) := by
  obtain ⟨W2, hW2, hB1, l1, hb⟩ := one_box w #[.int .i64 p, .int .i64 q, .int .i64 g] 24
  have hS2 : IntsAt W2 B xs := by rw [hW2]; exact hS.below (below_alloc _ _)
  have HS := Lib.hid hS2; have HB1 := Lib.hid hB1; have HN := Lib.hid hn
  clear hS hS2 hn
  obtain ⟨E, hE⟩ : ∃ E, E = fltE p q g xs := ⟨_, rfl⟩
  rw [← hE]
  have HE := Lib.hid hE
  clear hE
  go_enter Tryd.func20, Tryd.ntmps20
  go_upto_region 1 with (fail)
  rw [← hW2]
  obtain ⟨B1, hB1'⟩ : ∃ B, B = w.heap.size := ⟨_, rfl⟩
  rw [← hB1'] at hB1 HB1 l1 ⊢
  have hk : Below W2.heap.size W2 W2 := Below.refl _ _
  have c1 := hB1
  clear hW2 hB1' hB1
  cases c0 : gvalB p q g
  · obtain rfl : E = 1 := by rw [HE.out]; exact fltE_arg c0
    go_wp2_with (go_at_call 11; refine (rgvalid_any _ _ _ _).mono ?_; rintro e w' ⟨rfl, hw⟩; rw [c0]; have hk := below_next hk hw; have c1 := box_keep HB1.out l1 hk; clear hw)
    go_ret
    exact ret_of rfl (below_next hb hk)
  · have HG := Lib.hid (gvalB_true.1 c0)
    obtain ⟨a, ha⟩ : ∃ a, a = xs.any (fun x => !memB p q x) := ⟨_, rfl⟩
    have HA := Lib.hid ha
    have hEE : E = if a then 2 else 0 := by
      rw [HE.out]
      cases a
      · exact fltE_ok c0 ha.symm
      · exact fltE_rng c0 ha.symm
    have HC0 := Lib.hid c0
    clear c0 ha
    cases a
    all_goals
      simp only [if_true, if_false, Bool.false_eq_true] at hEE
      subst hEE
      go_wp2_with (first
        | (go_at_call 11; refine (rgvalid_any _ _ _ _).mono ?_; rintro e w' ⟨rfl, hw⟩; rw [HC0.out]; have hk := below_next hk hw; have c1 := box_keep HB1.out l1 hk; clear hw)
        | (go_at_call 47; refine (contains_func 48 #[.pointer (some ⟨B1, 0, none⟩)] (fun x => !memB p q x) xs n B _ enters48 HN.out (HS.out.below hk) hl (fun W x hW => by rw [pushTwo]; exact fault1_any p q g x B1 W HG.out (box_keep HB1.out l1 (below_next hk hW)))).mono ?_; rintro e w' ⟨rfl, hw⟩; rw [← HA.out]; have hk := below_next hk hw; clear hw))
      go_ret
      exact ret_of rfl (below_next hb hk)
end Go.Proofs.YtogbdnecpdcmiabDoor
/-
  group.check and group.Log, where they refuse, and where the base is 1.
-/
namespace Go.Proofs.YtogbdnecpdcmiabDoor
open Go Go.RowKit
set_option maxRecDepth 100000 in
set_option maxHeartbeats 1000000 in
theorem gcheck_all (p q g : Int) (xs : List Int) (n B : Nat) (w : World) (p0 : -9223372036854775808 ≤ p) (p1 : p ≤ 9223372036854775807) (q0 : -9223372036854775808 ≤ q) (q1 : q ≤ 9223372036854775807) (hT : Tabs w) (hn : xs.length = n) (hS : IntsAt w B xs) (hl : n ≤ 1000) :
    Calls Tryd.prog 45 #[gV p q g, .slice (some ⟨B, 0, none⟩) n n] w (Ret (.int .i64 (fltE p q g xs)) w) := by
  obtain ⟨W2, hW2, hB1, l1, hb⟩ := one_box w #[.int .i64 p, .int .i64 q, .int .i64 g] 24
  have hS2 : IntsAt W2 B xs := by rw [hW2]; exact hS.below (below_alloc _ _)
  have hT2 : Tabs W2 := by rw [hW2]; exact hT.alloc _
  have HS := Lib.hid hS2; have HB1 := Lib.hid hB1; have HN := Lib.hid hn; have HT := Lib.hid hT2
  clear hS hS2 hn hT hT2
  obtain ⟨E, hE⟩ : ∃ E, E = fltE p q g xs := ⟨_, rfl⟩
  rw [← hE]
  have HE := Lib.hid hE
  clear hE
  go_enter Tryd.func45, Tryd.ntmps45
  go_upto_region 1 with (fail)
  rw [← hW2]
  obtain ⟨B1, hB1'⟩ : ∃ B, B = w.heap.size := ⟨_, rfl⟩
  rw [← hB1'] at hB1 HB1 l1 ⊢
  have hk : Below W2.heap.size W2 W2 := Below.refl _ _
  have c1 := hB1
  clear hW2 hB1' hB1
  cases c0 : gvalB p q g
  · obtain rfl : E = 1 := by rw [HE.out]; exact fltE_arg c0
    go_wp2_with (go_at_call 9; refine (gvalid_any _ _ _ _ p0 p1 q0 q1 HT.out).mono ?_; rintro e w' ⟨rfl, hw⟩; rw [c0]; have hk := below_next hk hw; have c1 := box_keep HB1.out l1 hk; clear hw)
    go_ret
    exact ret_of rfl (below_next hb hk)
  · have HG := Lib.hid (gvalB_true.1 c0)
    have HC0 := Lib.hid c0
    clear c0
    go_wp2_with (go_at_call 9; refine (gvalid_any _ _ _ _ p0 p1 q0 q1 HT.out).mono ?_; rintro e w' ⟨rfl, hw⟩; rw [HC0.out]; have hk := below_next hk hw; have c1 := box_keep HB1.out l1 hk; clear hw)
    go_loopw [6, 12] (fun _ vi wr => ∃ i : Nat, vi = .int .i64 i ∧ i ≤ n ∧ (∀ j, j < i → (!memB p q (xs.getD j 0)) = false) ∧ Below W2.heap.size W2 wr) (fun _ vi _ => n - (intOf vi).toNat)
    case atStart => exact ⟨0, rfl, by omega, fun j h => by omega, hk⟩
    case round =>
      obtain ⟨i, rfl, hi, hno, hk⟩ := hrel
      have HNO := Lib.hid hno
      clear hno
      by_cases hlt : i < n
      · have hc := (HS.out.below hk).at_ i (by rw [HN.out]; exact hlt)
        obtain ⟨x, hx⟩ : ∃ x, x = xs.getD i 0 := ⟨_, rfl⟩
        rw [← hx] at hc
        have HX := Lib.hid hx
        have c1 := box_keep HB1.out l1 hk
        clear hx
        cases hm : memB p q x
        · have hany : xs.any (fun x => !memB p q x) = true := any_hit (i := i) (by rw [HN.out]; exact hlt) (by rw [← HX.out, hm]; rfl)
          obtain rfl : E = 2 := by rw [HE.out]; exact fltE_rng HC0.out hany
          have HM := Lib.hid hm
          clear hm hany
          go_wp2_with (go_at_call 68; refine (element_any _ _ _ _ _ HG.out).mono ?_; rintro e w' ⟨rfl, hw⟩; rw [HM.out]; have hk := below_next hk hw; clear hw)
          go_ret
          exact ret_of rfl (below_next hb hk)
        · have HM := Lib.hid hm
          clear hm
          go_wp2_with (go_at_call 68; refine (element_any _ _ _ _ _ HG.out).mono ?_; rintro e w' ⟨rfl, hw⟩; rw [HM.out]; have hk := below_next hk hw; clear hw)
          go_roundw
          case rel =>
            refine ⟨i + 1, by go_num, by omega, fun j h => ?_, hk⟩
            rcases Nat.lt_or_ge j i with h5 | h5
            · exact HNO.out j h5
            · rw [show j = i by omega, ← HX.out, HM.out]; rfl
          case measure => simp [intOf]; omega
      · have h12 : i = n := by omega
        have hany : xs.any (fun x => !memB p q x) = false := any_miss (fun j hj => HNO.out j (by have := HN.out; omega))
        obtain rfl : E = 0 := by rw [HE.out]; exact fltE_ok HC0.out hany
        subst h12
        clear hany
        go_wp2
        go_ret
        exact ret_of rfl (below_next hb hk)
set_option maxRecDepth 100000 in
set_option maxHeartbeats 1000000 in
/-- a logarithm that is refused -/
theorem glog_fault (p q g m x : Int) (w : World) (p0 : -9223372036854775808 ≤ p) (p1 : p ≤ 9223372036854775807) (q0 : -9223372036854775808 ≤ q) (q1 : q ≤ 9223372036854775807) (hT : Tabs w) (E : Int) (hE : fltE p q g [m, x] = E) (h0 : E ≠ 0) :
    Calls Tryd.prog 19 #[gV p q g, .int .i64 m, .int .i64 x] w (Ret (.tuple #[.int .i64 0, .int .i64 E]) w) := by
  obtain ⟨W2, hW2, hB1, l1, hb⟩ := one_box w #[.int .i64 p, .int .i64 q, .int .i64 g] 24
  have hT2 : Tabs W2 := by rw [hW2]; exact hT.alloc _
  have hcheck := gcheck_all p q g [m, x] 2 W2.heap.size (W2.alloc (.cells #[.int .i64 m, .int .i64 x] 3)) p0 p1 q0 q1 (hT2.alloc _) rfl (IntsAt.two W2 m x) (by decide)
  rw [hE] at hcheck
  have HCH := Lib.hid hcheck
  have t0 : (E != 0) = true := by simpa using h0
  clear hcheck hE hT hT2
  go_enter Tryd.func19, Tryd.ntmps19
  go_upto_region 1 with (fail)
  rw [← hW2]
  obtain ⟨B1, hB1'⟩ : ∃ B, B = w.heap.size := ⟨_, rfl⟩
  rw [← hB1'] at hB1 l1 ⊢
  clear hW2 hB1'
  go_wp2_with (go_at_call 45; refine HCH.out.mono ?_; rintro e w' ⟨rfl, hw⟩)
  go_ret2
  exact ret_of rfl (below_next hb (below_next (below_alloc _ _) hw))
set_option maxRecDepth 100000 in
set_option maxHeartbeats 1000000 in
/-- the base 1 -/
theorem glog_one (p q g x : Int) (w : World) (hG : GSpec p q g) (hT : Tabs w) (hx : memB p q x = true) (hq : q ≤ 1048576) :
    Calls Tryd.prog 19 #[gV p q g, .int .i64 1, .int .i64 x] w (Ret (.tuple #[.int .i64 0, .int .i64 (if x = 1 then 0 else 7)]) w) := by
  have h1 : memB p q 1 = true := memB_true.2 ⟨by decide, by have := hG.p3; omega, by
    rw [show (1 : Int).toNat = 1 from rfl, Nat.one_pow, Nat.mod_eq_of_lt (by have := hG.p3; omega)]⟩
  obtain ⟨W2, hW2, hB1, l1, hb⟩ := one_box w #[.int .i64 p, .int .i64 q, .int .i64 g] 24
  have hT2 : Tabs W2 := by rw [hW2]; exact hT.alloc _
  have HCH := Lib.hid (gcheck2 p q g 1 x W2 hG hT2 h1 hx rfl)
  have HB1 := Lib.hid hB1
  have t0 : decide (1048576 < q) = false := by simp; omega
  clear hT hT2 hG hx h1
  go_enter Tryd.func19, Tryd.ntmps19
  go_upto_region 1 with (fail)
  rw [← hW2]
  obtain ⟨B1, hB1'⟩ : ∃ B, B = w.heap.size := ⟨_, rfl⟩
  rw [← hB1'] at hB1 HB1 l1 ⊢
  clear hW2 hB1'
  by_cases hx1 : x = 1
  · rw [if_pos hx1]
    subst hx1
    go_wp2_with (go_at_call 45; refine HCH.out.mono ?_; rintro e w' ⟨rfl, hw⟩; have hk := below_next (below_alloc W2 (.cells #[.int .i64 1, .int .i64 1] 3)) hw; have c1 := box_keep HB1.out l1 hk; clear hw)
    go_ret2
    exact ret_of rfl (below_next hb hk)
  · have t1 : (x == 1) = false := by simpa using hx1
    rw [if_neg hx1]
    go_wp2_with (go_at_call 45; refine HCH.out.mono ?_; rintro e w' ⟨rfl, hw⟩; have hk := below_next (below_alloc W2 (.cells #[.int .i64 1, .int .i64 x] 3)) hw; have c1 := box_keep HB1.out l1 hk; clear hw)
    go_ret2
    exact ret_of rfl (below_next hb hk)
end Go.Proofs.YtogbdnecpdcmiabDoor

/-
  unlink: the secrets and the openings.
-/
import Derived.Test.YtogbdnecpdcmiaaDoorJ6
import Derived.Test.YtogbdnecpdcmiaaDoorJ4
/-
  unlink.Openings.
-/
namespace Go.Proofs.YtogbdnecpdcmiaaDoor
open Go Go.RowKit
set_option maxRecDepth 100000 in
set_option maxHeartbeats 4000000 in
theorem openings_any (p q g g1 g2 h ps leaf d r1 r2 : Int) (w : World) (hp : -9223372036854775808 ≤ p) (hp2 : p ≤ 9223372036854775807) (hq : -9223372036854775808 ≤ q) (hq2 : q ≤ 9223372036854775807) (hT : Tabs w) :
    Calls Tryd.prog 14 #[bV p q g g1 g2 h, .int .i64 ps, .int .i64 leaf, .int .i64 d, .int .i64 r1, .int .i64 r2] w
      (Ret (.tuple #[.int .i64 (if spentE p q g g1 g2 h ps leaf d r1 r2 = 0 then q - 1 else 0), .int .i64 (spentE p q g g1 g2 h ps leaf d r1 r2)]) w) := by
  have hval : spentE p q g g1 g2 h ps leaf d r1 r2 = 0 → 3 ≤ q := by
    intro h0
    cases c0 : bvalB p q g g1 g2 h
    · rw [spentE_arg c0] at h0; omega
    · exact (bvalB_true.1 c0).G.q3
  obtain ⟨E, hE⟩ : ∃ E, E = spentE p q g g1 g2 h ps leaf d r1 r2 := ⟨_, rfl⟩
  have HE := Lib.hid hE
  rw [← hE] at hval
  rw [← hE]
  clear hE
  have hb := below_alloc w (bCells p q g g1 g2 h)
  have hB0 : Below (w.alloc (bCells p q g g1 g2 h)).heap.size (w.alloc (bCells p q g g1 g2 h)) (w.alloc (bCells p q g g1 g2 h)) := Below.refl _ _
  by_cases e0 : E = 0
  · have q3 := hval e0
    rw [if_pos e0]
    have t0 : (E == 0) = true := by simp [e0]
    have t1 : (E != 0) = false := by simp [e0]
    have E0 := Lib.hid e0
    clear hval e0
    go_enter Tryd.func14, Tryd.ntmps14
    go_wp2_with (go_at_call 59; refine (spent_any _ _ _ _ _ _ _ _ _ _ _ _ hp hp2 hq hq2 (hT.alloc _)).mono ?_; rintro e w' ⟨rfl, hw⟩; rw [← HE.out]; have hb := below_next hb hw; have hB0 := below_next hB0 hw; have hbox := box_at hB0; clear hw)
    go_ret2
    exact ret_of (by rw [E0.out]; rfl) hb
  · rw [if_neg e0]
    have t0 : (E == 0) = false := by simp [e0]
    have t1 : (E != 0) = true := by simp [e0]
    clear hval e0
    go_enter Tryd.func14, Tryd.ntmps14
    go_wp2_with (go_at_call 59; refine (spent_any _ _ _ _ _ _ _ _ _ _ _ _ hp hp2 hq hq2 (hT.alloc _)).mono ?_; rintro e w' ⟨rfl, hw⟩; rw [← HE.out]; have hb := below_next hb hw; have hB0 := below_next hB0 hw; have hbox := box_at hB0; clear hw)
    go_ret2
    exact ret_of rfl hb
end Go.Proofs.YtogbdnecpdcmiaaDoor
/-
  unlink.Secrets, where it refuses.
-/
namespace Go.Proofs.YtogbdnecpdcmiaaDoor
open Go Go.RowKit
theorem results_tmp4 {fn : Func} {t u v x : Tmp} (h : fn.results = #[.tmp t, .tmp u, .tmp v, .tmp x]) (tmps : Array Value) (P : Program) (w : World) :
    (results fn tmps).run P w = .ok (.tuple #[tmps.getD t undef, tmps.getD u undef, tmps.getD v undef, tmps.getD x undef]) w := by
  simp [results, h]
set_option maxRecDepth 100000 in
set_option maxHeartbeats 4000000 in
theorem secrets_no (p q g g1 g2 h ps leaf d r1 r2 u F : Int) (w : World) (hp : -9223372036854775808 ≤ p) (hp2 : p ≤ 9223372036854775807) (hq : -9223372036854775808 ≤ q) (hq2 : q ≤ 9223372036854775807) (hT : Tabs w)
    (hF : (spentE p q g g1 g2 h ps leaf d r1 r2 = 1 ∧ F = 1) ∨ (spentE p q g g1 g2 h ps leaf d r1 r2 ≠ 1 ∧ scB q u = false ∧ F = 2) ∨ (spentE p q g g1 g2 h ps leaf d r1 r2 ≠ 1 ∧ scB q u = true ∧ spentE p q g g1 g2 h ps leaf d r1 r2 ≠ 0 ∧ spentE p q g g1 g2 h ps leaf d r1 r2 = F)) :
    Calls Tryd.prog 13 #[bV p q g g1 g2 h, .int .i64 ps, .int .i64 leaf, .int .i64 d, .int .i64 r1, .int .i64 r2, .int .i64 u] w
      (Ret (.tuple #[.int .i64 0, .int .i64 0, .int .i64 0, .int .i64 F]) w) := by
  obtain ⟨E, hE⟩ : ∃ E, E = spentE p q g g1 g2 h ps leaf d r1 r2 := ⟨_, rfl⟩
  have HE := Lib.hid hE
  rw [← hE] at hF
  clear hE
  have hb := below_alloc w (bCells p q g g1 g2 h)
  have hB0 : Below (w.alloc (bCells p q g g1 g2 h)).heap.size (w.alloc (bCells p q g g1 g2 h)) (w.alloc (bCells p q g g1 g2 h)) := Below.refl _ _
  rcases hF with ⟨e1, rfl⟩ | ⟨e1, sc, rfl⟩ | ⟨e1, sc, e0, hF⟩
  · have t0 : (E == 1) = true := by simp [e1]
    have E1 := Lib.hid e1
    clear e1
    go_enter Tryd.func13, Tryd.ntmps13
    go_wp2_with (first
      | (go_at_call 59; refine (spent_any _ _ _ _ _ _ _ _ _ _ _ _ hp hp2 hq hq2 (hT.alloc _)).mono ?_; rintro e w' ⟨rfl, hw⟩; rw [← HE.out]; have hb := below_next hb hw; have hB0 := below_next hB0 hw; have hbox := box_at hB0; have hb := below_next hb (below_alloc w' (.cells #[.int .i64 p, .int .i64 q, .int .i64 g] 102)); clear hw))
    (try simp only [Exit.inBlock, Exit.then])
    refine bodyPost_ret (results_tmp4 rfl _ _ _) rfl ?_
    exact ret_of (by rw [E1.out]; rfl) hb
  · have t0 : (E == 1) = false := by simp [e1]
    clear e1
    go_enter Tryd.func13, Tryd.ntmps13
    go_wp2_with (first
      | (go_at_call 59; refine (spent_any _ _ _ _ _ _ _ _ _ _ _ _ hp hp2 hq hq2 (hT.alloc _)).mono ?_; rintro e w' ⟨rfl, hw⟩; rw [← HE.out]; have hb := below_next hb hw; have hB0 := below_next hB0 hw; have hbox := box_at hB0; have hb := below_next hb (below_alloc w' (.cells #[.int .i64 p, .int .i64 q, .int .i64 g] 102)); clear hw)
      | (go_at_call 60; refine (fscalar_any _ _ _ _ _).mono ?_; rintro e w' ⟨rfl, hw⟩; have hb := below_next hb hw; clear hw))
    (try simp only [Exit.inBlock, Exit.then])
    refine bodyPost_ret (results_tmp4 rfl _ _ _) rfl ?_
    exact ret_of rfl hb
  · have t0 : (E == 1) = false := by simp [e1]
    have t1 : (E != 0) = true := by simp [e0]
    have t2 : (E == 0) = false := by simp [e0]
    have HF := Lib.hid hF
    clear e1 e0 hF
    go_enter Tryd.func13, Tryd.ntmps13
    go_wp2_with (first
      | (go_at_call 59; refine (spent_any _ _ _ _ _ _ _ _ _ _ _ _ hp hp2 hq hq2 (hT.alloc _)).mono ?_; rintro e w' ⟨rfl, hw⟩; rw [← HE.out]; have hb := below_next hb hw; have hB0 := below_next hB0 hw; have hbox := box_at hB0; have hb := below_next hb (below_alloc w' (.cells #[.int .i64 p, .int .i64 q, .int .i64 g] 102)); clear hw)
      | (go_at_call 60; refine (fscalar_any _ _ _ _ _).mono ?_; rintro e w' ⟨rfl, hw⟩; have hb := below_next hb hw; clear hw))
    (try simp only [Exit.inBlock, Exit.then])
    refine bodyPost_ret (results_tmp4 rfl _ _ _) rfl ?_
    exact ret_of (by rw [← HF.out]; rfl) hb
end Go.Proofs.YtogbdnecpdcmiaaDoor
/-
  unlink.Secrets, where the leaf was spent.
-/
namespace Go.Proofs.YtogbdnecpdcmiaaDoor
open Go Go.RowKit
theorem msg_mem {p q g g1 g2 h u : Int} (hS : BSpec p q g g1 g2 h) : memB p q (((g1.toNat ^ u.toNat % p.toNat) * g2.toNat % p.toNat : Nat) : Int) = true := by
  have p3 := hS.G.p3; have q3 := hS.G.q3
  obtain ⟨_, _, e1⟩ := memB_true.1 hS.m1
  obtain ⟨_, _, e2⟩ := memB_true.1 hS.m2
  exact mem_of_pow p3 (mul_one_pow (by omega) (mod_pow_one (pow_one_pow (by omega) e1 _)) e2) (by omega)
set_option maxRecDepth 100000 in
set_option maxHeartbeats 4000000 in
/-- the message is 1, or the group is too great -/
theorem secrets_stop (p q g g1 g2 h ps leaf d r1 r2 u F : Int) (w : World) (hS : BSpec p q g g1 g2 h) (hL : LeafOK p q ps leaf d r1 r2) (hsp : spentP p.toNat g1.toNat g2.toNat ps.toNat leaf.toNat d.toNat r1.toNat r2.toNat) (hu : scB q u = true) (hT : Tabs w)
    (hF : ((g1.toNat ^ u.toNat % p.toNat) * g2.toNat % p.toNat = 1 ∧ F = 10) ∨ ((g1.toNat ^ u.toNat % p.toNat) * g2.toNat % p.toNat ≠ 1 ∧ 1048576 < q ∧ F = 9)) :
    Calls Tryd.prog 13 #[bV p q g g1 g2 h, .int .i64 ps, .int .i64 leaf, .int .i64 d, .int .i64 r1, .int .i64 r2, .int .i64 u] w
      (Ret (.tuple #[.int .i64 0, .int .i64 0, .int .i64 0, .int .i64 F]) w) := by
  have p3 := hS.G.p3; have pm := hS.G.pm; have q3 := hS.G.q3; have hqp := hS.G.qp
  have e0 : spentE p q g g1 g2 h ps leaf d r1 r2 = 0 := spentE_ok (bvalB_true.2 hS) hL hsp
  have E0 := Lib.hid e0
  obtain ⟨u0, uq⟩ := scB_true.1 hu
  have hmm := msg_mem (u := u) hS
  obtain ⟨M, hM⟩ : ∃ M, M = (g1.toNat ^ u.toNat % p.toNat) * g2.toNat % p.toNat := ⟨_, rfl⟩
  rw [← hM] at hF hmm
  have HM := Lib.hid hM; have HS := Lib.hid hS; have HL := Lib.hid hL; have HMM := Lib.hid hmm
  clear hS hL e0 hM hsp hmm
  have hb := below_alloc w (bCells p q g g1 g2 h)
  have hB0 : Below (w.alloc (bCells p q g g1 g2 h)).heap.size (w.alloc (bCells p q g g1 g2 h)) (w.alloc (bCells p q g g1 g2 h)) := Below.refl _ _
  go_enter Tryd.func13, Tryd.ntmps13
  go_upto_region 3 with (go_at_call 59; refine (spent_any _ _ _ _ _ _ _ _ _ _ _ _ (by omega) (by omega) (by omega) (by omega) (hT.alloc _)).mono ?_; rintro e w' ⟨rfl, hw⟩; rw [E0.out]; have hb := below_next hb hw; have hB0 := below_next hB0 hw; have hbox := box_at hB0; have hT := Tabs.below (hT.alloc _) hw; clear hw)
  obtain ⟨W2, hW2, hB1, hB2, l1, l2, hb2, hT2⟩ := next_box hB0 hT #[.int .i64 p, .int .i64 q, .int .i64 g] 102
  rw [← hW2]
  obtain ⟨B1, hB1'⟩ : ∃ B, B = w.heap.size := ⟨_, rfl⟩
  obtain ⟨B2, hB2'⟩ : ∃ B, B = w'.heap.size := ⟨_, rfl⟩
  rw [← hB2'] at hB2 l2 ⊢
  rw [← hB1'] at hB1 l1 ⊢
  have hk : Below W2.heap.size W2 W2 := Below.refl _ _
  have c1 := hB1
  have c2 := hB2
  have HB1 := Lib.hid hB1; have HB2 := Lib.hid hB2; have HT := Lib.hid hT2; have hT := hT2
  clear hW2 hB1' hB2' hB1 hB2 hb hB0 hbox hT2
  rcases hF with ⟨e1, rfl⟩ | ⟨e1, e2, rfl⟩
  · have t0 : ((M : Int) == 1) = true := by simp [e1]
    have HE1 := Lib.hid e1
    clear e1
    go_wp2_with (first
      | (go_at_call 60; refine (fscalar_any _ _ _ _ _).mono ?_; rintro e w' ⟨rfl, hw⟩; have hk := below_next hk hw; have c1 := box_keep HB1.out l1 hk; have c2 := box_keep HB2.out l2 hk; have hT := HT.out.below hk; clear hw)
      | (go_at_call 61; refine (message_any _ _ _ _ _ _ _ _ HS.out u0 uq).mono ?_; rintro e w' ⟨rfl, hw⟩; rw [← HM.out]; have hk := below_next hk hw; have c1 := box_keep HB1.out l1 hk; have c2 := box_keep HB2.out l2 hk; have hT := HT.out.below hk; clear hw)
      | fail)
    refine bodyPost_ret (results_tmp4 rfl _ _ _) rfl ?_
    exact ret_of rfl (below_next hb2 hk)
  · have t0 : ((M : Int) == 1) = false := by simp; omega
    go_wp2_with (first
      | (go_at_call 60; refine (fscalar_any _ _ _ _ _).mono ?_; rintro e w' ⟨rfl, hw⟩; have hk := below_next hk hw; have c1 := box_keep HB1.out l1 hk; have c2 := box_keep HB2.out l2 hk; have hT := HT.out.below hk; clear hw)
      | (go_at_call 61; refine (message_any _ _ _ _ _ _ _ _ HS.out u0 uq).mono ?_; rintro e w' ⟨rfl, hw⟩; rw [← HM.out]; have hk := below_next hk hw; have c1 := box_keep HB1.out l1 hk; have c2 := box_keep HB2.out l2 hk; have hT := HT.out.below hk; clear hw)
      | (go_at_call 62; refine (glog_big _ _ _ _ _ _ HS.out.G (by assumption) HMM.out HL.out.ps e2).mono ?_; rintro e w' ⟨rfl, hw⟩; have hk := below_next hk hw; have c1 := box_keep HB1.out l1 hk; have c2 := box_keep HB2.out l2 hk; clear hw))
    refine bodyPost_ret (results_tmp4 rfl _ _ _) rfl ?_
    exact ret_of rfl (below_next hb2 hk)
end Go.Proofs.YtogbdnecpdcmiaaDoor
/-
  unlink.Secrets: the secrets.
-/
namespace Go.Proofs.YtogbdnecpdcmiaaDoor
open Go Go.RowKit
set_option maxRecDepth 100000 in
set_option maxHeartbeats 8000000 in
theorem secrets_yes (p q g g1 g2 h ps leaf d r1 r2 u : Int) (s : Nat) (w : World) (hS : BSpec p q g g1 g2 h) (hL : LeafOK p q ps leaf d r1 r2) (hsp : spentP p.toNat g1.toNat g2.toNat ps.toNat leaf.toNat d.toNat r1.toNat r2.toNat) (hu : scB q u = true) (hT : Tabs w)
    (hm : (g1.toNat ^ u.toNat % p.toNat) * g2.toNat % p.toNat ≠ 1) (hq : q ≤ 1048576) (hC : Cyc p.toNat q.toNat ((g1.toNat ^ u.toNat % p.toNat) * g2.toNat % p.toNat)) (hLN : LogN p.toNat q.toNat ((g1.toNat ^ u.toNat % p.toNat) * g2.toNat % p.toNat) ps.toNat s) :
    Calls Tryd.prog 13 #[bV p q g g1 g2 h, .int .i64 ps, .int .i64 leaf, .int .i64 d, .int .i64 r1, .int .i64 r2, .int .i64 u] w
      (Ret (.tuple #[.int .i64 (s : Int), .int .i64 ((r1 - ((d.toNat * s % q.toNat * u.toNat % q.toNat : Nat) : Int)) % q), .int .i64 ((r2 - ((d.toNat * s % q.toNat : Nat) : Int)) % q), .int .i64 0]) w) := by
  have p3 := hS.G.p3; have pm := hS.G.pm; have q3 := hS.G.q3; have hqp := hS.G.qp
  have e0 : spentE p q g g1 g2 h ps leaf d r1 r2 = 0 := spentE_ok (bvalB_true.2 hS) hL hsp
  have E0 := Lib.hid e0
  obtain ⟨u0, uq⟩ := scB_true.1 hu
  obtain ⟨d0, dq⟩ := scB_true.1 hL.d
  obtain ⟨x0, xq⟩ := scB_true.1 hL.r1
  obtain ⟨y0, yq⟩ := scB_true.1 hL.r2
  have hsq : (s : Int) < q := by have := hLN.lt; omega
  have hmm := msg_mem (u := u) hS
  obtain ⟨M, hM⟩ : ∃ M, M = (g1.toNat ^ u.toNat % p.toNat) * g2.toNat % p.toNat := ⟨_, rfl⟩
  rw [← hM] at hm hC hLN hmm
  obtain ⟨D, hD⟩ : ∃ D, D = d.toNat * s % q.toNat := ⟨_, rfl⟩
  obtain ⟨X, hX⟩ : ∃ X, X = D * u.toNat % q.toNat := ⟨_, rfl⟩
  obtain ⟨Y1, hY1⟩ : ∃ Y1, Y1 = (r1 - (X : Int)) % q := ⟨_, rfl⟩
  obtain ⟨Y2, hY2⟩ : ∃ Y2, Y2 = (r2 - (D : Int)) % q := ⟨_, rfl⟩
  have hDq : (D : Int) < q := by have : D < q.toNat := by (rw [hD]; exact Nat.mod_lt _ (by omega))
                                 omega
  have hXq : (X : Int) < q := by have : X < q.toNat := by (rw [hX]; exact Nat.mod_lt _ (by omega))
                                 omega
  rw [← hD, ← hX, ← hY1, ← hY2]
  have t0 : ((M : Int) == 1) = false := by simp; omega
  have hm1 : (M : Int) ≠ 1 := by omega
  have HM := Lib.hid hM; have HS := Lib.hid hS; have HL := Lib.hid hL; have HMM := Lib.hid hmm; have HC := Lib.hid hC; have HLN := Lib.hid hLN; have HM1 := Lib.hid hm1
  have HD := Lib.hid hD; have HX := Lib.hid hX; have HY1 := Lib.hid hY1; have HY2 := Lib.hid hY2
  clear hS hL e0 hM hsp hmm hm hC hLN hm1 hD hX hY1 hY2
  have hb := below_alloc w (bCells p q g g1 g2 h)
  have hB0 : Below (w.alloc (bCells p q g g1 g2 h)).heap.size (w.alloc (bCells p q g g1 g2 h)) (w.alloc (bCells p q g g1 g2 h)) := Below.refl _ _
  go_enter Tryd.func13, Tryd.ntmps13
  go_upto_region 3 with (go_at_call 59; refine (spent_any _ _ _ _ _ _ _ _ _ _ _ _ (by omega) (by omega) (by omega) (by omega) (hT.alloc _)).mono ?_; rintro e w' ⟨rfl, hw⟩; rw [E0.out]; have hb := below_next hb hw; have hB0 := below_next hB0 hw; have hbox := box_at hB0; have hT := Tabs.below (hT.alloc _) hw; clear hw)
  obtain ⟨W2, hW2, hB1, hB2, l1, l2, hb2, hT2⟩ := next_box hB0 hT #[.int .i64 p, .int .i64 q, .int .i64 g] 102
  rw [← hW2]
  obtain ⟨B1, hB1'⟩ : ∃ B, B = w.heap.size := ⟨_, rfl⟩
  obtain ⟨B2, hB2'⟩ : ∃ B, B = w'.heap.size := ⟨_, rfl⟩
  rw [← hB2'] at hB2 l2 ⊢
  rw [← hB1'] at hB1 l1 ⊢
  have hk : Below W2.heap.size W2 W2 := Below.refl _ _
  have c1 := hB1
  have c2 := hB2
  have HB1 := Lib.hid hB1; have HB2 := Lib.hid hB2; have HT := Lib.hid hT2; have hT := hT2
  clear hW2 hB1' hB2' hB1 hB2 hb hB0 hbox hT2
  go_upto_region 16 with (first
      | (go_at_call 60; refine (fscalar_any _ _ _ _ _).mono ?_; rintro e w' ⟨rfl, hw⟩; have hk := below_next hk hw; have c1 := box_keep HB1.out l1 hk; have c2 := box_keep HB2.out l2 hk; have hT := HT.out.below hk; clear hw)
      | (go_at_call 61; refine (message_any _ _ _ _ _ _ _ _ HS.out u0 uq).mono ?_; rintro e w' ⟨rfl, hw⟩; rw [← HM.out]; have hk := below_next hk hw; have c1 := box_keep HB1.out l1 hk; have c2 := box_keep HB2.out l2 hk; have hT := HT.out.below hk; clear hw)
      | (go_at_call 62; refine (glog_any _ _ _ _ _ s _ HS.out.G (by assumption) HMM.out HL.out.ps hq HM1.out (by rw [Int.toNat_natCast]; exact HC.out) (by rw [Int.toNat_natCast]; exact HLN.out)).mono ?_; rintro e w' ⟨rfl, hw⟩; have hk := below_next hk hw; have c1 := box_keep HB1.out l1 hk; have c2 := box_keep HB2.out l2 hk; have hT := HT.out.below hk; clear hw)
      | (go_at_call 63; refine (fmul_any _ _ _ _ _ _ (by omega) d0 dq (by omega) hsq).mono ?_; rintro e w' ⟨rfl, hw⟩; rw [Int.toNat_natCast, ← HD.out]; have hk := below_next hk hw; have c1 := box_keep HB1.out l1 hk; have c2 := box_keep HB2.out l2 hk; have hT := HT.out.below hk; clear hw))
  obtain ⟨W3, hW3⟩ : ∃ W3, W3 = w' := ⟨_, rfl⟩
  subst hW3
  have l1' := Nat.lt_of_lt_of_le l1 hk.size
  have l2' := Nat.lt_of_lt_of_le l2 hk.size
  have HC1 := Lib.hid c1; have HC2 := Lib.hid c2
  clear hT c1 c2 t0
  go_region_held3 (fun w' => (∀ j, w'.cell? ⟨B1, j, none⟩ = #[Value.int .i64 p, .int .i64 q, .int .i64 g, .int .i64 g1, .int .i64 g2, .int .i64 h][j]?) ∧ (∀ j, w'.cell? ⟨B2, j, none⟩ = #[Value.int .i64 p, .int .i64 q, .int .i64 g][j]?) ∧ Below W3.heap.size W3 w')
    (first
      | exact ⟨HC1.out, HC2.out, (Below.refl _ _).drew⟩
      | exact keep3 HC1.out l1' HC2.out l2' (by assumption) (by assumption))
    (first
      | (go_at_call 63; refine (fmul_any _ _ _ _ _ _ (by omega) (by omega) hDq u0 uq).mono ?_; rintro e w' ⟨rfl, hw⟩; rw [Int.toNat_natCast, ← HX.out])
      | (go_at_call 64; refine (fsub_any _ _ _ _ _ _ (by omega) (by omega) (by omega) (by omega) (by omega)).mono ?_; rintro e w' ⟨rfl, hw⟩; first | rw [← HY1.out] | rw [← HY2.out]))
  all_goals (go_wp2; refine bodyPost_ret (results_tmp4 rfl _ _ _) rfl ?_; exact ret_of rfl (below_held (below_next hb2 hk) (by assumption)))
end Go.Proofs.YtogbdnecpdcmiaaDoor
/-
  The reference's Secrets.
-/
namespace Go.Proofs.YtogbdnecpdcmiaaDoor
open Go Go.RowKit
set_option maxRecDepth 100000 in
set_option maxHeartbeats 4000000 in
theorem rsecrets_any (p q g g1 g2 h ps d r1 r2 u : Int) (s : Nat) (w : World) (hS : BSpec p q g g1 g2 h) (hps : memB p q ps = true) (hd : scB q d = true) (hr1 : scB q r1 = true) (hr2 : scB q r2 = true) (hu : scB q u = true)
    (hC : Cyc p.toNat q.toNat (pairN p.toNat g1.toNat g2.toNat u.toNat 1)) (hLN : LogN p.toNat q.toNat (pairN p.toNat g1.toNat g2.toNat u.toNat 1) ps.toNat s) :
    Calls Tryd.prog 20 #[bV p q g g1 g2 h, .int .i64 ps, .int .i64 d, .int .i64 r1, .int .i64 r2, .int .i64 u] w
      (Ret (.tuple #[.int .i64 (s : Int), .int .i64 ((r1 - ((d.toNat * (u.toNat * s % q.toNat) % q.toNat : Nat) : Int)) % q), .int .i64 ((r2 - ((d.toNat * s % q.toNat : Nat) : Int)) % q)]) w) := by
  have p3 := hS.G.p3; have pm := hS.G.pm; have q3 := hS.G.q3; have hqp := hS.G.qp
  obtain ⟨u0, uq⟩ := scB_true.1 hu
  obtain ⟨d0, dq⟩ := scB_true.1 hd
  obtain ⟨x0, xq⟩ := scB_true.1 hr1
  obtain ⟨y0, yq⟩ := scB_true.1 hr2
  obtain ⟨ps1, psp⟩ := mem_pos hps
  have hsq : (s : Int) < q := by have := hLN.lt; omega
  obtain ⟨M, hM⟩ : ∃ M, M = pairN p.toNat g1.toNat g2.toNat u.toNat (Int.toNat 1) := ⟨_, rfl⟩
  have hMp : (M : Int) < p := by
    have : M < p.toNat := by rw [hM]; unfold pairN; exact Nat.mod_lt _ (by omega)
    omega
  have hC' : Cyc p.toNat q.toNat M := by rw [hM]; exact hC
  have hL' : LogN p.toNat q.toNat M ps.toNat s := by rw [hM]; exact hLN
  obtain ⟨D, hD⟩ : ∃ D, D = u.toNat * s % q.toNat := ⟨_, rfl⟩
  obtain ⟨X, hX⟩ : ∃ X, X = d.toNat * D % q.toNat := ⟨_, rfl⟩
  obtain ⟨Z, hZ⟩ : ∃ Z, Z = d.toNat * s % q.toNat := ⟨_, rfl⟩
  obtain ⟨Y1, hY1⟩ : ∃ Y1, Y1 = (r1 - (X : Int)) % q := ⟨_, rfl⟩
  obtain ⟨Y2, hY2⟩ : ∃ Y2, Y2 = (r2 - (Z : Int)) % q := ⟨_, rfl⟩
  have hDq : (D : Int) < q := by have : D < q.toNat := by (rw [hD]; exact Nat.mod_lt _ (by omega))
                                 omega
  have hXq : (X : Int) < q := by have : X < q.toNat := by (rw [hX]; exact Nat.mod_lt _ (by omega))
                                 omega
  have hZq : (Z : Int) < q := by have : Z < q.toNat := by (rw [hZ]; exact Nat.mod_lt _ (by omega))
                                 omega
  have v1 : IntKind.i64.wrap (r1 - (X : Int)) = r1 - (X : Int) := by rw [IntKind.wrap_i64]; omega
  have v2 : IntKind.i64.wrap (r2 - (Z : Int)) = r2 - (Z : Int) := by rw [IntKind.wrap_i64]; omega
  rw [← hD, ← hX, ← hZ, ← hY1, ← hY2]
  have HM := Lib.hid hM; have HS := Lib.hid hS; have HC := Lib.hid hC'; have HLN := Lib.hid hL'
  have HD := Lib.hid hD; have HX := Lib.hid hX; have HZ := Lib.hid hZ; have HY1 := Lib.hid hY1; have HY2 := Lib.hid hY2
  clear hS hM hC hLN hC' hL' hD hX hZ hY1 hY2
  obtain ⟨W2, hW2, hB1, l1, hb⟩ := one_box w #[.int .i64 p, .int .i64 q, .int .i64 g, .int .i64 g1, .int .i64 g2, .int .i64 h] 25
  go_enter Tryd.func20, Tryd.ntmps20
  go_upto_region 2 with (fail)
  rw [← hW2]
  obtain ⟨B1, hB1'⟩ : ∃ B, B = w.heap.size := ⟨_, rfl⟩
  rw [← hB1'] at hB1 l1 ⊢
  clear hB1' hW2
  go_region_held3 (fun w' => (∀ j, w'.cell? ⟨B1, j, none⟩ = #[Value.int .i64 p, .int .i64 q, .int .i64 g, .int .i64 g1, .int .i64 g2, .int .i64 h][j]?) ∧ Below W2.heap.size W2 w')
    (first
      | exact ⟨hB1, (Below.refl _ _).drew⟩
      | exact keep1n hB1 l1 (by assumption) (by assumption))
    (first
      | (go_at_call 18; refine (rpair_any _ _ _ _ _ _ _ _ _ HS.out u0 uq (by omega) (by omega)).mono ?_; rintro e w' ⟨rfl, hw⟩; rw [← HM.out])
      | (go_at_call 67; refine (rlog_any _ _ _ _ _ s _ pm hqp (by omega) hMp (by omega) (by rw [Int.toNat_natCast]; exact HC.out) (by rw [Int.toNat_natCast]; exact HLN.out)).mono ?_; rintro e w' ⟨rfl, hw⟩))
  go_upto_region 3 with (fail)
  have hh : (∀ j, w'.cell? ⟨B1, j, none⟩ = #[Value.int .i64 p, .int .i64 q, .int .i64 g, .int .i64 g1, .int .i64 g2, .int .i64 h][j]?) ∧ Below W2.heap.size W2 w' := by assumption
  obtain ⟨c3, k3⟩ := hh
  have l3 := Nat.lt_of_lt_of_le l1 k3.size
  have hb3 := below_next hb k3
  obtain ⟨W3, hW3⟩ : ∃ W3, W3 = w' := ⟨_, rfl⟩
  subst hW3
  go_region_held3 (fun w' => (∀ j, w'.cell? ⟨B1, j, none⟩ = #[Value.int .i64 p, .int .i64 q, .int .i64 g, .int .i64 g1, .int .i64 g2, .int .i64 h][j]?) ∧ Below W3.heap.size W3 w')
    (first
      | exact ⟨c3, (Below.refl _ _).drew⟩
      | exact keep1n c3 l3 (by assumption) (by assumption)
      | exact keep1n c3 l3 (Drew.below (by assumption)) (by assumption))
    (first
      | (go_at_call 68; refine (rtimes_any _ _ _ _ _ _ _ _ _ (by omega) (by omega) (by omega) (by omega) (by omega)).mono ?_; rintro e w' ⟨rfl, hw⟩; rw [Int.toNat_natCast]; first | rw [← HD.out] | rw [← HX.out] | rw [← HZ.out])
      | (go_at_call 21; refine (rreduce_z _ _ (by omega) (by omega) _).mono ?_; rintro e w' ⟨rfl, hw⟩; first | rw [← HY1.out] | rw [← HY2.out]))
  have hh : (∀ j, w'.cell? ⟨B1, j, none⟩ = #[Value.int .i64 p, .int .i64 q, .int .i64 g, .int .i64 g1, .int .i64 g2, .int .i64 h][j]?) ∧ Below W3.heap.size W3 w' := by assumption
  obtain ⟨c4, k4⟩ := hh
  have l4 := Nat.lt_of_lt_of_le l3 k4.size
  have hb4 := below_next hb3 k4
  obtain ⟨W4, hW4⟩ : ∃ W4, W4 = w' := ⟨_, rfl⟩
  subst hW4
  go_wp2_with (first
    | (go_at_call 68; refine (rtimes_any _ _ _ _ _ _ _ _ _ (by omega) (by omega) (by omega) (by omega) (by omega)).mono ?_; rintro e w' ⟨rfl, hw⟩; rw [Int.toNat_natCast, ← HZ.out]; have hb4 := below_next hb4 hw; clear hw)
    | (go_at_call 21; refine (rreduce_z _ _ (by omega) (by omega) _).mono ?_; rintro e w' ⟨rfl, hw⟩; rw [← HY2.out]; have hb4 := below_next hb4 hw.below; clear hw))
  go_ret3
  exact ret_of rfl hb4
end Go.Proofs.YtogbdnecpdcmiaaDoor
/-
  The chapter's examples: awake.
-/
namespace Go.Proofs.YtogbdnecpdcmiaaDoor
open Go Go.RowKit
theorem results_cell {fn : Func} {p : Tmp} {ty : TypeId} (h : fn.results = #[.cell p ty]) (tmps : Array Value) (P : Program) (w : World) :
    (results fn tmps).run P w = ((asAddr (tmps.getD p undef)).run P w).andThen fun a w₁ => (loadVar ty a).run P w₁ := by
  simp only [results, h]
  simp [Sem.run_bind, Result.andThen]
set_option maxRecDepth 100000 in
set_option maxHeartbeats 4000000 in
theorem small_any (w : World) : Calls Tryd.prog 58 #[] w (Ret (bV 23 11 4 2 3 6) w) := by
  go_enter Tryd.func58, Tryd.ntmps58
  go_wp2
  refine bodyPost_ret (v := bV 23 11 4 2 3 6) ?_ rfl ?_
  · rw [results_cell rfl]
    go_simp
  · exact ret_of rfl (below_alloc _ _)
theorem smallG : GSpec 23 11 4 := ⟨by decide, by decide, by decide, by decide, by decide, by decide, by decide, isB_base (i := 8) (by decide) rfl, isB_base (i := 4) (by decide) rfl, by decide⟩
theorem smallS : BSpec 23 11 4 2 3 6 := ⟨smallG, by decide, by decide, by decide, by decide, by decide, by decide⟩
theorem smallL : LeafOK 23 11 12 18 3 10 6 := ⟨by decide, by decide, by decide, by decide, by decide, by decide⟩
theorem smallP : spentP (Int.toNat 23) (Int.toNat 2) (Int.toNat 3) (Int.toNat 12) (Int.toNat 18) (Int.toNat 3) (Int.toNat 10) (Int.toNat 6) := by unfold spentP pairN; decide
theorem small5 (w : World) (hT : Tabs w) : Calls Tryd.prog 13 #[bV 23 11 4 2 3 6, .int .i64 12, .int .i64 18, .int .i64 3, .int .i64 10, .int .i64 6, .int .i64 5] w
    (Ret (.tuple #[.int .i64 5, .int .i64 1, .int .i64 2, .int .i64 0]) w) :=
  secrets_yes 23 11 4 2 3 6 12 18 3 10 6 5 5 w smallS smallL smallP (by decide) hT (by decide) (by decide) (smallG.cyc (x := 4) (by decide) (by decide)) ⟨by decide, by decide⟩
theorem small1 (w : World) (hT : Tabs w) : Calls Tryd.prog 13 #[bV 23 11 4 2 3 6, .int .i64 12, .int .i64 18, .int .i64 3, .int .i64 10, .int .i64 6, .int .i64 1] w
    (Ret (.tuple #[.int .i64 6, .int .i64 3, .int .i64 10, .int .i64 0]) w) :=
  secrets_yes 23 11 4 2 3 6 12 18 3 10 6 1 6 w smallS smallL smallP (by decide) hT (by decide) (by decide) (smallG.cyc (x := 6) (by decide) (by decide)) ⟨by decide, by decide⟩
theorem small3 (w : World) (hT : Tabs w) : Calls Tryd.prog 13 #[bV 23 11 4 2 3 6, .int .i64 12, .int .i64 18, .int .i64 3, .int .i64 10, .int .i64 6, .int .i64 3] w
    (Ret (.tuple #[.int .i64 0, .int .i64 0, .int .i64 0, .int .i64 10]) w) :=
  secrets_stop 23 11 4 2 3 6 12 18 3 10 6 3 10 w smallS smallL smallP (by decide) hT (Or.inl ⟨by decide, rfl⟩)
/-- the answers for the three scalars -/
def sres (u : Int) : Value := if u = 5 then .tuple #[.int .i64 5, .int .i64 1, .int .i64 2, .int .i64 0] else if u = 1 then .tuple #[.int .i64 6, .int .i64 3, .int .i64 10, .int .i64 0] else .tuple #[.int .i64 0, .int .i64 0, .int .i64 0, .int .i64 10]
theorem sres5 : sres 5 = .tuple #[.int .i64 5, .int .i64 1, .int .i64 2, .int .i64 0] := rfl
theorem sres1 : sres 1 = .tuple #[.int .i64 6, .int .i64 3, .int .i64 10, .int .i64 0] := rfl
theorem sres3 : sres 3 = .tuple #[.int .i64 0, .int .i64 0, .int .i64 0, .int .i64 10] := rfl
theorem smallU (u : Int) (w : World) (hu : u = 5 ∨ u = 1 ∨ u = 3) (hT : Tabs w) : Calls Tryd.prog 13 #[bV 23 11 4 2 3 6, .int .i64 12, .int .i64 18, .int .i64 3, .int .i64 10, .int .i64 6, .int .i64 u] w (Ret (sres u) w) := by
  rcases hu with rfl | rfl | rfl
  · exact small5 w hT
  · exact small1 w hT
  · exact small3 w hT
theorem smallE : spentE 23 11 4 2 3 6 12 18 3 10 6 = 0 := spentE_ok (bvalB_true.2 smallS) smallL smallP
theorem smallO (w : World) (hT : Tabs w) : Calls Tryd.prog 14 #[bV 23 11 4 2 3 6, .int .i64 12, .int .i64 18, .int .i64 3, .int .i64 10, .int .i64 6] w
    (Ret (.tuple #[.int .i64 10, .int .i64 0]) w) := by
  have h := openings_any 23 11 4 2 3 6 12 18 3 10 6 w (by decide) (by decide) (by decide) (by decide) hT
  rw [smallE] at h
  exact h
set_option maxRecDepth 100000 in
set_option maxHeartbeats 400000 in
theorem awake_any (w : World) (hT : Tabs w) : Calls Tryd.prog 12 #[] w (Ret (.bool true) w) := by
  have hk : Below w.heap.size w w := Below.refl _ _
  have HT := Lib.hid hT
  go_enter Tryd.func12, Tryd.ntmps12
  go_wp2_with (first
    | (go_at_call 58; refine (small_any _).mono ?_; rintro e w' ⟨rfl, hw⟩; have hk := below_next hk hw; have hT := HT.out.below hk; clear hw)
    | (go_at_call 13; refine (smallU _ _ (by decide) (by assumption)).mono ?_; rintro e w' ⟨rfl, hw⟩; (first | rw [sres5] | rw [sres1] | rw [sres3]); have hk := below_next hk hw; have hT := HT.out.below hk; clear hw)
    | (go_at_call 14; refine (smallO _ (by assumption)).mono ?_; rintro e w' ⟨rfl, hw⟩; have hk := below_next hk hw; have hT := HT.out.below hk; clear hw))
  go_ret
  exact ret_of rfl hk
end Go.Proofs.YtogbdnecpdcmiaaDoor

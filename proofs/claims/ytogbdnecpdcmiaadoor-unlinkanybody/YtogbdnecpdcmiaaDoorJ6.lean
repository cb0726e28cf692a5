/-
  unlink: spent leaves, logarithms.
-/
import Derived.Test.YtogbdnecpdcmiaaDoorJ3
import Derived.Test.YtogbdnecpdcmiaaDoorJ4
import Derived.Maps.OwnOps
/-
  The methods of unlink's field.
-/
namespace Go.Proofs.YtogbdnecpdcmiaaDoor
open Go Go.RowKit
theorem wSub_z (a b m : Int) (ha0 : 0 ≤ a) (ha : a < m) (hb0 : 0 ≤ b) (hb : b < m) (hm : m < 2305843009213693952) (w : World) :
    Calls Tryd.prog 70 #[.int .i64 a, .int .i64 b, .int .i64 m] w (RetQ (.tuple #[.int .i64 ((a - b) % m), .int .i64 0]) w) := by
  obtain ⟨A, rfl⟩ : ∃ A : Nat, a = A := ⟨a.toNat, by omega⟩
  obtain ⟨B, rfl⟩ : ∃ B : Nat, b = B := ⟨b.toNat, by omega⟩
  obtain ⟨M, rfl⟩ : ∃ M : Nat, m = M := ⟨m.toNat, by omega⟩
  have e : ((A : Int) - (B : Int)) % (M : Int) = (((A + M - B) % M : Nat) : Int) := by
    rw [Int.natCast_emod, Int.ofNat_sub (by omega), Int.natCast_add, show ((A : Int) + M - B) = (A - B) + M by omega, Int.add_emod_right]
  rw [e]
  exact wsub_any A B M (by omega) (by omega) (by omega) w
set_option maxRecDepth 100000 in
set_option maxHeartbeats 1000000 in
theorem fpow_any (p q g a k : Int) (w : World) (pm : p < 2305843009213693952) (ha0 : 0 ≤ a) (ha : a < p) (hk0 : 0 ≤ k) (hk : k < p) :
    Calls Tryd.prog 110 #[gV p q g, .int .i64 a, .int .i64 k] w (Ret (.int .i64 (a.toNat ^ k.toNat % p.toNat : Nat)) w) := by
  obtain ⟨R, hR⟩ : ∃ R, R = a.toNat ^ k.toNat % p.toNat := ⟨_, rfl⟩
  have HR := Lib.hid hR
  rw [← hR]
  clear hR
  go_enter Tryd.func110, Tryd.ntmps110
  go_wp2_with (go_at_call 76; refine (wpow_z _ _ _ ha0 ha hk0 (by omega) pm _).mono ?_; rintro e w' ⟨rfl, n, rfl⟩; rw [← HR.out])
  go_ret
  exact ret_of rfl (below_next (below_alloc _ _) (below_drewN _ _))
set_option maxRecDepth 100000 in
set_option maxHeartbeats 1000000 in
theorem ftimes_any (p q g a b : Int) (w : World) (pm : p < 2305843009213693952) (ha0 : 0 ≤ a) (ha : a < p) (hb0 : 0 ≤ b) (hb : b < p) :
    Calls Tryd.prog 109 #[gV p q g, .int .i64 a, .int .i64 b] w (Ret (.int .i64 (a.toNat * b.toNat % p.toNat : Nat)) w) := by
  obtain ⟨R, hR⟩ : ∃ R, R = a.toNat * b.toNat % p.toNat := ⟨_, rfl⟩
  have HR := Lib.hid hR
  rw [← hR]
  clear hR
  go_enter Tryd.func109, Tryd.ntmps109
  go_wp2_with (go_at_call 71; refine (wMul_z _ _ _ ha0 ha hb0 hb pm _).mono ?_; rintro e w' ⟨rfl, n, rfl⟩; rw [← HR.out])
  go_ret
  exact ret_of rfl (below_next (below_alloc _ _) (below_drewN _ _))
set_option maxRecDepth 100000 in
set_option maxHeartbeats 1000000 in
theorem fmul_any (p q g a b : Int) (w : World) (qm : q < 2305843009213693952) (ha0 : 0 ≤ a) (ha : a < q) (hb0 : 0 ≤ b) (hb : b < q) :
    Calls Tryd.prog 63 #[gV p q g, .int .i64 a, .int .i64 b] w (Ret (.int .i64 (a.toNat * b.toNat % q.toNat : Nat)) w) := by
  obtain ⟨R, hR⟩ : ∃ R, R = a.toNat * b.toNat % q.toNat := ⟨_, rfl⟩
  have HR := Lib.hid hR
  rw [← hR]
  clear hR
  go_enter Tryd.func63, Tryd.ntmps63
  go_wp2_with (go_at_call 71; refine (wMul_z _ _ _ ha0 ha hb0 hb qm _).mono ?_; rintro e w' ⟨rfl, n, rfl⟩; rw [← HR.out])
  go_ret
  exact ret_of rfl (below_next (below_alloc _ _) (below_drewN _ _))
set_option maxRecDepth 100000 in
set_option maxHeartbeats 1000000 in
theorem fsub_any (p q g a b : Int) (w : World) (qm : q < 2305843009213693952) (ha0 : 0 ≤ a) (ha : a < q) (hb0 : 0 ≤ b) (hb : b < q) :
    Calls Tryd.prog 64 #[gV p q g, .int .i64 a, .int .i64 b] w (Ret (.int .i64 ((a - b) % q)) w) := by
  obtain ⟨R, hR⟩ : ∃ R, R = (a - b) % q := ⟨_, rfl⟩
  have HR := Lib.hid hR
  rw [← hR]
  clear hR
  go_enter Tryd.func64, Tryd.ntmps64
  go_wp2_with (go_at_call 70; refine (wSub_z _ _ _ ha0 ha hb0 hb qm _).mono ?_; rintro e w' ⟨rfl, n, rfl⟩; rw [← HR.out])
  go_ret
  exact ret_of rfl (below_next (below_alloc _ _) (below_drewN _ _))
theorem scB_eq (q x : Int) : (decide (0 ≤ x) && decide (x < q)) = scB q x := by unfold scB; simp
set_option maxHeartbeats 1000000 in
theorem fscalar_any (p q g x : Int) (w : World) :
    Calls Tryd.prog 60 #[gV p q g, .int .i64 x] w (Ret (.bool (scB q x)) w) := by
  by_cases c1 : 0 ≤ x
  · by_cases c2 : x < q
    · have e : scB q x = true := scB_true.2 ⟨c1, c2⟩
      rw [e]
      clear e
      go_enter Tryd.func60, Tryd.ntmps60
      go_wp2
      go_ret
      exact ret_of (by simp <;> omega) (below_alloc _ _)
    · have e : scB q x = false := scB_false.2 (by omega)
      rw [e]
      clear e
      go_enter Tryd.func60, Tryd.ntmps60
      go_wp2
      go_ret
      exact ret_of (by simp <;> omega) (below_alloc _ _)
  · have e : scB q x = false := scB_false.2 (by omega)
    rw [e]
    clear e
    go_enter Tryd.func60, Tryd.ntmps60
    go_wp2
    go_ret
    exact ret_of rfl (below_alloc _ _)
end Go.Proofs.YtogbdnecpdcmiaaDoor
/-
  unlink's message and spent.
-/
namespace Go.Proofs.YtogbdnecpdcmiaaDoor
open Go Go.RowKit
set_option maxRecDepth 100000 in
set_option maxHeartbeats 4000000 in
theorem message_any (p q g g1 g2 h u : Int) (w : World) (hS : BSpec p q g g1 g2 h) (hu0 : 0 ≤ u) (hu : u < q) :
    Calls Tryd.prog 61 #[bV p q g g1 g2 h, .int .i64 u] w (Ret (.int .i64 ((g1.toNat ^ u.toNat % p.toNat) * g2.toNat % p.toNat : Nat)) w) := by
  have p3 := hS.G.p3; have pm := hS.G.pm; have q3 := hS.G.q3; have hqp := hS.G.qp
  obtain ⟨a1, ap⟩ := mem_pos hS.m1
  obtain ⟨b1, bp⟩ := mem_pos hS.m2
  obtain ⟨R, hR⟩ : ∃ R, R = g1.toNat ^ u.toNat % p.toNat := ⟨_, rfl⟩
  have hRp : (R : Int) < p := by
    have : R < p.toNat := by rw [hR]; exact Nat.mod_lt _ (by omega)
    omega
  obtain ⟨M, hM⟩ : ∃ M, M = R * g2.toNat % p.toNat := ⟨_, rfl⟩
  rw [← hR, ← hM]
  have HR := Lib.hid hR
  have HM := Lib.hid hM
  clear hR hM hS
  obtain ⟨W2, hW2, hB1, hB2, l1, l2, hb⟩ := two_boxes w #[.int .i64 p, .int .i64 q, .int .i64 g, .int .i64 g1, .int .i64 g2, .int .i64 h] #[.int .i64 p, .int .i64 q, .int .i64 g] 25 102
  go_enter Tryd.func61, Tryd.ntmps61
  go_upto_region 2 with (fail)
  rw [← hW2]
  obtain ⟨B1, hB1'⟩ : ∃ B, B = w.heap.size := ⟨_, rfl⟩
  obtain ⟨B2, hB2'⟩ : ∃ B, B = w.heap.size + 1 := ⟨_, rfl⟩
  rw [← hB2'] at hB2 l2 ⊢
  rw [← hB1'] at hB1 l1 ⊢
  clear hB1' hB2' hW2
  go_region_held3 (fun w' => (∀ j, w'.cell? ⟨B1, j, none⟩ = #[Value.int .i64 p, .int .i64 q, .int .i64 g, .int .i64 g1, .int .i64 g2, .int .i64 h][j]?) ∧ (∀ j, w'.cell? ⟨B2, j, none⟩ = #[Value.int .i64 p, .int .i64 q, .int .i64 g][j]?) ∧ Below W2.heap.size W2 w')
    (first
      | exact ⟨hB1, hB2, (Below.refl _ _).drew⟩
      | exact keep3 hB1 l1 hB2 l2 (by assumption) (by assumption))
    (first
      | (go_at_call 110; refine (fpow_any _ _ _ _ _ _ pm (by omega) ap hu0 (by omega)).mono ?_; rintro e w' ⟨rfl, hw⟩; rw [← HR.out])
      | (go_at_call 109; refine (ftimes_any _ _ _ _ _ _ pm (by omega) hRp (by omega) bp).mono ?_; rintro e w' ⟨rfl, hw⟩; rw [Int.toNat_natCast, ← HM.out]))
  go_wp2
  go_ret
  exact ret_of rfl (below_held hb (by assumption))
open Classical in
/-- what spent answers -/
noncomputable def spentE (p q g g1 g2 h ps leaf d r1 r2 : Int) : Int :=
  if bvalB p q g g1 g2 h = false then 1 else if ¬ LeafOK p q ps leaf d r1 r2 then 2 else if spentP p.toNat g1.toNat g2.toNat ps.toNat leaf.toNat d.toNat r1.toNat r2.toNat then 0 else 11
section
variable {p q g g1 g2 h ps leaf d r1 r2 : Int}
theorem spentE_arg (c : bvalB p q g g1 g2 h = false) : spentE p q g g1 g2 h ps leaf d r1 r2 = 1 := by unfold spentE; rw [if_pos c]
theorem spentE_range (c : bvalB p q g g1 g2 h = true) (k : ¬ LeafOK p q ps leaf d r1 r2) : spentE p q g g1 g2 h ps leaf d r1 r2 = 2 := by
  unfold spentE; rw [if_neg (by rw [c]; simp), if_pos k]
theorem spentE_ok (c : bvalB p q g g1 g2 h = true) (k : LeafOK p q ps leaf d r1 r2) (e : spentP p.toNat g1.toNat g2.toNat ps.toNat leaf.toNat d.toNat r1.toNat r2.toNat) : spentE p q g g1 g2 h ps leaf d r1 r2 = 0 := by
  unfold spentE; rw [if_neg (by rw [c]; simp), if_neg (by simpa using k), if_pos e]
theorem spentE_proof (c : bvalB p q g g1 g2 h = true) (k : LeafOK p q ps leaf d r1 r2) (e : ¬ spentP p.toNat g1.toNat g2.toNat ps.toNat leaf.toNat d.toNat r1.toNat r2.toNat) : spentE p q g g1 g2 h ps leaf d r1 r2 = 11 := by
  unfold spentE; rw [if_neg (by rw [c]; simp), if_neg (by simpa using k), if_neg e]
end
set_option maxRecDepth 100000 in
set_option maxHeartbeats 8000000 in
theorem spent_any (p q g g1 g2 h ps leaf d r1 r2 : Int) (w : World) (hp : -9223372036854775808 ≤ p) (hp2 : p ≤ 9223372036854775807) (hq : -9223372036854775808 ≤ q) (hq2 : q ≤ 9223372036854775807) (hT : Tabs w) :
    Calls Tryd.prog 59 #[bV p q g g1 g2 h, .int .i64 ps, .int .i64 leaf, .int .i64 d, .int .i64 r1, .int .i64 r2] w
      (Ret (.int .i64 (spentE p q g g1 g2 h ps leaf d r1 r2)) w) := by
  obtain ⟨E, hE⟩ : ∃ E, E = spentE p q g g1 g2 h ps leaf d r1 r2 := ⟨_, rfl⟩
  have HE := Lib.hid hE
  rw [← hE]
  clear hE
  cases c0 : bvalB p q g g1 g2 h
  · have hf : E = 1 := by rw [HE.out]; exact spentE_arg c0
    have hb := below_alloc w (bCells p q g g1 g2 h)
    subst hf
    go_enter Tryd.func59, Tryd.ntmps59
    go_wp2_with (go_at_call 80; refine (bvalid_any _ _ _ _ _ _ _ hp hp2 hq hq2 (hT.alloc _)).mono ?_; rintro e w' ⟨rfl, hw⟩; have hb := below_next hb hw; clear hw)
    go_ret
    exact ret_of rfl hb
  · have HS := Lib.hid (bvalB_true.1 c0)
    have hb := below_alloc w (bCells p q g g1 g2 h)
    have hB0 : Below (w.alloc (bCells p q g g1 g2 h)).heap.size (w.alloc (bCells p q g g1 g2 h)) (w.alloc (bCells p q g g1 g2 h)) := Below.refl _ _
    go_enter Tryd.func59, Tryd.ntmps59
    go_upto_region 4 with (go_at_call 80; refine (bvalid_any _ _ _ _ _ _ _ hp hp2 hq hq2 (hT.alloc _)).mono ?_; rintro e w' ⟨rfl, hw⟩; have hb := below_next hb hw; have hB0 := below_next hB0 hw; have hbox := box_at hB0; have hT := Tabs.below (hT.alloc _) hw; clear hw)
    obtain ⟨W2, hW2, hB1, hB2, l1, l2, hb2, hT2⟩ := next_box hB0 hT #[.int .i64 p, .int .i64 q, .int .i64 g] 102
    rw [← hW2]
    obtain ⟨B1, hB1'⟩ : ∃ B, B = w.heap.size := ⟨_, rfl⟩
    obtain ⟨B2, hB2'⟩ : ∃ B, B = w'.heap.size := ⟨_, rfl⟩
    rw [← hB2'] at hB2 l2 ⊢
    rw [← hB1'] at hB1 l1 ⊢
    have hk : Below W2.heap.size W2 W2 := Below.refl _ _
    have c1 := hB1
    have c2 := hB2
    have HB1 := Lib.hid hB1; have HB2 := Lib.hid hB2; have HT := Lib.hid hT2; have hT := hT2
    clear hW2 hB1' hB2' hB1 hB2 hb hB0 hbox hT2 hp hp2 hq hq2
    by_cases d0 : ps = 1
    · have t0 : (ps == 1) = true := by simp; omega
      have hf : E = 2 := by rw [HE.out]; exact spentE_range c0 (fun k => k.n d0)
      subst hf
      have D := Lib.hid d0
      clear d0
      go_wp2
      go_ret
      exact ret_of rfl (below_next hb2 hk)
    · have t0 : (ps == 1) = false := by simp; omega
      have D0 := Lib.hid d0
      clear d0
      cases m1 : memB p q ps
      · have hf : E = 2 := by rw [HE.out]; exact spentE_range c0 (fun k => by have := k.ps; rw [m1] at this; exact Bool.noConfusion this)
        subst hf
        go_wp2_with (first
          | (go_at_call 108; refine (contains_any _ _ _ _ _ HS.out.G (by assumption)).mono ?_; rintro e w' ⟨rfl, hw⟩; have hk := below_next hk hw; have c1 := box_keep HB1.out l1 hk; have c2 := box_keep HB2.out l2 hk; have hT := HT.out.below hk; clear hw)
          | (go_at_call 60; refine (fscalar_any _ _ _ _ _).mono ?_; rintro e w' ⟨rfl, hw⟩; have hk := below_next hk hw; have c1 := box_keep HB1.out l1 hk; have c2 := box_keep HB2.out l2 hk; have hT := HT.out.below hk; clear hw))
        go_ret
        exact ret_of rfl (below_next hb2 hk)
      · skip
        cases m2 : memB p q leaf
        · have hf : E = 2 := by rw [HE.out]; exact spentE_range c0 (fun k => by have := k.lf; rw [m2] at this; exact Bool.noConfusion this)
          subst hf
          go_wp2_with (first
            | (go_at_call 108; refine (contains_any _ _ _ _ _ HS.out.G (by assumption)).mono ?_; rintro e w' ⟨rfl, hw⟩; have hk := below_next hk hw; have c1 := box_keep HB1.out l1 hk; have c2 := box_keep HB2.out l2 hk; have hT := HT.out.below hk; clear hw)
            | (go_at_call 60; refine (fscalar_any _ _ _ _ _).mono ?_; rintro e w' ⟨rfl, hw⟩; have hk := below_next hk hw; have c1 := box_keep HB1.out l1 hk; have c2 := box_keep HB2.out l2 hk; have hT := HT.out.below hk; clear hw))
          go_ret
          exact ret_of rfl (below_next hb2 hk)
        · skip
          cases m3 : scB q d
          · have hf : E = 2 := by rw [HE.out]; exact spentE_range c0 (fun k => by have := k.d; rw [m3] at this; exact Bool.noConfusion this)
            subst hf
            go_wp2_with (first
              | (go_at_call 108; refine (contains_any _ _ _ _ _ HS.out.G (by assumption)).mono ?_; rintro e w' ⟨rfl, hw⟩; have hk := below_next hk hw; have c1 := box_keep HB1.out l1 hk; have c2 := box_keep HB2.out l2 hk; have hT := HT.out.below hk; clear hw)
              | (go_at_call 60; refine (fscalar_any _ _ _ _ _).mono ?_; rintro e w' ⟨rfl, hw⟩; have hk := below_next hk hw; have c1 := box_keep HB1.out l1 hk; have c2 := box_keep HB2.out l2 hk; have hT := HT.out.below hk; clear hw))
            go_ret
            exact ret_of rfl (below_next hb2 hk)
          · skip
            cases m4 : scB q r1
            · have hf : E = 2 := by rw [HE.out]; exact spentE_range c0 (fun k => by have := k.r1; rw [m4] at this; exact Bool.noConfusion this)
              subst hf
              go_wp2_with (first
                | (go_at_call 108; refine (contains_any _ _ _ _ _ HS.out.G (by assumption)).mono ?_; rintro e w' ⟨rfl, hw⟩; have hk := below_next hk hw; have c1 := box_keep HB1.out l1 hk; have c2 := box_keep HB2.out l2 hk; have hT := HT.out.below hk; clear hw)
                | (go_at_call 60; refine (fscalar_any _ _ _ _ _).mono ?_; rintro e w' ⟨rfl, hw⟩; have hk := below_next hk hw; have c1 := box_keep HB1.out l1 hk; have c2 := box_keep HB2.out l2 hk; have hT := HT.out.below hk; clear hw))
              go_ret
              exact ret_of rfl (below_next hb2 hk)
            · skip
              cases m5 : scB q r2
              · have hf : E = 2 := by rw [HE.out]; exact spentE_range c0 (fun k => by have := k.r2; rw [m5] at this; exact Bool.noConfusion this)
                subst hf
                go_wp2_with (first
                  | (go_at_call 108; refine (contains_any _ _ _ _ _ HS.out.G (by assumption)).mono ?_; rintro e w' ⟨rfl, hw⟩; have hk := below_next hk hw; have c1 := box_keep HB1.out l1 hk; have c2 := box_keep HB2.out l2 hk; have hT := HT.out.below hk; clear hw)
                  | (go_at_call 60; refine (fscalar_any _ _ _ _ _).mono ?_; rintro e w' ⟨rfl, hw⟩; have hk := below_next hk hw; have c1 := box_keep HB1.out l1 hk; have c2 := box_keep HB2.out l2 hk; have hT := HT.out.below hk; clear hw))
                go_ret
                exact ret_of rfl (below_next hb2 hk)
              · skip
                have hL : LeafOK p q ps leaf d r1 r2 := ⟨D0.out, m1, m2, m3, m4, m5⟩
                have HL := Lib.hid hL
                clear hL
                go_upto_region 6 with (first
                  | (go_at_call 108; refine (contains_any _ _ _ _ _ HS.out.G (by assumption)).mono ?_; rintro e w' ⟨rfl, hw⟩; have hk := below_next hk hw; have c1 := box_keep HB1.out l1 hk; have c2 := box_keep HB2.out l2 hk; have hT := HT.out.below hk; clear hw)
                  | (go_at_call 60; refine (fscalar_any _ _ _ _ _).mono ?_; rintro e w' ⟨rfl, hw⟩; have hk := below_next hk hw; have c1 := box_keep HB1.out l1 hk; have c2 := box_keep HB2.out l2 hk; have hT := HT.out.below hk; clear hw))
                obtain ⟨W3, hW3⟩ : ∃ W3, W3 = w' := ⟨_, rfl⟩
                subst hW3
                have l1' := Nat.lt_of_lt_of_le l1 hk.size
                have l2' := Nat.lt_of_lt_of_le l2 hk.size
                have HC1 := Lib.hid c1; have HC2 := Lib.hid c2
                have p3 := HS.out.G.p3; have pm := HS.out.G.pm; have q3 := HS.out.G.q3; have hqp := HS.out.G.qp
                obtain ⟨a1, ap⟩ := mem_pos HS.out.m1
                obtain ⟨b1, bp⟩ := mem_pos HS.out.m2
                obtain ⟨s1, sp⟩ := mem_pos m1
                obtain ⟨f1, fp⟩ := mem_pos m2
                obtain ⟨d1, dq⟩ := scB_true.1 m3
                obtain ⟨x1, xq⟩ := scB_true.1 m4
                obtain ⟨y1, yq⟩ := scB_true.1 m5
                obtain ⟨A, hA⟩ : ∃ A, A = g1.toNat ^ r1.toNat % p.toNat := ⟨_, rfl⟩
                obtain ⟨C, hC⟩ : ∃ C, C = g2.toNat ^ r2.toNat % p.toNat := ⟨_, rfl⟩
                obtain ⟨D, hD⟩ : ∃ D, D = ps.toNat ^ d.toNat % p.toNat := ⟨_, rfl⟩
                obtain ⟨M, hM⟩ : ∃ M, M = A * C % p.toNat := ⟨_, rfl⟩
                obtain ⟨N, hN⟩ : ∃ N, N = D * leaf.toNat % p.toNat := ⟨_, rfl⟩
                have lA : (A : Int) < p := by have : A < p.toNat := by (rw [hA]; exact Nat.mod_lt _ (by omega))
                                              omega
                have lC : (C : Int) < p := by have : C < p.toNat := by (rw [hC]; exact Nat.mod_lt _ (by omega))
                                              omega
                have lD : (D : Int) < p := by have : D < p.toNat := by (rw [hD]; exact Nat.mod_lt _ (by omega))
                                              omega
                have HA := Lib.hid hA; have HC := Lib.hid hC; have HD := Lib.hid hD; have HM := Lib.hid hM; have HN := Lib.hid hN
                clear hA hC hD hM hN c0 m1 m2 m3 m4 m5 hT c1 c2
                by_cases e : M = N
                · have t9 : ((M : Int) != (N : Int)) = false := by simp; omega
                  have t9' : ((M : Int) == (N : Int)) = true := by simp; omega
                  have hf : E = 0 := by rw [HE.out]; exact spentE_ok (bvalB_true.2 HS.out) HL.out (by unfold spentP pairN; rw [← HA.out, ← HC.out, ← HD.out, ← HM.out, ← HN.out]; exact e)
                  subst hf
                  have EE := Lib.hid e
                  clear e
                  go_region_held3 (fun w' => (∀ j, w'.cell? ⟨B1, j, none⟩ = #[Value.int .i64 p, .int .i64 q, .int .i64 g, .int .i64 g1, .int .i64 g2, .int .i64 h][j]?) ∧ (∀ j, w'.cell? ⟨B2, j, none⟩ = #[Value.int .i64 p, .int .i64 q, .int .i64 g][j]?) ∧ Below W3.heap.size W3 w')
                    (first
                      | exact ⟨HC1.out, HC2.out, (Below.refl _ _).drew⟩
                      | exact keep3 HC1.out l1' HC2.out l2' (by assumption) (by assumption))
                    (first
                      | (go_at_call 110; refine (fpow_any _ _ _ _ _ _ pm (by omega) (by omega) (by omega) (by omega)).mono ?_; rintro e w' ⟨rfl, hw⟩; first | rw [← HA.out] | rw [← HC.out] | rw [← HD.out])
                      | (go_at_call 109; refine (ftimes_any _ _ _ _ _ _ pm (by omega) (by omega) (by omega) (by omega)).mono ?_; rintro e w' ⟨rfl, hw⟩; simp only [Int.toNat_natCast]; first | rw [← HM.out] | rw [← HN.out]))
                  all_goals (go_wp2; go_ret; exact ret_of rfl (below_held (below_next hb2 hk) (by assumption)))
                · have t9 : ((M : Int) != (N : Int)) = true := by simp; omega
                  have t9' : ((M : Int) == (N : Int)) = false := by simp; omega
                  have hf : E = 11 := by rw [HE.out]; exact spentE_proof (bvalB_true.2 HS.out) HL.out (by unfold spentP pairN; rw [← HA.out, ← HC.out, ← HD.out, ← HM.out, ← HN.out]; exact e)
                  subst hf
                  clear e
                  go_region_held3 (fun w' => (∀ j, w'.cell? ⟨B1, j, none⟩ = #[Value.int .i64 p, .int .i64 q, .int .i64 g, .int .i64 g1, .int .i64 g2, .int .i64 h][j]?) ∧ (∀ j, w'.cell? ⟨B2, j, none⟩ = #[Value.int .i64 p, .int .i64 q, .int .i64 g][j]?) ∧ Below W3.heap.size W3 w')
                    (first
                      | exact ⟨HC1.out, HC2.out, (Below.refl _ _).drew⟩
                      | exact keep3 HC1.out l1' HC2.out l2' (by assumption) (by assumption))
                    (first
                      | (go_at_call 110; refine (fpow_any _ _ _ _ _ _ pm (by omega) (by omega) (by omega) (by omega)).mono ?_; rintro e w' ⟨rfl, hw⟩; first | rw [← HA.out] | rw [← HC.out] | rw [← HD.out])
                      | (go_at_call 109; refine (ftimes_any _ _ _ _ _ _ pm (by omega) (by omega) (by omega) (by omega)).mono ?_; rintro e w' ⟨rfl, hw⟩; simp only [Int.toNat_natCast]; first | rw [← HM.out] | rw [← HN.out]))
                  all_goals (go_wp2; go_ret; exact ret_of rfl (below_held (below_next hb2 hk) (by assumption)))
end Go.Proofs.YtogbdnecpdcmiaaDoor
/-
  The reference of unlink: scalars, messages, leaves.
-/
namespace Go.Proofs.YtogbdnecpdcmiaaDoor
open Go Go.RowKit
set_option maxHeartbeats 1000000 in
theorem rscalar_any (p q g x : Int) (w : World) :
    Calls Tryd.prog 17 #[gV p q g, .int .i64 x] w (Ret (.bool (scB q x)) w) := by
  by_cases c1 : 0 ≤ x
  · by_cases c2 : x < q
    · have e : scB q x = true := scB_true.2 ⟨c1, c2⟩
      rw [e]
      clear e
      go_enter Tryd.func17, Tryd.ntmps17
      go_wp2
      go_ret
      exact ret_of (by simp <;> omega) (below_alloc _ _)
    · have e : scB q x = false := scB_false.2 (by omega)
      rw [e]
      clear e
      go_enter Tryd.func17, Tryd.ntmps17
      go_wp2
      go_ret
      exact ret_of (by simp <;> omega) (below_alloc _ _)
  · have e : scB q x = false := scB_false.2 (by omega)
    rw [e]
    clear e
    go_enter Tryd.func17, Tryd.ntmps17
    go_wp2
    go_ret
    exact ret_of rfl (below_alloc _ _)
/-- a message, or a pseudonym -/
def msgB (p q x : Int) : Bool := decide (x ≠ 1) && memB p q x
set_option maxHeartbeats 1000000 in
theorem rmessage_any (p q g x : Int) (w : World) (hG : GSpec p q g) :
    Calls Tryd.prog 43 #[gV p q g, .int .i64 x] w (Ret (.bool (msgB p q x)) w) := by
  have HG := Lib.hid hG
  have hb := below_alloc w (.cells #[.int .i64 p, .int .i64 q, .int .i64 g] 23)
  clear hG
  by_cases c1 : x = 1
  · have e : msgB p q x = false := by unfold msgB; simp [c1]
    have t1 : (x != 1) = false := by simp; omega
    rw [e]
    have C1 := Lib.hid c1
    clear e c1
    go_enter Tryd.func43, Tryd.ntmps43
    go_wp2
    go_ret
    exact ret_of rfl hb
  · have e : msgB p q x = memB p q x := by unfold msgB; simp [c1]
    have t1 : (x != 1) = true := by simp; omega
    rw [e]
    clear e
    go_enter Tryd.func43, Tryd.ntmps43
    go_wp2_with (go_at_call 27; refine (rmember_any _ _ _ _ _ HG.out).mono ?_; rintro e w' ⟨rfl, hw⟩; have hb := below_next hb hw; clear hw)
    go_ret
    exact ret_of rfl hb
set_option maxRecDepth 100000 in
set_option maxHeartbeats 1000000 in
theorem rtimes_any (p q g g1 g2 h a b : Int) (w : World) (qm : q < 2305843009213693952) (ha0 : 0 ≤ a) (ha : a < q) (hb0 : 0 ≤ b) (hb : b < q) :
    Calls Tryd.prog 68 #[bV p q g g1 g2 h, .int .i64 a, .int .i64 b] w (Ret (.int .i64 (a.toNat * b.toNat % q.toNat : Nat)) w) := by
  obtain ⟨R, hR⟩ : ∃ R, R = a.toNat * b.toNat % q.toNat := ⟨_, rfl⟩
  have HR := Lib.hid hR
  rw [← hR]
  clear hR
  go_enter Tryd.func68, Tryd.ntmps68
  go_wp2_with (go_at_call 33; refine (rmul_z _ _ _ ha0 ha hb0 hb qm _).mono ?_; rintro e w' ⟨rfl, n, rfl⟩; rw [← HR.out])
  go_ret
  exact ret_of rfl (below_next (below_alloc _ _) (below_drewN _ _))
set_option maxRecDepth 100000 in
set_option maxHeartbeats 4000000 in
theorem rpair_any (p q g g1 g2 h x y : Int) (w : World) (hS : BSpec p q g g1 g2 h) (hx0 : 0 ≤ x) (hx : x < q) (hy0 : 0 ≤ y) (hy : y < q) :
    Calls Tryd.prog 18 #[bV p q g g1 g2 h, .int .i64 x, .int .i64 y] w (Ret (.int .i64 (pairN p.toNat g1.toNat g2.toNat x.toNat y.toNat : Nat)) w) := by
  have p3 := hS.G.p3; have pm := hS.G.pm; have q3 := hS.G.q3; have hqp := hS.G.qp
  obtain ⟨a1, ap⟩ := mem_pos hS.m1
  obtain ⟨b1, bp⟩ := mem_pos hS.m2
  have ex : x % q = x := Int.emod_eq_of_lt hx0 hx
  have ey : y % q = y := Int.emod_eq_of_lt hy0 hy
  obtain ⟨A, hA⟩ : ∃ A, A = g1.toNat ^ (x % q).toNat % p.toNat := ⟨_, rfl⟩
  obtain ⟨C, hC⟩ : ∃ C, C = g2.toNat ^ (y % q).toNat % p.toNat := ⟨_, rfl⟩
  obtain ⟨M, hM⟩ : ∃ M, M = A * C % p.toNat := ⟨_, rfl⟩
  have hf : pairN p.toNat g1.toNat g2.toNat x.toNat y.toNat = M := by unfold pairN; rw [hM, hA, hC, ex, ey]
  rw [hf]
  have lA : (A : Int) < p := by have : A < p.toNat := by (rw [hA]; exact Nat.mod_lt _ (by omega))
                                omega
  have lC : (C : Int) < p := by have : C < p.toNat := by (rw [hC]; exact Nat.mod_lt _ (by omega))
                                omega
  have HA := Lib.hid hA; have HC := Lib.hid hC; have HM := Lib.hid hM; have HS := Lib.hid hS
  clear hA hC hM hS hf ex ey
  obtain ⟨W2, hW2, hB1, l1, hb⟩ := one_box w #[.int .i64 p, .int .i64 q, .int .i64 g, .int .i64 g1, .int .i64 g2, .int .i64 h] 25
  go_enter Tryd.func18, Tryd.ntmps18
  go_wp2
  rw [← hW2]
  obtain ⟨B1, hB1'⟩ : ∃ B, B = w.heap.size := ⟨_, rfl⟩
  rw [← hB1'] at hB1 l1 ⊢
  have H1 := Lib.hid hB1
  clear hB1' hW2 hB1
  go_region_held3 (fun w' => (∀ j, w'.cell? ⟨B1, j, none⟩ = #[Value.int .i64 p, .int .i64 q, .int .i64 g, .int .i64 g1, .int .i64 g2, .int .i64 h][j]?) ∧ Below W2.heap.size W2 w')
    (first
      | exact ⟨H1.out, (Below.refl _ _).drew⟩
      | exact keep1n H1.out l1 (by assumption) (by assumption))
    (first
      | (go_at_call 19; refine (rgpow_any _ _ _ _ _ _ HS.out.G (by omega) (by omega)).mono ?_; rintro e w' ⟨rfl, hw⟩; first | rw [← HA.out] | rw [← HC.out])
      | (go_at_call 65; refine (rgmul_any _ _ _ _ _ _ HS.out.G (by omega) lA (by omega) lC).mono ?_; rintro e w' ⟨rfl, hw⟩; simp only [Int.toNat_natCast]; rw [← HM.out]))
  all_goals (go_wp2; go_ret; exact ret_of rfl (below_held1 hb (by assumption)))
end Go.Proofs.YtogbdnecpdcmiaaDoor
/-
  The reference of unlink: Leaf and Spent.
-/
namespace Go.Proofs.YtogbdnecpdcmiaaDoor
open Go Go.RowKit
theorem msgB_true {p q x : Int} : msgB p q x = true ↔ x ≠ 1 ∧ memB p q x = true := by unfold msgB; simp
theorem msgB_of {p q x : Int} (h1 : x ≠ 1) (h2 : memB p q x = true) : msgB p q x = true := msgB_true.2 ⟨h1, h2⟩
open Classical in
/-- what Leaf answers -/
noncomputable def leafE (p q g g1 g2 h ps leaf d r1 r2 : Int) : Int :=
  if bvalB p q g g1 g2 h = false then 1 else if ¬ LeafOK p q ps leaf d r1 r2 then 2 else 0
section
variable {p q g g1 g2 h ps leaf d r1 r2 : Int}
theorem leafE_arg (c : bvalB p q g g1 g2 h = false) : leafE p q g g1 g2 h ps leaf d r1 r2 = 1 := by unfold leafE; rw [if_pos c]
theorem leafE_range (c : bvalB p q g g1 g2 h = true) (k : ¬ LeafOK p q ps leaf d r1 r2) : leafE p q g g1 g2 h ps leaf d r1 r2 = 2 := by
  unfold leafE; rw [if_neg (by rw [c]; simp), if_pos k]
theorem leafE_ok (c : bvalB p q g g1 g2 h = true) (k : LeafOK p q ps leaf d r1 r2) : leafE p q g g1 g2 h ps leaf d r1 r2 = 0 := by
  unfold leafE; rw [if_neg (by rw [c]; simp), if_neg (by simpa using k)]
end
set_option maxRecDepth 100000 in
set_option maxHeartbeats 8000000 in
theorem rleaf_any (p q g g1 g2 h ps leaf d r1 r2 : Int) (w : World) :
    Calls Tryd.prog 15 #[bV p q g g1 g2 h, .int .i64 ps, .int .i64 leaf, .int .i64 d, .int .i64 r1, .int .i64 r2] w
      (Ret (.int .i64 (leafE p q g g1 g2 h ps leaf d r1 r2)) w) := by
  obtain ⟨E, hE⟩ : ∃ E, E = leafE p q g g1 g2 h ps leaf d r1 r2 := ⟨_, rfl⟩
  have HE := Lib.hid hE
  rw [← hE]
  clear hE
  obtain ⟨W2, hW2, hB1, hB2, l1, l2, hb⟩ := two_boxes w #[.int .i64 p, .int .i64 q, .int .i64 g, .int .i64 g1, .int .i64 g2, .int .i64 h] #[.int .i64 p, .int .i64 q, .int .i64 g] 25 23
  go_enter Tryd.func15, Tryd.ntmps15
  go_upto_region 2 with (fail)
  rw [← hW2]
  obtain ⟨B1, hB1'⟩ : ∃ B, B = w.heap.size := ⟨_, rfl⟩
  obtain ⟨B2, hB2'⟩ : ∃ B, B = w.heap.size + 1 := ⟨_, rfl⟩
  rw [← hB2'] at hB2 l2 ⊢
  rw [← hB1'] at hB1 l1 ⊢
  have hk : Below W2.heap.size W2 W2 := Below.refl _ _
  have c1 := hB1
  have c2 := hB2
  have HB1 := Lib.hid hB1; have HB2 := Lib.hid hB2
  clear hW2 hB1' hB2' hB1 hB2
  cases c0 : bvalB p q g g1 g2 h
  · have hf : E = 1 := by rw [HE.out]; exact leafE_arg c0
    subst hf
    go_wp2_with (go_at_call 24; refine (rbvalid_any _ _ _ _ _ _ _).mono ?_; rintro e w' ⟨rfl, hw⟩; have hk := below_next hk hw; have c1 := box_keep HB1.out l1 hk; have c2 := box_keep HB2.out l2 hk; clear hw)
    go_ret
    exact ret_of rfl (below_next hb hk)
  · have HS := Lib.hid (bvalB_true.1 c0)
    cases m1 : msgB p q ps
    · have hf : E = 2 := by rw [HE.out]; exact leafE_range c0 (fun k => by rw [msgB_of k.n k.ps] at m1; exact Bool.noConfusion m1)
      subst hf
      go_wp2_with (first
        | (go_at_call 24; refine (rbvalid_any _ _ _ _ _ _ _).mono ?_; rintro e w' ⟨rfl, hw⟩; have hk := below_next hk hw; have c1 := box_keep HB1.out l1 hk; have c2 := box_keep HB2.out l2 hk; clear hw)
        | (go_at_call 43; refine (rmessage_any _ _ _ _ _ HS.out.G).mono ?_; rintro e w' ⟨rfl, hw⟩; have hk := below_next hk hw; have c1 := box_keep HB1.out l1 hk; have c2 := box_keep HB2.out l2 hk; clear hw)
        | (go_at_call 27; refine (rmember_any _ _ _ _ _ HS.out.G).mono ?_; rintro e w' ⟨rfl, hw⟩; have hk := below_next hk hw; have c1 := box_keep HB1.out l1 hk; have c2 := box_keep HB2.out l2 hk; clear hw)
        | (go_at_call 17; refine (rscalar_any _ _ _ _ _).mono ?_; rintro e w' ⟨rfl, hw⟩; have hk := below_next hk hw; have c1 := box_keep HB1.out l1 hk; have c2 := box_keep HB2.out l2 hk; clear hw))
      go_ret
      exact ret_of rfl (below_next hb hk)
    · skip
      cases m2 : memB p q leaf
      · have hf : E = 2 := by rw [HE.out]; exact leafE_range c0 (fun k => by have := k.lf; rw [m2] at this; exact Bool.noConfusion this)
        subst hf
        go_wp2_with (first
          | (go_at_call 24; refine (rbvalid_any _ _ _ _ _ _ _).mono ?_; rintro e w' ⟨rfl, hw⟩; have hk := below_next hk hw; have c1 := box_keep HB1.out l1 hk; have c2 := box_keep HB2.out l2 hk; clear hw)
          | (go_at_call 43; refine (rmessage_any _ _ _ _ _ HS.out.G).mono ?_; rintro e w' ⟨rfl, hw⟩; have hk := below_next hk hw; have c1 := box_keep HB1.out l1 hk; have c2 := box_keep HB2.out l2 hk; clear hw)
          | (go_at_call 27; refine (rmember_any _ _ _ _ _ HS.out.G).mono ?_; rintro e w' ⟨rfl, hw⟩; have hk := below_next hk hw; have c1 := box_keep HB1.out l1 hk; have c2 := box_keep HB2.out l2 hk; clear hw)
          | (go_at_call 17; refine (rscalar_any _ _ _ _ _).mono ?_; rintro e w' ⟨rfl, hw⟩; have hk := below_next hk hw; have c1 := box_keep HB1.out l1 hk; have c2 := box_keep HB2.out l2 hk; clear hw))
        go_ret
        exact ret_of rfl (below_next hb hk)
      · skip
        cases m3 : scB q d
        · have hf : E = 2 := by rw [HE.out]; exact leafE_range c0 (fun k => by have := k.d; rw [m3] at this; exact Bool.noConfusion this)
          subst hf
          go_wp2_with (first
            | (go_at_call 24; refine (rbvalid_any _ _ _ _ _ _ _).mono ?_; rintro e w' ⟨rfl, hw⟩; have hk := below_next hk hw; have c1 := box_keep HB1.out l1 hk; have c2 := box_keep HB2.out l2 hk; clear hw)
            | (go_at_call 43; refine (rmessage_any _ _ _ _ _ HS.out.G).mono ?_; rintro e w' ⟨rfl, hw⟩; have hk := below_next hk hw; have c1 := box_keep HB1.out l1 hk; have c2 := box_keep HB2.out l2 hk; clear hw)
            | (go_at_call 27; refine (rmember_any _ _ _ _ _ HS.out.G).mono ?_; rintro e w' ⟨rfl, hw⟩; have hk := below_next hk hw; have c1 := box_keep HB1.out l1 hk; have c2 := box_keep HB2.out l2 hk; clear hw)
            | (go_at_call 17; refine (rscalar_any _ _ _ _ _).mono ?_; rintro e w' ⟨rfl, hw⟩; have hk := below_next hk hw; have c1 := box_keep HB1.out l1 hk; have c2 := box_keep HB2.out l2 hk; clear hw))
          go_ret
          exact ret_of rfl (below_next hb hk)
        · skip
          cases m4 : scB q r1
          · have hf : E = 2 := by rw [HE.out]; exact leafE_range c0 (fun k => by have := k.r1; rw [m4] at this; exact Bool.noConfusion this)
            subst hf
            go_wp2_with (first
              | (go_at_call 24; refine (rbvalid_any _ _ _ _ _ _ _).mono ?_; rintro e w' ⟨rfl, hw⟩; have hk := below_next hk hw; have c1 := box_keep HB1.out l1 hk; have c2 := box_keep HB2.out l2 hk; clear hw)
              | (go_at_call 43; refine (rmessage_any _ _ _ _ _ HS.out.G).mono ?_; rintro e w' ⟨rfl, hw⟩; have hk := below_next hk hw; have c1 := box_keep HB1.out l1 hk; have c2 := box_keep HB2.out l2 hk; clear hw)
              | (go_at_call 27; refine (rmember_any _ _ _ _ _ HS.out.G).mono ?_; rintro e w' ⟨rfl, hw⟩; have hk := below_next hk hw; have c1 := box_keep HB1.out l1 hk; have c2 := box_keep HB2.out l2 hk; clear hw)
              | (go_at_call 17; refine (rscalar_any _ _ _ _ _).mono ?_; rintro e w' ⟨rfl, hw⟩; have hk := below_next hk hw; have c1 := box_keep HB1.out l1 hk; have c2 := box_keep HB2.out l2 hk; clear hw))
            go_ret
            exact ret_of rfl (below_next hb hk)
          · skip
            cases m5 : scB q r2
            · have hf : E = 2 := by rw [HE.out]; exact leafE_range c0 (fun k => by have := k.r2; rw [m5] at this; exact Bool.noConfusion this)
              subst hf
              go_wp2_with (first
                | (go_at_call 24; refine (rbvalid_any _ _ _ _ _ _ _).mono ?_; rintro e w' ⟨rfl, hw⟩; have hk := below_next hk hw; have c1 := box_keep HB1.out l1 hk; have c2 := box_keep HB2.out l2 hk; clear hw)
                | (go_at_call 43; refine (rmessage_any _ _ _ _ _ HS.out.G).mono ?_; rintro e w' ⟨rfl, hw⟩; have hk := below_next hk hw; have c1 := box_keep HB1.out l1 hk; have c2 := box_keep HB2.out l2 hk; clear hw)
                | (go_at_call 27; refine (rmember_any _ _ _ _ _ HS.out.G).mono ?_; rintro e w' ⟨rfl, hw⟩; have hk := below_next hk hw; have c1 := box_keep HB1.out l1 hk; have c2 := box_keep HB2.out l2 hk; clear hw)
                | (go_at_call 17; refine (rscalar_any _ _ _ _ _).mono ?_; rintro e w' ⟨rfl, hw⟩; have hk := below_next hk hw; have c1 := box_keep HB1.out l1 hk; have c2 := box_keep HB2.out l2 hk; clear hw))
              go_ret
              exact ret_of rfl (below_next hb hk)
            · skip
              have hf : E = 0 := by rw [HE.out]; exact leafE_ok c0 ⟨(msgB_true.1 m1).1, (msgB_true.1 m1).2, m2, m3, m4, m5⟩
              subst hf
              go_wp2_with (first
                | (go_at_call 24; refine (rbvalid_any _ _ _ _ _ _ _).mono ?_; rintro e w' ⟨rfl, hw⟩; have hk := below_next hk hw; have c1 := box_keep HB1.out l1 hk; have c2 := box_keep HB2.out l2 hk; clear hw)
                | (go_at_call 43; refine (rmessage_any _ _ _ _ _ HS.out.G).mono ?_; rintro e w' ⟨rfl, hw⟩; have hk := below_next hk hw; have c1 := box_keep HB1.out l1 hk; have c2 := box_keep HB2.out l2 hk; clear hw)
                | (go_at_call 27; refine (rmember_any _ _ _ _ _ HS.out.G).mono ?_; rintro e w' ⟨rfl, hw⟩; have hk := below_next hk hw; have c1 := box_keep HB1.out l1 hk; have c2 := box_keep HB2.out l2 hk; clear hw)
                | (go_at_call 17; refine (rscalar_any _ _ _ _ _).mono ?_; rintro e w' ⟨rfl, hw⟩; have hk := below_next hk hw; have c1 := box_keep HB1.out l1 hk; have c2 := box_keep HB2.out l2 hk; clear hw))
              go_ret
              exact ret_of rfl (below_next hb hk)
open Classical in
/-- what Spent answers -/
noncomputable def rspentB (p g1 g2 ps leaf d r1 r2 : Int) : Bool := decide (spentP p.toNat g1.toNat g2.toNat ps.toNat leaf.toNat d.toNat r1.toNat r2.toNat)
theorem rspentB_true {p g1 g2 ps leaf d r1 r2 : Int} : rspentB p g1 g2 ps leaf d r1 r2 = true ↔ spentP p.toNat g1.toNat g2.toNat ps.toNat leaf.toNat d.toNat r1.toNat r2.toNat := by unfold rspentB; simp
set_option maxRecDepth 100000 in
set_option maxHeartbeats 8000000 in
theorem rspent_any (p q g g1 g2 h ps leaf d r1 r2 : Int) (w : World) (hS : BSpec p q g g1 g2 h) (hL : LeafOK p q ps leaf d r1 r2) :
    Calls Tryd.prog 16 #[bV p q g g1 g2 h, .int .i64 ps, .int .i64 leaf, .int .i64 d, .int .i64 r1, .int .i64 r2] w
      (Ret (.bool (rspentB p g1 g2 ps leaf d r1 r2)) w) := by
  obtain ⟨b, hb0⟩ : ∃ b, b = rspentB p g1 g2 ps leaf d r1 r2 := ⟨_, rfl⟩
  have p3 := hS.G.p3; have pm := hS.G.pm; have q3 := hS.G.q3; have hqp := hS.G.qp
  obtain ⟨s1, sp⟩ := mem_pos hL.ps
  obtain ⟨f1, fp⟩ := mem_pos hL.lf
  obtain ⟨d1, dq⟩ := scB_true.1 hL.d
  obtain ⟨x1, xq⟩ := scB_true.1 hL.r1
  obtain ⟨y1, yq⟩ := scB_true.1 hL.r2
  have ed : d % q = d := Int.emod_eq_of_lt d1 dq
  obtain ⟨M, hM⟩ : ∃ M, M = pairN p.toNat g1.toNat g2.toNat r1.toNat r2.toNat := ⟨_, rfl⟩
  obtain ⟨D, hD⟩ : ∃ D, D = ps.toNat ^ (d % q).toNat % p.toNat := ⟨_, rfl⟩
  obtain ⟨N, hN⟩ : ∃ N, N = D * leaf.toNat % p.toNat := ⟨_, rfl⟩
  have lD : (D : Int) < p := by have : D < p.toNat := by (rw [hD]; exact Nat.mod_lt _ (by omega))
                                omega
  have hiff : b = true ↔ M = N := by rw [hb0, rspentB_true]; unfold spentP; rw [hM, hN, hD, ed]
  rw [← hb0]
  have HF := Lib.hid hiff; have HM := Lib.hid hM; have HD := Lib.hid hD; have HN := Lib.hid hN; have HS := Lib.hid hS
  clear hb0 hiff hM hD hN hS hL ed
  obtain ⟨W2, hW2, hB1, hB2, l1, l2, hb⟩ := two_boxes w #[.int .i64 p, .int .i64 q, .int .i64 g, .int .i64 g1, .int .i64 g2, .int .i64 h] #[.int .i64 p, .int .i64 q, .int .i64 g] 25 23
  have hbb : ((M : Int) == (N : Int)) = b := by
    cases b
    · have : ¬ M = N := fun e => Bool.noConfusion (HF.out.2 e)
      simp; omega
    · have := HF.out.1 rfl
      simp; omega
  go_enter Tryd.func16, Tryd.ntmps16
  go_upto_region 2 with (fail)
  rw [← hW2]
  obtain ⟨B1, hB1'⟩ : ∃ B, B = w.heap.size := ⟨_, rfl⟩
  obtain ⟨B2, hB2'⟩ : ∃ B, B = w.heap.size + 1 := ⟨_, rfl⟩
  rw [← hB2'] at hB2 l2 ⊢
  rw [← hB1'] at hB1 l1 ⊢
  have H1 := Lib.hid hB1; have H2 := Lib.hid hB2
  clear hB1' hB2' hW2 hB1 hB2
  go_region_held3 (fun w' => (∀ j, w'.cell? ⟨B1, j, none⟩ = #[Value.int .i64 p, .int .i64 q, .int .i64 g, .int .i64 g1, .int .i64 g2, .int .i64 h][j]?) ∧ (∀ j, w'.cell? ⟨B2, j, none⟩ = #[Value.int .i64 p, .int .i64 q, .int .i64 g][j]?) ∧ Below W2.heap.size W2 w')
    (first
      | exact ⟨H1.out, H2.out, (Below.refl _ _).drew⟩
      | exact keep3 H1.out l1 H2.out l2 (by assumption) (by assumption))
    (first
      | (go_at_call 18; refine (rpair_any _ _ _ _ _ _ _ _ _ HS.out x1 xq y1 yq).mono ?_; rintro e w' ⟨rfl, hw⟩; rw [← HM.out])
      | (go_at_call 19; refine (rgpow_any _ _ _ _ _ _ HS.out.G (by omega) sp).mono ?_; rintro e w' ⟨rfl, hw⟩; rw [← HD.out])
      | (go_at_call 65; refine (rgmul_any _ _ _ _ _ _ HS.out.G (by omega) lD (by omega) fp).mono ?_; rintro e w' ⟨rfl, hw⟩; simp only [Int.toNat_natCast]; rw [← HN.out]))
  all_goals (go_wp2; go_ret; exact ret_of (bool_v (by simp)) (below_held hb (by assumption)))
end Go.Proofs.YtogbdnecpdcmiaaDoor
/-
  The discrete logarithm: group.Log, and the reference's.
-/
namespace Go.Proofs.YtogbdnecpdcmiaaDoor
open Go Go.RowKit
set_option maxRecDepth 100000 in
set_option maxHeartbeats 4000000 in
theorem rlog_any (p q g m x : Int) (s : Nat) (w : World) (pm : p < 2305843009213693952) (hqp : q ≤ p - 1) (hm0 : 0 ≤ m) (hm : m < p) (hx0 : 0 ≤ x) (hC : Cyc p.toNat q.toNat m.toNat) (hL : LogN p.toNat q.toNat m.toNat x.toNat s) :
    Calls Tryd.prog 67 #[gV p q g, .int .i64 m, .int .i64 x] w (Ret (.int .i64 (s : Int)) w) := by
  have hsq : (s : Int) < q := by have := hL.lt; omega
  have HC := Lib.hid hC; have HL := Lib.hid hL
  have h2 := hC.p2
  clear hC hL
  have hp2 : 2 ≤ p := by omega
  clear h2
  have hb := below_alloc w (.cells #[.int .i64 p, .int .i64 q, .int .i64 g] 23)
  have hB0 : Below (w.alloc (.cells #[.int .i64 p, .int .i64 q, .int .i64 g] 23)).heap.size (w.alloc (.cells #[.int .i64 p, .int .i64 q, .int .i64 g] 23)) (w.alloc (.cells #[.int .i64 p, .int .i64 q, .int .i64 g] 23)) := Below.refl _ _
  go_enter Tryd.func67, Tryd.ntmps67
  go_wp2
  go_loopw [7, 8] (fun vy ve wr => ∃ e : Nat, vy = .int .i64 (m.toNat ^ e % p.toNat : Nat) ∧ ve = .int .i64 e ∧ e ≤ s ∧ Drew (w.alloc (.cells #[.int .i64 p, .int .i64 q, .int .i64 g] 23)) wr) (fun _ ve _ => s - (intOf ve).toNat)
  case atStart => exact ⟨0, by rw [Nat.pow_zero, Nat.mod_eq_of_lt (by omega)]; rfl, rfl, by omega, Drew.refl _⟩
  case round =>
    obtain ⟨e, rfl, rfl, hes, hd⟩ := hrel
    have hbox := box_at hd.below
    obtain ⟨Y, hY⟩ : ∃ Y, Y = m.toNat ^ e % p.toNat := ⟨_, rfl⟩
    have hYp : (Y : Int) < p := by have : Y < p.toNat := by (rw [hY]; exact Nat.mod_lt _ (by omega))
                                   omega
    rw [← hY]
    have HY := Lib.hid hY
    clear hY
    have heq : (e : Int) < q := by omega
    have t0 : decide ((e : Int) < q) = true := by simp; omega
    by_cases hlt : e = s
    · have t1 : ((Y : Int) == x) = true := by
        have h1 := HL.out.eq
        rw [← hlt, ← HY.out] at h1
        simp; omega
      subst hlt
      go_wp2
      go_ret
      exact ret_of rfl (below_next hb hd.below)
    · obtain ⟨Y2, hY2⟩ : ∃ Y2, Y2 = m.toNat ^ (e + 1) % p.toNat := ⟨_, rfl⟩
      have t1 : ((Y : Int) == x) = false := by
        have h1 : Y ≠ x.toNat := fun h => hlt (LogN.unique HC.out ⟨by omega, by rw [← HY.out]; exact h⟩ HL.out)
        simp; omega
      have nx : Y2 = Y * m.toNat % p.toNat := by rw [hY2, HY.out, Nat.mod_mul_mod, Nat.pow_succ]
      have HY2 := Lib.hid hY2
      clear hY2
      have NX := Lib.hid nx
      clear nx
      go_wp2_with (go_at_call 33; refine (rmul_z _ _ _ (by omega) hYp hm0 hm pm _).mono ?_; rintro e w' ⟨rfl, hw⟩; have hd := drew_next hd hw; clear hw; rw [Int.toNat_natCast, ← NX.out])
      go_roundw
      case rel => exact ⟨e + 1, by rw [HY2.out], by go_num, by omega, hd⟩
      case measure => simp [intOf]; omega
theorem gcheck2 (p q g m x : Int) (W : World) (hG : GSpec p q g) (hT : Tabs W) (hm : memB p q m = true) (hx : memB p q x = true) {B : Nat} (hB : W.heap.size = B) :
    Calls Tryd.prog 74 #[gV p q g, .slice (some ⟨B, 0, none⟩) 2 2] (W.alloc (.cells #[.int .i64 m, .int .i64 x] 3)) (Ret (.int .i64 0) (W.alloc (.cells #[.int .i64 m, .int .i64 x] 3))) := by
  subst hB
  refine gcheck_any p q g [m, x] W.heap.size _ hG (hT.alloc _) (size_lt _ _) 2 rfl (by omega) (fun y hy => ?_) (fun j hj => ?_)
  · simp only [List.mem_cons, List.not_mem_nil, or_false] at hy
    rcases hy with rfl | rfl
    · exact hm
    · exact hx
  · rw [cell_of_row _ W.heap.size j _ _ _ (heap_alloc_new _ _)]
    have : j = 0 ∨ j = 1 := by omega
    rcases this with rfl | rfl <;> rfl
set_option maxRecDepth 100000 in
set_option maxHeartbeats 4000000 in
/-- a group that is too great -/
theorem glog_big (p q g m x : Int) (w : World) (hG : GSpec p q g) (hT : Tabs w) (hm : memB p q m = true) (hx : memB p q x = true) (hq : 1048576 < q) :
    Calls Tryd.prog 62 #[gV p q g, .int .i64 m, .int .i64 x] w (Ret (.tuple #[.int .i64 0, .int .i64 9]) w) := by
  have HG := Lib.hid hG; have HM := Lib.hid hm; have HX := Lib.hid hx
  clear hG hm hx
  have hb := below_next (below_alloc w (.cells #[.int .i64 p, .int .i64 q, .int .i64 g] 23)) (below_alloc _ (.cells #[.int .i64 m, .int .i64 x] 3))
  have hz : w.heap.size < ((w.alloc (.cells #[.int .i64 p, .int .i64 q, .int .i64 g] 23)).alloc (.cells #[.int .i64 m, .int .i64 x] 3)).heap.size := by simp; omega
  have t1 : decide (1048576 < q) = true := by simp; omega
  go_enter Tryd.func62, Tryd.ntmps62
  go_wp2_with (go_at_call 74; refine (gcheck2 p q g m x _ HG.out (hT.alloc _) HM.out HX.out (by simp)).mono ?_; rintro e w' ⟨rfl, hw⟩; have hb := below_next hb hw; obtain ⟨hc, hf⟩ := bcell hw; have hz := Nat.lt_of_lt_of_le hz hw.size; clear hw)
  go_ret2
  exact ret_of rfl hb
end Go.Proofs.YtogbdnecpdcmiaaDoor
/-
  group.Log, by baby steps and giant steps.
-/
namespace Go.Proofs.YtogbdnecpdcmiaaDoor
open Go Go.RowKit Go.Maps
theorem lawK : Keyed Tryd.prog 3 := int_keyed Tryd.underlying3
theorem zeroK (w : World) : (zeroValue 3).run Tryd.prog w = .ok (.int .i64 0) w := by kernel_rfl
theorem wf64 {y : Int} (h : -9223372036854775808 ≤ y) (k : y < 9223372036854775808) : (Lit.int .i64 y).wf = true := by
  unfold Lit.wf
  have e1 : IntKind.i64.min = -9223372036854775808 := rfl
  have e2 : IntKind.i64.max = 9223372036854775807 := rfl
  simp [e1, e2]; omega
theorem giant_next {p q m c k Z Zk : Nat} (hC : Cyc p q m) (hZ : Z = m ^ (c % q) % p) (hk : Zk = m ^ (c * k) % p) : Zk * Z % p = m ^ (c * (k + 1)) % p := by
  rw [hk, hZ, pow_mod_order hC, ← Nat.mul_mod, ← Nat.pow_add, Nat.mul_succ]
set_option maxRecDepth 100000 in
set_option maxHeartbeats 4000000 in
theorem glog_any (p q g m x : Int) (s : Nat) (w : World) (hG : GSpec p q g) (hT : Tabs w) (hm : memB p q m = true) (hx : memB p q x = true) (hq : q ≤ 1048576) (hm1 : m ≠ 1)
    (hC : Cyc p.toNat q.toNat m.toNat) (hL : LogN p.toNat q.toNat m.toNat x.toNat s) :
    Calls Tryd.prog 62 #[gV p q g, .int .i64 m, .int .i64 x] w (Ret (.tuple #[.int .i64 (s : Int), .int .i64 0]) w) := by
  have p3 := hG.p3; have pm := hG.pm; have q3 := hG.q3; have hqp := hG.qp
  obtain ⟨a1, ap⟩ := mem_pos hm
  obtain ⟨x1, xp⟩ := mem_pos hx
  have hsq : (s : Int) < q := by have := hL.lt; omega
  have HG := Lib.hid hG; have HM := Lib.hid hm; have HX := Lib.hid hx; have HC := Lib.hid hC; have HL := Lib.hid hL
  have t1 : decide (1048576 < q) = false := by simp; omega
  have t2 : (m == 1) = false := by simp; omega
  clear hG hm hx hC hL hm1
  have hmm := @run_makeMap Tryd.prog
  have hb := below_next (below_alloc w (.cells #[.int .i64 p, .int .i64 q, .int .i64 g] 23)) (below_alloc _ (.cells #[.int .i64 m, .int .i64 x] 3))
  have hB0 := below_alloc (w.alloc (.cells #[.int .i64 p, .int .i64 q, .int .i64 g] 23)) (.cells #[.int .i64 m, .int .i64 x] 3)
  go_enter Tryd.func62, Tryd.ntmps62
  go_wp2_with (go_at_call 74; refine (gcheck2 p q g m x _ HG.out (hT.alloc _) HM.out HX.out (by simp)).mono ?_; rintro e w' ⟨rfl, hw⟩; have hb := below_next hb hw; have hB0 := below_next hB0 hw; have hbox := box_at hB0; clear hw)
  have hT2 : Tabs (w'.alloc (.map #[] 0)) := (Tabs.below (hT.alloc _) (by first | assumption | exact hB0.mono (by simp))).alloc _
  obtain ⟨W0, hW0⟩ : ∃ W, W = w'.alloc (.map #[] 0) := ⟨_, rfl⟩
  have hown0 : W0.ownsMap Tryd.prog 3 (plainElem (H := Unit) Tryd.prog 3) w'.heap.size 0 (.map []) := by rw [hW0]; exact World.ownsMap_made _ _ _ _
  have hbk : Below w'.heap.size w' W0 := by rw [hW0]; exact below_alloc _ _
  obtain ⟨B, hB⟩ : ∃ B, B = w'.heap.size := ⟨_, rfl⟩
  have hBw : w.heap.size < B := by rw [hB]; exact Nat.lt_of_lt_of_le (size_lt w _) hB0.size
  rw [← hW0, ← hB]
  rw [← hB] at hown0 hbk
  have HBB := Lib.hid hB
  clear hB hW0
  go_loopw [10, 35] (fun vy vi wr => ∃ (i : Nat) (y : Int) (D : DataW Unit), vy = .int .i64 y ∧ vi = .int .i64 i ∧ i ≤ 1024 ∧ y = ((x.toNat * m.toNat ^ i % p.toNat : Nat) : Int) ∧
      wr.ownsMap Tryd.prog 3 (plainElem (H := Unit) Tryd.prog 3) B i D ∧ BInv p.toNat m.toNat x.toNat D i ∧ Below B w' wr) (fun _ vi _ => 1024 - (intOf vi).toNat)
  case atStart => exact ⟨0, x, .map [], rfl, rfl, by omega, by rw [Nat.pow_zero, Nat.mul_one, Nat.mod_eq_of_lt (by omega)]; omega, hown0, BInv.start _ _ _, hbk⟩
  case round =>
    obtain ⟨i, y, D, rfl, rfl, hi, hy, hown, hD, hbl⟩ := hrel
    have hbox2 : ∀ j, wr.cell? ⟨w.heap.size, j, none⟩ = #[Value.int .i64 p, .int .i64 q, .int .i64 g][j]? := fun j => (hbl.cell (p := ⟨w.heap.size, j, none⟩) hBw).trans (hbox j)
    have hwy : (Lit.int .i64 y).wf = true := wf64 (by omega) (by
      have : x.toNat * m.toNat ^ i % p.toNat < p.toNat := Nat.mod_lt _ (by omega)
      omega)
    have hkey : keyOf Tryd.prog 3 (.int .i64 y) = some (.int .i64 y) := keyOf_int_mk Tryd.underlying3 hwy
    have hwi : (Lit.int .i64 (i : Int)).wf = true := wf64 (by omega) (by omega)
    by_cases hlt : i = 1024
    · have t3 : decide ((i : Int) < 1024) = false := by simp; omega
      obtain ⟨E, hE⟩ : ∃ E, E = (1024 : Int) % q := ⟨_, rfl⟩
      have hE0 : 0 ≤ E := by rw [hE]; exact Int.emod_nonneg _ (by omega)
      have hEm : E < q := by rw [hE]; exact Int.emod_lt_of_pos _ (by omega)
      obtain ⟨Z, hZ⟩ : ∃ Z, Z = m.toNat ^ E.toNat % p.toNat := ⟨_, rfl⟩
      have HE := Lib.hid hE; have HZ := Lib.hid hZ
      clear hE hZ hy hown0 hbk
      have HLT := Lib.hid hlt
      clear hlt
      have hq0 : ¬ q = 0 := by omega
      have hpw : ∀ v, Calls Tryd.prog 76 #[.int .i64 m, .int .i64 E, .int .i64 p] v (RetQ (.tuple #[.int .i64 (Z : Int), .int .i64 0]) v) := fun v => by
        rw [HZ.out]; exact wpow_z m E p (by omega) ap hE0 (by omega) pm v
      have HPW := Lib.hid hpw
      clear hpw
      go_upto_region 18 with (fail)
      go_quiet (first
        | (go_at_call 76; rw [← HE.out]; exact calls_quiet (HPW.out _)))
      have hZp : (Z : Int) < p := by
        have : Z < p.toNat := by rw [HZ.out]; exact Nat.mod_lt _ (by omega)
        omega
      go_wp2
      clear t1 t2 t3
      go_loopw [14, 64] (fun vz vk w2 => ∃ k Zk : Nat, vz = .int .i64 Zk ∧ vk = .int .i64 k ∧ k ≤ giantAt s ∧ Zk = m.toNat ^ (1024 * k) % p.toNat ∧ (∀ j < k, Maps.has D (.int .i64 ((m.toNat ^ (1024 * j) % p.toNat : Nat) : Int)) = false) ∧ Drew wr w2) (fun _ vk _ => giantAt s - (intOf vk).toNat)
      case atStart => exact ⟨0, 1, rfl, rfl, by omega, by rw [Nat.mul_zero, Nat.pow_zero, Nat.mod_eq_of_lt (by omega)], fun j hj => by omega, ⟨nq, rfl⟩⟩
      case round =>
        obtain ⟨k, Zk, rfl, rfl, hk, hZk, hno, n2, rfl⟩ := hrel
        have hg := giant_lt HL.out.lt
        have t4 : decide ((k : Int) < q / 1024 + 2) = true := by simp; omega
        have hZkp : (Zk : Int) < p := by
          have : Zk < p.toNat := by rw [hZk]; exact Nat.mod_lt _ (by omega)
          omega
        have hkey : keyOf Tryd.prog 3 (.int .i64 (Zk : Int)) = some (.int .i64 (Zk : Int)) := keyOf_int_mk Tryd.underlying3 (wf64 (by omega) (by omega))
        have hbl2 : Below B w' (wr.drewN n2) := hbl.trans ((below_drewN wr n2).mono (by rw [HBB.out]; exact hbl.size))
        have hbox4 : ∀ j, (wr.drewN n2).cell? ⟨w.heap.size, j, none⟩ = #[Value.int .i64 p, .int .i64 q, .int .i64 g][j]? := fun j => (hbl2.cell (p := ⟨w.heap.size, j, none⟩) hBw).trans (hbox j)
        have HD := Lib.hid hD
        have HZk := Lib.hid hZk; have HNO := Lib.hid hno
        clear hZk hno hD
        cases hh : Maps.has D (.int .i64 (Zk : Int))
        · have hkl : k < giantAt s := by
            refine Nat.lt_of_le_of_ne hk fun e => ?_
            obtain ⟨i1, hi1, hi2⟩ := giant_meet HL.out
            have h3 := HD.out.there i1 (by rw [HLT.out]; exact hi1)
            rw [hi2, ← e, ← HZk.out, hh] at h3
            exact Bool.noConfusion h3
          obtain ⟨Z3, hZ3⟩ : ∃ Z3, Z3 = Zk * Z % p.toNat := ⟨_, rfl⟩
          have nx : Z3 = m.toNat ^ (1024 * (k + 1)) % p.toNat := by
            have hE : E.toNat = 1024 % q.toNat := by rw [HE.out, Int.toNat_emod (by omega) (by omega)]; rfl
            exact hZ3.trans (giant_next HC.out (by rw [← hE]; exact HZ.out) HZk.out)
          have HZ3 := Lib.hid hZ3; have NX := Lib.hid nx
          clear hZ3 nx
          go_wp2_with (first
            | (at_lookup; refine wpList_lookup_own_ok_int _ rfl _ _ 135 rfl 3 3 .i64 lawK Tryd.underlying135 Tryd.underlying3 (zeroK _) B i D rfl hown _ _ rfl hkey ?_; intro c hat hwc)
            | (go_at_call 71; refine (wMul_z _ _ _ (by omega) hZkp (by omega) hZp pm _).mono ?_; rintro e w2 ⟨rfl, n, rfl⟩; rw [Int.toNat_natCast, Int.toNat_natCast, ← HZ3.out]))
          go_roundw
          case rel =>
            refine ⟨k + 1, Z3, rfl, by go_num, by omega, NX.out, fun j hj => ?_, n2 + n, rfl⟩
            rcases Nat.lt_or_eq_of_le (Nat.le_of_lt_succ hj) with h3 | rfl
            · exact HNO.out j h3
            · rw [← HZk.out]; exact hh
          case measure => simp [intOf]; omega
        · obtain ⟨i2, hi1, hi2, hi3⟩ := HD.out.val _ hh
          have hS : ((k : Int) * 1024 - (i2 : Int)) % q = (s : Int) := by
            have h3 : x.toNat * m.toNat ^ i2 % p.toNat = m.toNat ^ (1024 * k) % p.toNat := by rw [← HZk.out]; exact (Int.ofNat_inj.1 hi2).symm
            have h4 := log_hit HC.out HL.out h3
            rw [Int.toNat_of_nonneg (by omega)] at h4
            exact h4
          have HS := Lib.hid hS; have HI := Lib.hid hi2; have HI3 := Lib.hid hi3
          clear hS hi2 hi3
          go_wp2_with (first
            | (at_lookup; refine wpList_lookup_own_ok_int _ rfl _ _ 135 rfl 3 3 .i64 lawK Tryd.underlying135 Tryd.underlying3 (zeroK _) B i D rfl hown _ _ rfl hkey ?_; intro c hat hwc; rw [HI3.out] at hat; injection hat with hat; injection hat with _ hat; subst hat; clear hwc)
            | (go_at_call 75; refine (wreduce_z _ _ (by omega) (by omega) _).mono ?_; rintro e w2 ⟨rfl, n, rfl⟩; rw [HS.out]))
          go_ret2
          exact ret_of rfl (below_next (below_next hb (by rw [← HBB.out]; exact hbl)) (below_drewN _ _))
    · have t3 : decide ((i : Int) < 1024) = true := by simp; omega
      obtain ⟨Y2, hY2⟩ : ∃ Y2, Y2 = y.toNat * m.toNat % p.toNat := ⟨_, rfl⟩
      have hyp : 0 ≤ y ∧ y < p := by
        have : x.toNat * m.toNat ^ i % p.toNat < p.toNat := Nat.mod_lt _ (by omega)
        omega
      have nx : Y2 = x.toNat * m.toNat ^ (i + 1) % p.toNat := by rw [hY2, hy, Int.toNat_natCast, Nat.mod_mul_mod, Nat.pow_succ, ← Nat.mul_assoc]
      have HY2 := Lib.hid hY2; have NX := Lib.hid nx; have HY := Lib.hid hy
      clear hY2 nx hy
      go_wp2_with (first
        | (at_mapUpdate; refine wpList_mapUpdate_own _ rfl _ _ _ 135 rfl 3 3 lawK Tryd.underlying135 _ B i _ rfl hown (by unfold maxLen; omega) _ _ _ rfl rfl hkey _ [] (plainElem_int Tryd.underlying3 hwi) ?_; intro w1 hown1 hgrow1; have hbl1 := hbl.grown hgrow1 (by rw [HBB.out]; exact hbl.size) (fun j hj => by cases hj; exact Nat.le_refl _); have hbox3 : ∀ j, w1.cell? ⟨w.heap.size, j, none⟩ = #[Value.int .i64 p, .int .i64 q, .int .i64 g][j]? := fun j => (hbl1.cell (p := ⟨w.heap.size, j, none⟩) hBw).trans (hbox j))
        | (go_at_call 71; refine (wMul_z _ _ _ hyp.1 hyp.2 (by omega) ap pm _).mono ?_; rintro e w2 ⟨rfl, n, rfl⟩; rw [← HY2.out]))
      go_roundw
      case rel =>
        refine ⟨i + 1, (Y2 : Int), _, rfl, by go_num, by omega, by rw [NX.out], hown1, ?_, ?_⟩
        · rw [HY.out]; exact hD.next
        · exact hbl1.trans ((below_drewN w1 n).mono (Nat.le_of_lt hown1.lt))
      case measure => simp [intOf]; omega
end Go.Proofs.YtogbdnecpdcmiaaDoor

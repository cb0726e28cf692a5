/-
  Commitments: Commit, Open and Other, by the program and by the reference.
-/
import Derived.Test.YtogbdnecpdcmiaaDoorP1
import Derived.Test.YtogbdnecpdcmiaaDoorJ4
import Derived.Test.YtogbdnecpdcmiaaDoorJ3
/-
  Commitments, by the program: given, Commit, Open.
-/
namespace Go.Proofs.YtogbdnecpdcmiaaDoor
open Go Go.RowKit
theorem scB_eq' (q x : Int) : (decide (0 ≤ x) && decide (x < q)) = scB q x := by unfold scB; simp
set_option maxRecDepth 100000 in
theorem pscalar_any (p q g g1 g2 h x : Int) (w : World) :
    Calls Tryd.prog 111 #[bV p q g g1 g2 h, .int .i64 x] w (Ret (.bool (scB q x)) w) := by
  by_cases c1 : 0 ≤ x
  · by_cases c2 : x < q
    · have e : scB q x = true := scB_true.2 ⟨c1, c2⟩
      rw [e]
      clear e
      go_enter Tryd.func111, Tryd.ntmps111
      go_wp2
      go_ret
      exact ret_of (by simp <;> omega) (below_alloc _ _)
    · have e : scB q x = false := scB_false.2 (by omega)
      rw [e]
      clear e
      go_enter Tryd.func111, Tryd.ntmps111
      go_wp2
      go_ret
      exact ret_of (by simp <;> omega) (below_alloc _ _)
  · have e : scB q x = false := scB_false.2 (by omega)
    have t1 : decide (0 ≤ x) = false := by simp; omega
    rw [e]
    clear e
    go_enter Tryd.func111, Tryd.ntmps111
    go_wp2
    go_ret
    exact ret_of rfl (below_alloc _ _)
/-- what given answers of bases and scalars -/
noncomputable def givenE (p q g g1 g2 h : Int) (xs : List Int) : Int := if bvalB p q g g1 g2 h = false then 1 else if xs.all (scB q) then 0 else 2
section
variable {p q g g1 g2 h : Int} {xs : List Int}
theorem givenE_arg (c : bvalB p q g g1 g2 h = false) : givenE p q g g1 g2 h xs = 1 := by unfold givenE; rw [if_pos c]
theorem givenE_range (c : bvalB p q g g1 g2 h = true) (k : xs.all (scB q) = false) : givenE p q g g1 g2 h xs = 2 := by
  unfold givenE; rw [if_neg (by rw [c]; simp), if_neg (by rw [k]; simp)]
theorem givenE_ok (c : bvalB p q g g1 g2 h = true) (k : xs.all (scB q) = true) : givenE p q g g1 g2 h xs = 0 := by
  unfold givenE; rw [if_neg (by rw [c]; simp), if_pos k]
end
theorem all_bad {q : Int} {xs : List Int} {i : Nat} (hi : i < xs.length) (h : scB q (xs.getD i 0) = false) : xs.all (scB q) = false := by
  rw [List.all_eq_false]
  rw [List.getD_eq_getElem?_getD, List.getElem?_eq_getElem hi] at h
  exact ⟨xs[i], List.getElem_mem _, by
    rw [show scB q xs[i] = false from h]; simp⟩
theorem all_good {q : Int} {xs : List Int} (h : ∀ j, j < xs.length → scB q (xs.getD j 0) = true) : xs.all (scB q) = true := by
  rw [List.all_eq_true]
  intro x hx
  obtain ⟨j, hj, rfl⟩ := List.mem_iff_getElem.1 hx
  have := h j hj
  rwa [List.getD_eq_getElem?_getD, List.getElem?_eq_getElem hj] at this
set_option maxRecDepth 100000 in
set_option maxHeartbeats 2000000 in
theorem given_any (p q g g1 g2 h : Int) (xs : List Int) (n B : Nat) (w : World) (hp : -9223372036854775808 ≤ p) (hp2 : p ≤ 9223372036854775807) (hq : -9223372036854775808 ≤ q) (hq2 : q ≤ 9223372036854775807) (hT : Tabs w) (hn : xs.length = n) (hl : n ≤ 100) (hS : SlAt w B xs) :
    Calls Tryd.prog 69 #[bV p q g g1 g2 h, .slice (some ⟨B, 0, none⟩) n n, .slice none 0 0] w (Ret (.int .i64 (givenE p q g g1 g2 h xs)) w) := by
  obtain ⟨E, hE⟩ : ∃ E, E = givenE p q g g1 g2 h xs := ⟨_, rfl⟩
  rw [← hE]
  have HE := Lib.hid hE; have HN := Lib.hid hn
  obtain ⟨W2, hW2, hB1, l1, hb⟩ := one_box w #[.int .i64 p, .int .i64 q, .int .i64 g, .int .i64 g1, .int .i64 g2, .int .i64 h] 25
  have hT2 : Tabs W2 := by rw [hW2]; exact hT.alloc _
  have hS2 : SlAt W2 B xs := by rw [hW2]; exact hS.below (below_alloc _ _)
  have HS := Lib.hid hS2; have HT := Lib.hid hT2; have HB1 := Lib.hid hB1
  clear hE hn hS hS2 hT hT2
  go_enter Tryd.func69, Tryd.ntmps69
  go_upto_region 1 with (fail)
  rw [← hW2]
  obtain ⟨B1, hB1'⟩ : ∃ B, B = w.heap.size := ⟨_, rfl⟩
  rw [← hB1'] at hB1 HB1 l1 ⊢
  have hk : Below W2.heap.size W2 W2 := Below.refl _ _
  have c1 := hB1
  have hT := HT.out
  clear hW2 hB1' hB1
  cases c0 : bvalB p q g g1 g2 h
  · obtain rfl : E = 1 := by rw [HE.out]; exact givenE_arg c0
    go_wp2_with (first
      | (go_at_call 80; refine (bvalid_any _ _ _ _ _ _ _ hp hp2 hq hq2 (by assumption)).mono ?_; rintro e w' ⟨rfl, hw⟩; have hk := below_next hk hw; have c1 := box_keep HB1.out l1 hk; have hT := HT.out.below hk; clear hw))
    go_ret
    exact ret_of rfl (below_next hb hk)
  · have hS0 := bvalB_true.1 c0
    have C0 := Lib.hid c0; have HS0 := Lib.hid hS0
    clear hS0
    go_wp2_with (first
      | (go_at_call 80; refine (bvalid_any _ _ _ _ _ _ _ hp hp2 hq hq2 (by assumption)).mono ?_; rintro e w' ⟨rfl, hw⟩; have hk := below_next hk hw; have c1 := box_keep HB1.out l1 hk; have hT := HT.out.below hk; clear hw))
    clear c0
    go_loopw [8, 16] (fun _ vi wr => ∃ i : Nat, vi = .int .i64 i ∧ i ≤ n ∧ (∀ j, j < i → scB q (xs.getD j 0) = true) ∧ Below W2.heap.size W2 wr) (fun _ vi _ => n - (intOf vi).toNat)
    case atStart => exact ⟨0, rfl, by omega, fun j hj => by omega, hk⟩
    case round =>
      obtain ⟨i, rfl, hi, hgood, hkr⟩ := hrel
      have HGood := Lib.hid hgood
      clear hgood c1 hT
      have c1 := box_keep HB1.out l1 hkr
      have hT := HT.out.below hkr
      by_cases hlt : i < n
      · obtain ⟨x, hxm, hx, hc⟩ := (HS.out.below hkr).get (j := i) (by rw [HN.out]; exact hlt)
        have HX := Lib.hid hx
        clear hx hxm
        cases c2 : scB q x
        · obtain rfl : E = 2 := by
            rw [HE.out]; exact givenE_range C0.out (all_bad (i := i) (by rw [HN.out]; exact hlt) (by rw [← HX.out]; exact c2))
          go_wp2_with (go_at_call 111; refine (pscalar_any _ _ _ _ _ _ _ _).mono ?_; rintro e w' ⟨rfl, hw⟩; have hkr := below_next hkr hw; clear hw)
          go_ret
          exact ret_of rfl (below_next hb hkr)
        · have C2 := Lib.hid c2
          go_wp2_with (go_at_call 111; refine (pscalar_any _ _ _ _ _ _ _ _).mono ?_; rintro e w' ⟨rfl, hw⟩; have hkr := below_next hkr hw; clear hw)
          go_roundw
          case rel => exact ⟨i + 1, by go_num, by omega, fun j hj => by
            rcases Nat.eq_or_lt_of_le (Nat.le_of_lt_succ hj) with rfl | h3
            · rw [← HX.out]; exact C2.out
            · exact HGood.out j h3, hkr⟩
          case measure => simp [intOf]; omega
      · have h12 : i = n := by omega
        subst h12
        obtain rfl : E = 0 := by
          rw [HE.out]; exact givenE_ok C0.out (all_good (by rw [HN.out]; exact HGood.out))
        go_wp2
        go_loopw [10, 27] (fun _ vi wr => vi = .int .i64 0 ∧ Below W2.heap.size W2 wr) (fun _ _ _ => 0)
        case atStart => exact ⟨rfl, hkr⟩
        case round =>
          obtain ⟨rfl, hk2⟩ := hrel
          go_wp2
          go_ret
          exact ret_of rfl (below_next hb hk2)
theorem commN_two {p g h : Nat} {m r : Int} : prodTo p [(g : Int), (h : Int)] [m, r] 2 = commN p g h m.toNat r.toNat := by
  unfold commN
  show 1 * ((g : Int).toNat ^ m.toNat % p) % p * ((h : Int).toNat ^ r.toNat % p) % p = _
  rw [Int.toNat_natCast, Int.toNat_natCast, Nat.one_mul, Nat.mod_mod]
theorem slAt_two {w : World} {B : Nat} {a b : Int} (hB : B < w.heap.size) (hc : ∀ j, w.cell? ⟨B, j, none⟩ = #[Value.int .i64 a, .int .i64 b][j]?) : SlAt w B [a, b] := ⟨hB, fun j hj => by
  rw [hc j]
  obtain rfl | rfl : j = 0 ∨ j = 1 := by simp at hj; omega
  · rfl
  · rfl⟩
theorem slAt_four {w : World} {B : Nat} {a b c d : Int} (hB : B < w.heap.size) (hc : ∀ j, w.cell? ⟨B, j, none⟩ = #[Value.int .i64 a, .int .i64 b, .int .i64 c, .int .i64 d][j]?) : SlAt w B [a, b, c, d] := ⟨hB, fun j hj => by
  rw [hc j]
  obtain rfl | rfl | rfl | rfl : j = 0 ∨ j = 1 ∨ j = 2 ∨ j = 3 := by simp at hj; omega
  · rfl
  · rfl
  · rfl
  · rfl⟩
set_option maxRecDepth 100000 in
set_option maxHeartbeats 1000000 in
theorem commit_ok (p q g g1 g2 h m r : Int) (w : World) (hS : BSpec p q g g1 g2 h) (hT : Tabs w) (hm : scB q m = true) (hr : scB q r = true) :
    Calls Tryd.prog 77 #[bV p q g g1 g2 h, .int .i64 m, .int .i64 r] w (Ret (.int .i64 (commN p.toNat g.toNat h.toNat m.toNat r.toNat : Nat)) w) := by
  have p3 := hS.G.p3; have pm := hS.G.pm; have q3 := hS.G.q3; have hqp := hS.G.qp
  have hgm : memB p q g = true := memB_true.2 ⟨by have := hS.G.g2; omega, hS.G.gp, hS.G.pw⟩
  have hmh := hS.m3
  obtain ⟨a1, ap⟩ := mem_pos hgm
  obtain ⟨b1, bp⟩ := mem_pos hmh
  obtain ⟨R, hR⟩ : ∃ R, R = commN p.toNat g.toNat h.toNat m.toNat r.toNat := ⟨_, rfl⟩
  have hR2 : prodTo p.toNat [g, h] [m, r] 2 = R := by
    rw [hR, ← commN_two, Int.toNat_of_nonneg (by omega), Int.toNat_of_nonneg (by omega)]
  rw [← hR]
  have HR := Lib.hid hR2; have HG := Lib.hid hS.G; have HGM := Lib.hid hgm; have HMH := Lib.hid hmh; have HM := Lib.hid hm; have HRR := Lib.hid hr
  obtain ⟨W2, hW2, hB1, l1, hb⟩ := one_box w #[.int .i64 p, .int .i64 q, .int .i64 g, .int .i64 g1, .int .i64 g2, .int .i64 h] 25
  have hT2 : Tabs W2 := by rw [hW2]; exact hT.alloc _
  obtain ⟨W3, hW3, hB3, hB4, l3, l4, hb3⟩ := two_boxes W2 #[.int .i64 g, .int .i64 h] #[.int .i64 m, .int .i64 r] 3 3
  have hT3 := hT2.below hb3
  have HT := Lib.hid hT3; have HA := Lib.hid (slAt_two l3 hB3); have HB := Lib.hid (slAt_two l4 hB4)
  have hcall := product_ok p q g [g, h] [m, r] 2 _ _ W3 HG.out hT3 rfl rfl (by omega) HA.out HB.out (by simp [HGM.out, HMH.out]) (by simp [HM.out, HRR.out])
  rw [hR2] at hcall
  have HCALL := Lib.hid hcall
  clear hS hm hr hgm hmh hR hR2 hT hT2 hT3 hB3 hB4 hcall l3 l4
  go_enter Tryd.func77, Tryd.ntmps77
  go_upto_region 1 with (fail)
  rw [← hW2]
  obtain ⟨B1, hB1'⟩ : ∃ B, B = w.heap.size := ⟨_, rfl⟩
  rw [← hB1'] at hB1 l1 ⊢
  have HW3 := Lib.hid hW3
  clear hW2 hB1' hW3
  go_wp2_with (go_at_call 115; rw [← HW3.out]; refine HCALL.out.mono ?_; rintro e w' ⟨rfl, hw⟩)
  go_ret
  exact ret_of rfl (below_next (below_next hb hb3) hw)
end Go.Proofs.YtogbdnecpdcmiaaDoor
/-
  Commitments, by the program: Commit, Open and Other.
-/
namespace Go.Proofs.YtogbdnecpdcmiaaDoor
open Go Go.RowKit
theorem given_two (p q g g1 g2 h m r : Int) (w : World) (hS : BSpec p q g g1 g2 h) (hT : Tabs w) (hm : scB q m = true) (hr : scB q r = true) (B : Nat) (hA : SlAt w B [m, r]) :
    Calls Tryd.prog 69 #[bV p q g g1 g2 h, .slice (some ⟨B, 0, none⟩) 2 2, .slice none 0 0] w (Ret (.int .i64 0) w) := by
  have p3 := hS.G.p3; have pm := hS.G.pm; have q3 := hS.G.q3; have hqp := hS.G.qp
  have h1 := given_any p q g g1 g2 h [m, r] 2 B w (by omega) (by omega) (by omega) (by omega) hT rfl (by omega) hA
  rwa [givenE_ok (bvalB_true.2 hS) (by simp [hm, hr])] at h1
set_option maxRecDepth 100000 in
set_option maxHeartbeats 1000000 in
theorem Commit_ok (p q g g1 g2 h m r : Int) (w : World) (hS : BSpec p q g g1 g2 h) (hT : Tabs w) (hm : scB q m = true) (hr : scB q r = true) :
    Calls Tryd.prog 31 #[bV p q g g1 g2 h, .int .i64 m, .int .i64 r] w (Ret (.tuple #[.int .i64 (commN p.toNat g.toNat h.toNat m.toNat r.toNat : Nat), .int .i64 0]) w) := by
  obtain ⟨R, hR⟩ : ∃ R, R = commN p.toNat g.toNat h.toNat m.toNat r.toNat := ⟨_, rfl⟩
  rw [← hR]
  have HR := Lib.hid hR; have HS := Lib.hid hS; have HM := Lib.hid hm; have HRR := Lib.hid hr
  obtain ⟨W2, hW2, hB1, hB2, l1, l2, hb⟩ := two_boxes w #[.int .i64 p, .int .i64 q, .int .i64 g, .int .i64 g1, .int .i64 g2, .int .i64 h] #[.int .i64 m, .int .i64 r] 25 3
  have hT2 : Tabs W2 := hT.below hb
  have HT := Lib.hid hT2; have HB1 := Lib.hid hB1
  have HA := Lib.hid (slAt_two l2 hB2)
  have HW2 := Lib.hid hW2
  clear hS hm hr hR hT hT2 hB2 hW2
  go_enter Tryd.func31, Tryd.ntmps31
  go_wp2_with (first
    | (go_at_call 69; rw [← HW2.out]; refine (given_two p q g g1 g2 h m r _ HS.out HT.out HM.out HRR.out _ HA.out).mono ?_; rintro e w' ⟨rfl, hw⟩; have c1 := box_keep HB1.out l1 hw; have hT := HT.out.below hw)
    | (go_at_call 77; refine (commit_ok p q g g1 g2 h m r _ HS.out (by assumption) HM.out HRR.out).mono ?_; rintro e w'' ⟨rfl, hk⟩; rw [← HR.out]))
  go_ret2
  exact ret_of rfl (below_next (below_next hb hw) hk)
set_option maxRecDepth 100000 in
set_option maxHeartbeats 1000000 in
theorem open_ok (p q g g1 g2 h c m r : Int) (w : World) (hS : BSpec p q g g1 g2 h) (hT : Tabs w) (hm : scB q m = true) (hr : scB q r = true) :
    Calls Tryd.prog 29 #[bV p q g g1 g2 h, .int .i64 c, .int .i64 m, .int .i64 r] w (Ret (.bool (decide (c = (commN p.toNat g.toNat h.toNat m.toNat r.toNat : Nat)))) w) := by
  obtain ⟨R, hR⟩ : ∃ R, R = commN p.toNat g.toNat h.toNat m.toNat r.toNat := ⟨_, rfl⟩
  rw [← hR]
  have HR := Lib.hid hR; have HS := Lib.hid hS; have HM := Lib.hid hm; have HRR := Lib.hid hr
  obtain ⟨W2, hW2, hB1, l1, hb⟩ := one_box w #[.int .i64 p, .int .i64 q, .int .i64 g, .int .i64 g1, .int .i64 g2, .int .i64 h] 25
  have hT2 : Tabs W2 := hT.below hb
  have HT := Lib.hid hT2; have HB1 := Lib.hid hB1
  have HW2 := Lib.hid hW2
  obtain ⟨d, hd⟩ : ∃ d, d = decide (c = (R : Int)) := ⟨_, rfl⟩
  rw [← hd]
  by_cases e : c = (R : Int)
  · have t1 : (c == (R : Int)) = true := by simp; exact e
    obtain rfl : d = true := by rw [hd]; simp; exact e
    clear hS hm hr hR hT hT2 hW2 e hd
    go_enter Tryd.func29, Tryd.ntmps29
    go_wp2_with (go_at_call 31; rw [← HW2.out]; refine (Commit_ok p q g g1 g2 h m r _ HS.out HT.out HM.out HRR.out).mono ?_; rintro e w' ⟨rfl, hw⟩; rw [← HR.out])
    go_ret
    exact ret_of rfl (below_next hb hw)
  · have t1 : (c == (R : Int)) = false := by simp; exact e
    obtain rfl : d = false := by rw [hd]; simp; exact e
    clear hS hm hr hR hT hT2 hW2 e hd
    go_enter Tryd.func29, Tryd.ntmps29
    go_wp2_with (go_at_call 31; rw [← HW2.out]; refine (Commit_ok p q g g1 g2 h m r _ HS.out HT.out HM.out HRR.out).mono ?_; rintro e w' ⟨rfl, hw⟩; rw [← HR.out])
    go_ret
    exact ret_of rfl (below_next hb hw)
theorem wsub_z (a b m : Int) (ha0 : 0 ≤ a) (ha : a < m) (hb0 : 0 ≤ b) (hb : b < m) (hm : m < 2305843009213693952) (w : World) :
    Calls Tryd.prog 70 #[.int .i64 a, .int .i64 b, .int .i64 m] w (RetQ (.tuple #[.int .i64 ((a - b) % m), .int .i64 0]) w) := by
  obtain ⟨A, rfl⟩ : ∃ A : Nat, a = A := ⟨a.toNat, by omega⟩
  obtain ⟨B, rfl⟩ : ∃ B : Nat, b = B := ⟨b.toNat, by omega⟩
  obtain ⟨M, rfl⟩ : ∃ M : Nat, m = M := ⟨m.toNat, by omega⟩
  have h := wsub_any A B M (by omega) (by omega) (by omega) w
  rwa [show (((A + M - B) % M : Nat) : Int) = ((A : Int) - (B : Int)) % (M : Int) by
    rw [Int.natCast_emod, show ((A + M - B : Nat) : Int) = ((A : Int) - (B : Int)) + (M : Int) by omega, Int.add_emod_right]] at h
theorem wadd_z (a b m : Int) (ha0 : 0 ≤ a) (ha : a < m) (hb0 : 0 ≤ b) (hb : b < m) (hm : m < 2305843009213693952) (w : World) :
    Calls Tryd.prog 72 #[.int .i64 a, .int .i64 b, .int .i64 m] w (RetQ (.tuple #[.int .i64 ((a + b) % m), .int .i64 0]) w) := by
  obtain ⟨A, rfl⟩ : ∃ A : Nat, a = A := ⟨a.toNat, by omega⟩
  obtain ⟨B, rfl⟩ : ∃ B : Nat, b = B := ⟨b.toNat, by omega⟩
  obtain ⟨M, rfl⟩ : ∃ M : Nat, m = M := ⟨m.toNat, by omega⟩
  have h := wadd_any A B M (by omega) (by omega) (by omega) w
  rwa [show (((A + B) % M : Nat) : Int) = ((A : Int) + (B : Int)) % (M : Int) by rw [Int.natCast_emod, Int.natCast_add]] at h
end Go.Proofs.YtogbdnecpdcmiaaDoor
/-
  Commitments, by the program: Other.
-/
namespace Go.Proofs.YtogbdnecpdcmiaaDoor
open Go Go.RowKit
section
variable (p q g g1 g2 h m r n log : Int) (w : World)
set_option maxRecDepth 100000 in
set_option maxHeartbeats 1000000 in
theorem other_bad (E : Int) (hp : -9223372036854775808 ≤ p) (hp2 : p ≤ 9223372036854775807) (hq : -9223372036854775808 ≤ q) (hq2 : q ≤ 9223372036854775807) (hT : Tabs w) (hE : givenE p q g g1 g2 h [m, r, n, log] = E) (h0 : E ≠ 0) :
    Calls Tryd.prog 23 #[bV p q g g1 g2 h, .int .i64 m, .int .i64 r, .int .i64 n, .int .i64 log] w (Ret (.tuple #[.int .i64 0, .int .i64 E]) w) := by
  have t0 : (E == 0) = false := by simp; exact h0
  have t1 : (E != 0) = true := by simp; exact h0
  have HE := Lib.hid hE
  obtain ⟨W2, hW2, hB1, hB2, l1, l2, hb⟩ := two_boxes w #[.int .i64 p, .int .i64 q, .int .i64 g, .int .i64 g1, .int .i64 g2, .int .i64 h] #[.int .i64 m, .int .i64 r, .int .i64 n, .int .i64 log] 25 3
  have hT2 : Tabs W2 := hT.below hb
  have hcall := given_any p q g g1 g2 h [m, r, n, log] 4 _ W2 hp hp2 hq hq2 hT2 rfl (by omega) (slAt_four l2 hB2)
  rw [hE] at hcall
  have HC := Lib.hid hcall; have HW2 := Lib.hid hW2
  clear hE h0 hT hT2 hB1 hB2 hcall hW2
  go_enter Tryd.func23, Tryd.ntmps23
  go_wp2_with (go_at_call 69; rw [← HW2.out]; refine HC.out.mono ?_; rintro e w' ⟨rfl, hw⟩)
  go_ret2
  exact ret_of rfl (below_next hb hw)
set_option maxRecDepth 100000 in
set_option maxHeartbeats 1000000 in
theorem other_log (hS : BSpec p q g g1 g2 h) (hT : Tabs w) (hx : [m, r, n, log].all (scB q) = true) (hl : ((g.toNat ^ log.toNat % p.toNat : Nat) : Int) ≠ h) :
    Calls Tryd.prog 23 #[bV p q g g1 g2 h, .int .i64 m, .int .i64 r, .int .i64 n, .int .i64 log] w (Ret (.tuple #[.int .i64 0, .int .i64 2]) w) := by
  have p3 := hS.G.p3; have pm := hS.G.pm; have q3 := hS.G.q3; have hqp := hS.G.qp
  have hgm : memB p q g = true := memB_true.2 ⟨by have := hS.G.g2; omega, hS.G.gp, hS.G.pw⟩
  have hsl : scB q log = true := by simp at hx; exact hx.2.2.2
  obtain ⟨L0, Lq⟩ := scB_true.1 hsl
  obtain ⟨R, hR⟩ : ∃ R, R = g.toNat ^ (log % q).toNat % p.toNat := ⟨_, rfl⟩
  have hR2 : g.toNat ^ log.toNat % p.toNat = R := by rw [hR, Int.emod_eq_of_lt L0 Lq]
  rw [hR2] at hl
  have t0 : ((R : Int) == h) = false := by simp; exact hl
  have t1 : ((R : Int) != h) = true := by simp; exact hl
  obtain ⟨W2, hW2, hB1, hB2, l1, l2, hb⟩ := two_boxes w #[.int .i64 p, .int .i64 q, .int .i64 g, .int .i64 g1, .int .i64 g2, .int .i64 h] #[.int .i64 m, .int .i64 r, .int .i64 n, .int .i64 log] 25 3
  have hT2 : Tabs W2 := hT.below hb
  have hcall := given_any p q g g1 g2 h [m, r, n, log] 4 _ W2 (by omega) (by omega) (by omega) (by omega) hT2 rfl (by omega) (slAt_four l2 hB2)
  rw [givenE_ok (bvalB_true.2 hS) hx] at hcall
  have HC := Lib.hid hcall; have HW2 := Lib.hid hW2; have HT := Lib.hid hT2; have HB1 := Lib.hid hB1; have HG := Lib.hid hS.G; have HGM := Lib.hid hgm; have HR := Lib.hid hR
  clear hx hT hT2 hB1 hB2 hcall hW2 hS hgm hsl hR hR2 hl
  go_enter Tryd.func23, Tryd.ntmps23
  go_wp2_with (first
    | (go_at_call 69; rw [← HW2.out]; refine HC.out.mono ?_; rintro e w' ⟨rfl, hw⟩; have c1 := box_keep HB1.out l1 hw; have hT := HT.out.below hw)
    | (go_at_call 30; refine (gpower_any _ _ _ _ _ _ HG.out (by assumption) HGM.out).mono ?_; rintro e w'' ⟨rfl, hk⟩; rw [← HR.out]; have hw := below_next hw hk; have c1 := box_keep HB1.out l1 hw; clear hk))
  go_ret2
  exact ret_of rfl (below_next hb hw)
set_option maxRecDepth 100000 in
set_option maxHeartbeats 2000000 in
theorem other_ok (hS : BSpec p q g g1 g2 h) (hT : Tabs w) (hx : [m, r, n, log].all (scB q) = true) (hl : ((g.toNat ^ log.toNat % p.toNat : Nat) : Int) = h) (hgcd : Nat.gcd log.toNat q.toNat = 1) :
    Calls Tryd.prog 23 #[bV p q g g1 g2 h, .int .i64 m, .int .i64 r, .int .i64 n, .int .i64 log] w (Ret (.tuple #[.int .i64 (otherN q.toNat m r n log.toNat), .int .i64 0]) w) := by
  have p3 := hS.G.p3; have pm := hS.G.pm; have q3 := hS.G.q3; have hqp := hS.G.qp
  have hgm : memB p q g = true := memB_true.2 ⟨by have := hS.G.g2; omega, hS.G.gp, hS.G.pw⟩
  have hx' := hx
  simp at hx'
  obtain ⟨sm, sr, sn, sl⟩ := hx'
  obtain ⟨M0, Mq⟩ := scB_true.1 sm
  obtain ⟨R0, Rq⟩ := scB_true.1 sr
  obtain ⟨N0, Nq⟩ := scB_true.1 sn
  obtain ⟨L0, Lq⟩ := scB_true.1 sl
  obtain ⟨R, hR⟩ : ∃ R, R = g.toNat ^ (log % q).toNat % p.toNat := ⟨_, rfl⟩
  have hR2 : g.toNat ^ log.toNat % p.toNat = R := by rw [hR, Int.emod_eq_of_lt L0 Lq]
  rw [hR2] at hl
  have t0 : ((R : Int) == h) = true := by simp; exact hl
  have t1 : ((R : Int) != h) = false := by simp; exact hl
  obtain ⟨I, hI⟩ : ∃ I, I = invN q.toNat log.toNat := ⟨_, rfl⟩
  have hIq : I < q.toNat := by rw [hI]; exact (invN_spec (by omega) (by omega) hgcd).1
  obtain ⟨D, hD⟩ : ∃ D, D = (m - n) % q := ⟨_, rfl⟩
  have D0 : 0 ≤ D := by rw [hD]; exact Int.emod_nonneg _ (by omega)
  have Dq : D < q := by rw [hD]; exact Int.emod_lt_of_pos _ (by omega)
  obtain ⟨T, hTT⟩ : ∃ T, T = D.toNat * I % q.toNat := ⟨_, rfl⟩
  have Tq : T < q.toNat := by rw [hTT]; exact Nat.mod_lt _ (by omega)
  obtain ⟨O, hO⟩ : ∃ O, O = (r + (T : Int)) % q := ⟨_, rfl⟩
  have hOO : otherN q.toNat m r n log.toNat = O := by
    unfold otherN
    rw [Int.toNat_of_nonneg (show 0 ≤ q by omega), ← hD, ← hI, hO, hTT, Int.natCast_emod, Int.natCast_mul, Int.toNat_of_nonneg D0, Int.toNat_of_nonneg (show 0 ≤ q by omega), Int.add_emod, Int.add_emod r (D * (I : Int) % q), Int.emod_emod]
  rw [hOO]
  have hinv := fun w => inverse_yes log.toNat q.toNat (by omega) (by omega) (by omega) hgcd w
  rw [Int.toNat_of_nonneg L0, Int.toNat_of_nonneg (show 0 ≤ q by omega), ← hI] at hinv
  have hmul := fun w => wMul_z D (I : Int) q D0 Dq (by omega) (by omega) (by omega) w
  rw [Int.toNat_natCast, ← hTT] at hmul
  obtain ⟨W2, hW2, hB1, hB2, l1, l2, hb⟩ := two_boxes w #[.int .i64 p, .int .i64 q, .int .i64 g, .int .i64 g1, .int .i64 g2, .int .i64 h] #[.int .i64 m, .int .i64 r, .int .i64 n, .int .i64 log] 25 3
  have hT2 : Tabs W2 := hT.below hb
  have hcall := given_any p q g g1 g2 h [m, r, n, log] 4 _ W2 (by omega) (by omega) (by omega) (by omega) hT2 rfl (by omega) (slAt_four l2 hB2)
  rw [givenE_ok (bvalB_true.2 hS) hx] at hcall
  have HC := Lib.hid hcall; have HW2 := Lib.hid hW2; have HT := Lib.hid hT2; have HB1 := Lib.hid hB1; have HG := Lib.hid hS.G; have HGM := Lib.hid hgm; have HR := Lib.hid hR
  have HINV := Lib.hid hinv; have HMUL := Lib.hid hmul; have HD := Lib.hid hD; have HO := Lib.hid hO
  clear hx hT hT2 hB1 hB2 hcall hW2 hS hgm sm sr sn sl hR hR2 hl hI hD hTT hO hOO hinv hmul hgcd
  go_enter Tryd.func23, Tryd.ntmps23
  go_wp2_with (first
    | (go_at_call 69; rw [← HW2.out]; refine HC.out.mono ?_; rintro e w' ⟨rfl, hw⟩; have c1 := box_keep HB1.out l1 hw; have hT := HT.out.below hw)
    | (go_at_call 30; refine (gpower_any _ _ _ _ _ _ HG.out (by assumption) HGM.out).mono ?_; rintro e w'' ⟨rfl, hk⟩; rw [← HR.out]; have hw := below_next hw hk; have c1 := box_keep HB1.out l1 hw; clear hk)
    | (go_at_call 32; refine (HINV.out _).mono ?_; rintro e w3 ⟨rfl, n3, rfl⟩)
    | (go_at_call 70; refine (wsub_z m n q M0 Mq N0 Nq (by omega) _).mono ?_; rintro e w3 ⟨rfl, n4, rfl⟩; rw [← HD.out])
    | (go_at_call 71; refine (HMUL.out _).mono ?_; rintro e w3 ⟨rfl, n5, rfl⟩)
    | (go_at_call 72; refine (wadd_z r (T : Int) q R0 Rq (by omega) (by omega) (by omega) _).mono ?_; rintro e w3 ⟨rfl, n6, rfl⟩; rw [← HO.out]))
  go_ret2
  exact ret_of rfl (below_next (below_next hb hw) (below_drewN _ _))
end
end Go.Proofs.YtogbdnecpdcmiaaDoor
/-
  The reference's inverse modulo a number.
-/
namespace Go.Proofs.YtogbdnecpdcmiaaDoor
open Go Go.RowKit
set_option maxRecDepth 100000 in
theorem rsize_any (a : Nat) (ha : a < 9223372036854775808) (w : World) : Calls Tryd.prog 134 #[.int .i64 a] w fun e w' => e = .returned (.int .u64 a) ∧ w = w' := by
  have t1 : decide ((a : Int) < 0) = false := by simp
  go_enter Tryd.func134, Tryd.ntmps134
  go_wp2
  go_ret
  exact ⟨rfl, rfl⟩
theorem u64_mod (x y : Nat) : Int.tmod (x : Int) (y : Int) = ((x % y : Nat) : Int) := by
  rw [Int.tmod_eq_emod_of_nonneg (by omega), Int.natCast_emod]
set_option maxRecDepth 100000 in
set_option maxHeartbeats 400000 in
theorem rgcd_any (a b : Nat) (ha : a < 2305843009213693952) (hb : b < 2305843009213693952) (w : World) : Calls Tryd.prog 113 #[.int .i64 a, .int .i64 b] w (RetQ (.int .i64 (Nat.gcd a b : Nat)) w) := by
  obtain ⟨G, hG⟩ : ∃ G, G = Nat.gcd a b := ⟨_, rfl⟩
  rw [← hG]
  have HG := Lib.hid hG
  clear hG
  go_enter Tryd.func113, Tryd.ntmps113
  go_wp2_with (go_at_call 134; refine (rsize_any _ (by omega) _).mono ?_; rintro e w' ⟨rfl, rfl⟩)
  go_loopw [5, 6] (fun vx vy wr => ∃ x y : Nat, vx = .int .u64 x ∧ vy = .int .u64 y ∧ x < 2305843009213693952 ∧ y < 2305843009213693952 ∧ Nat.gcd x y = Nat.gcd a b ∧ Drew w wr) (fun _ vy _ => (intOf vy).toNat)
  case atStart => exact ⟨a, b, rfl, rfl, ha, hb, rfl, Drew.refl _⟩
  case round =>
    obtain ⟨x, y, rfl, rfl, hx, hy, hg, hd⟩ := hrel
    have HGG := Lib.hid hg
    clear hg
    by_cases h0 : y = 0
    · subst h0
      have hxG : x = G := by have := HGG.out; rw [Nat.gcd_zero_right] at this; rw [HG.out, this]
      subst hxG
      have t2 : ((x : Int) == 9223372036854775808) = false := by simp; omega
      go_wp2
      go_ret
      exact retq_of rfl hd
    · have t1 : decide ((0 : Int) < (y : Int)) = true := by simp; omega
      have t3 : decide (0 < y) = true := by simp; omega
      have h1 : ¬ (y : Int) = 0 := by omega
      obtain ⟨R, hR⟩ : ∃ R, R = x % y := ⟨_, rfl⟩
      have hRy : R < y := by rw [hR]; exact Nat.mod_lt _ (by omega)
      have et := u64_mod x y
      rw [← hR] at et
      have hn : Nat.gcd y R = Nat.gcd a b := by rw [hR, Nat.gcd_comm, ← Nat.gcd_rec, Nat.gcd_comm]; exact HGG.out
      have HN := Lib.hid hn
      clear hR hn
      go_wp2
      go_quiet (fail)
      go_wp2
      go_roundw
      case rel => exact ⟨y, R, rfl, rfl, hy, by omega, HN.out, drew_next hd ⟨_, rfl⟩⟩
      case measure => simp [intOf]; omega
/-- what the reference's algorithm keeps -/
structure RInv (a m u v x y : Nat) : Prop where
  gc : Nat.gcd u v = Nat.gcd a m
  um : u ≤ m
  vm : v ≤ m
  xm : x < m
  ym : y < m
  cx : Mr.C m ((a : Int) * x) u
  cy : Mr.C m ((a : Int) * y) v
theorem RInv.start {a m : Nat} (ha : a < m) (h1 : 1 < m) : RInv a m a m 1 0 := by
  refine ⟨rfl, by omega, Nat.le_refl _, h1, by omega, ?_, ?_⟩
  · exact Mr.C.of_eq (by simp)
  · unfold Mr.C
    exact ⟨-1, by simp⟩
theorem RInv.fin {a m u x y : Nat} (h : RInv a m u 0 x y) (h1 : 1 < m) (hg : Nat.gcd a m = 1) : x = invN m a := by
  have hu : u = 1 := by have := h.gc; rw [Nat.gcd_zero_right, hg] at this; exact this
  have hc := h.cx
  rw [hu, ← Int.natCast_mul] at hc
  have h2 := Mr.C.nat_iff.1 hc
  rw [Nat.mod_eq_of_lt h1] at h2
  exact (invN_eq h.xm h2).symm
/-- a round's numbers -/
theorem RInv.step {a m u v x y : Nat} (h : RInv a m u v x y) (hv : 0 < v) (hm : m < 2305843009213693952) : ∃ (Q R QB S T Y : Nat), RInv a m v R y Y ∧ R < v ∧ Q < 2305843009213693952 ∧ (u : Int) / (v : Int) = (Q : Int) ∧
    (-9223372036854775808 ≤ (Q : Int) * (v : Int) ∧ (Q : Int) * (v : Int) < 9223372036854775808 ∧ (Q : Int) * (v : Int) = (QB : Int)) ∧
    (-9223372036854775808 ≤ (u : Int) - (QB : Int) ∧ (u : Int) - (QB : Int) < 9223372036854775808 ∧ (u : Int) - (QB : Int) = (R : Int)) ∧
    (Q : Int) % (m : Int) = (S : Int) ∧ S < m ∧ S * y % m = T ∧ T < m ∧ ((x : Int) - (T : Int)) % (m : Int) = (Y : Int) := by
  have hum := h.um; have hvm := h.vm; have hxm := h.xm
  have hda := Nat.div_add_mod u v
  have hR := Nat.mod_lt u hv
  have e1 : ((u / v : Nat) : Int) * (v : Int) = ((v * (u / v) : Nat) : Int) := by rw [Int.natCast_mul, Int.mul_comm]
  have hS : u / v % m < m := Nat.mod_lt _ (by omega)
  have hT : u / v % m * y % m < m := Nat.mod_lt _ (by omega)
  have y0 := Int.emod_nonneg ((x : Int) - ((u / v % m * y % m : Nat) : Int)) (show (m : Int) ≠ 0 by omega)
  have y1 := Int.emod_lt_of_pos ((x : Int) - ((u / v % m * y % m : Nat) : Int)) (show (0 : Int) < m by omega)
  obtain ⟨Y, hY⟩ : ∃ Y : Nat, ((x : Int) - ((u / v % m * y % m : Nat) : Int)) % (m : Int) = (Y : Int) := ⟨_, (Int.toNat_of_nonneg y0).symm⟩
  have hC : Mr.C m (Y : Int) ((x : Int) - ((u / v : Nat) : Int) * (y : Int)) := by
    rw [← hY]
    refine (Mr.C.mod m _).trans ((Mr.C.rfl' m _).sub ?_)
    refine (Mr.C.nmod m _).trans ?_
    rw [Int.natCast_mul]
    exact (Mr.C.nmod m _).mul (Mr.C.rfl' m _)
  refine ⟨u / v, u % v, v * (u / v), u / v % m, u / v % m * y % m, Y, ⟨?_, hvm, by omega, h.ym, by omega, h.cy, ?_⟩, hR, Nat.lt_of_le_of_lt (Nat.div_le_self u v) (by omega), (Int.natCast_ediv _ _).symm, ?_, ?_, (Int.natCast_emod _ _).symm, hS, rfl, hT, hY⟩
  · rw [← h.gc, Nat.gcd_comm v, ← Nat.gcd_rec, Nat.gcd_comm]
  · have k := ((Mr.C.rfl' m (a : Int)).mul hC).trans (Mr.C.of_eq (show (a : Int) * ((x : Int) - ((u / v : Nat) : Int) * (y : Int)) = (a : Int) * x - ((u / v : Nat) : Int) * ((a : Int) * y) by grind))
    refine k.trans ((h.cx.sub ((Mr.C.rfl' m _).mul h.cy)).trans (Mr.C.of_eq ?_))
    rw [e1]
    generalize v * (u / v) = QB at *
    omega
  · rw [e1]
    generalize v * (u / v) = QB at *
    exact ⟨by omega, by omega, rfl⟩
  · generalize v * (u / v) = QB at *
    exact ⟨by omega, by omega, by omega⟩
set_option maxRecDepth 100000 in
set_option maxHeartbeats 800000 in
theorem rinverse_yes (a m : Nat) (ha : a < m) (h1 : 1 < m) (hm : m < 2305843009213693952) (hg : Nat.gcd a m = 1) (w : World) :
    Calls Tryd.prog 73 #[.int .i64 a, .int .i64 m] w (RetQ (.tuple #[.int .i64 (invN m a : Nat), .bool true]) w) := by
  obtain ⟨I, hI⟩ : ∃ I, I = invN m a := ⟨_, rfl⟩
  rw [← hI]
  have HG := Lib.hid hg; have HI := Lib.hid hI
  have e1 : (1 : Int) % (m : Int) = 1 := Int.emod_eq_of_lt (by omega) (by omega)
  have hm0 : ¬ (m : Int) = 0 := by omega
  clear hg hI
  go_enter Tryd.func73, Tryd.ntmps73
  go_wp2_with (go_at_call 113; refine (rgcd_any _ _ (by omega) hm _).mono ?_; rintro e w' ⟨rfl, n, rfl⟩; rw [HG.out])
  simp only [e1]
  clear e1
  go_loopw [6, 7, 8, 9] (fun vu vv vx vy wr => ∃ u v x y : Nat, vu = .int .i64 u ∧ vv = .int .i64 v ∧ vx = .int .i64 x ∧ vy = .int .i64 y ∧ RInv a m u v x y ∧ Drew w wr) (fun _ vv _ _ _ => (intOf vv).toNat)
  case atStart => exact ⟨a, m, 1, 0, rfl, rfl, rfl, rfl, RInv.start ha h1, ⟨_, rfl⟩⟩
  case round =>
    obtain ⟨u, v, x, y, rfl, rfl, rfl, rfl, hR, hd⟩ := hrel
    have hum := hR.um; have hvm := hR.vm; have hxm := hR.xm; have hym := hR.ym
    have HR := Lib.hid hR
    clear hR
    by_cases h0 : v = 0
    · subst h0
      have t1 : (((0 : Nat) : Int) != 0) = false := rfl
      obtain rfl : x = I := by rw [HI.out]; exact HR.out.fin h1 HG.out
      go_wp2
      go_ret2
      exact retq_of rfl hd
    · have t1 : ((v : Int) != 0) = true := by simp; omega
      have hb0 : ¬ (v : Int) = 0 := by omega
      obtain ⟨Q, R, QB, S, T, Y, hN, hRv, hQ, e0, g1, g2, eS, hS, eT, hT, eY⟩ := HR.out.step (by omega) hm
      have e1 := (wrapJ g1.1 g1.2.1).trans g1.2.2
      have f1 := (wrapI g1.1 g1.2.1).trans g1.2.2
      have e2 := (wrapJ g2.1 g2.2.1).trans g2.2.2
      have f2 := (wrapI g2.1 g2.2.1).trans g2.2.2
      have hYm := hN.ym
      have HN := Lib.hid hN; have ES := Lib.hid eS; have ET := Lib.hid eT; have EY := Lib.hid eY
      clear hN g1 g2 eS eT eY
      go_wp2_with (first
        | (go_at_call 33; refine (rmul_any S y m hS hym (by omega) _).mono ?_; rintro e w' ⟨rfl, n2, rfl⟩; rw [ET.out])
        | (go_at_call 21; (first | (with_reducible refine (rreduce_any (Q : Int) m (by omega) hm _).mono ?_) | (with_reducible refine (rreduce_any ((x : Int) - (T : Int)) m (by omega) hm _).mono ?_)); rintro e w' ⟨rfl, n3, rfl⟩; (first | rw [ES.out] | rw [EY.out])))
      go_roundw
      case rel => exact ⟨v, R, y, Y, rfl, rfl, rfl, rfl, HN.out, drew_next hd ⟨_, rfl⟩⟩
      case measure => simp [intOf]; omega
end Go.Proofs.YtogbdnecpdcmiaaDoor
/-
  Commitments, by the reference: Scalars and Other.
-/
namespace Go.Proofs.YtogbdnecpdcmiaaDoor
open Go Go.RowKit
set_option maxRecDepth 100000 in
theorem rscalar15_any (p q g x : Int) (w : World) :
    Calls Tryd.prog 28 #[gV p q g, .int .i64 x] w (Ret (.bool (scB q x)) w) := by
  by_cases c1 : 0 ≤ x
  · by_cases c2 : x < q
    · have e : scB q x = true := scB_true.2 ⟨c1, c2⟩
      rw [e]
      clear e
      go_enter Tryd.func28, Tryd.ntmps28
      go_wp2
      go_ret
      exact ret_of (by simp <;> omega) (below_alloc _ _)
    · have e : scB q x = false := scB_false.2 (by omega)
      rw [e]
      clear e
      go_enter Tryd.func28, Tryd.ntmps28
      go_wp2
      go_ret
      exact ret_of (by simp <;> omega) (below_alloc _ _)
  · have e : scB q x = false := scB_false.2 (by omega)
    have t1 : decide (0 ≤ x) = false := by simp; omega
    rw [e]
    clear e
    go_enter Tryd.func28, Tryd.ntmps28
    go_wp2
    go_ret
    exact ret_of rfl (below_alloc _ _)
set_option maxRecDepth 100000 in
set_option maxHeartbeats 1000000 in
theorem rscalars_any (p q g : Int) (xs : List Int) (n B : Nat) (w : World) (hn : xs.length = n) (hl : n ≤ 100) (hS : SlAt w B xs) :
    Calls Tryd.prog 25 #[gV p q g, .slice (some ⟨B, 0, none⟩) n n] w (Ret (.bool (xs.all (scB q))) w) := by
  obtain ⟨E, hE⟩ : ∃ E, E = xs.all (scB q) := ⟨_, rfl⟩
  rw [← hE]
  have HE := Lib.hid hE; have HN := Lib.hid hn
  obtain ⟨W2, hW2, hB1, l1, hb⟩ := one_box w #[.int .i64 p, .int .i64 q, .int .i64 g] 23
  have hS2 : SlAt W2 B xs := by rw [hW2]; exact hS.below (below_alloc _ _)
  have HS := Lib.hid hS2; have HB1 := Lib.hid hB1
  clear hE hn hS hS2
  go_enter Tryd.func25, Tryd.ntmps25
  go_upto_region 1 with (fail)
  rw [← hW2]
  obtain ⟨B1, hB1'⟩ : ∃ B, B = w.heap.size := ⟨_, rfl⟩
  rw [← hB1'] at HB1 l1 ⊢
  clear hW2 hB1' hB1
  go_wp2_with (fail)
  go_loopw [5] (fun vi wr => ∃ i : Nat, vi = .int .i64 i ∧ i ≤ n ∧ (∀ j, j < i → scB q (xs.getD j 0) = true) ∧ Below W2.heap.size W2 wr) (fun vi _ => n - (intOf vi).toNat)
  case atStart => exact ⟨0, rfl, by omega, fun j hj => by omega, Below.refl _ _⟩
  case round =>
    obtain ⟨i, rfl, hi, hgood, hk⟩ := hrel
    have HGood := Lib.hid hgood
    clear hgood
    by_cases hlt : i < n
    · obtain ⟨x, hxm, hx, hc⟩ := (HS.out.below hk).get (j := i) (by rw [HN.out]; exact hlt)
      have lB := (HS.out.below hk).lt
      have HX := Lib.hid hx
      have c1 := box_keep HB1.out l1 hk
      obtain ⟨W3, hW3⟩ : ∃ W3, W3 = wr := ⟨_, rfl⟩
      subst hW3
      have l1' := Nat.lt_of_lt_of_le l1 hk.size
      have HC1 := Lib.hid c1; have HC := Lib.hid hc
      have t0 : decide ((i : Int) < (n : Int)) = true := by simp; omega
      clear hx hxm
      go_upto_region 4 with (fail)
      clear c1 hc t0
      cases c2 : scB q x
      · obtain rfl : E = false := by rw [HE.out]; exact all_bad (i := i) (by rw [HN.out]; exact hlt) (by rw [← HX.out]; exact c2)
        go_region_held3 (fun w' => (∀ j, w'.cell? ⟨B1, j, none⟩ = #[Value.int .i64 p, .int .i64 q, .int .i64 g][j]?) ∧ (w'.cell? ⟨B, i, none⟩ = some (.int .i64 x)) ∧ Below W3.heap.size W3 w')
          (first
            | exact ⟨HC1.out, HC.out, (Below.refl _ _).drew⟩
            | exact keepP HC1.out l1' HC.out lB (by assumption) (by assumption))
          ((go_at_call 28; refine (rscalar15_any _ _ _ _ _).mono ?_; rintro e w' ⟨rfl, hw⟩; rw [c2]))
        all_goals
          have hh : (∀ j, w'.cell? ⟨B1, j, none⟩ = #[Value.int .i64 p, .int .i64 q, .int .i64 g][j]?) ∧ (w'.cell? ⟨B, i, none⟩ = some (.int .i64 x)) ∧ Below W3.heap.size W3 w' := by assumption
          obtain ⟨-, -, hk2⟩ := hh
          go_wp2
          go_ret
          exact ret_of rfl (below_next hb (below_next hk hk2))
      · have C2 := Lib.hid c2
        go_region_held3 (fun w' => (∀ j, w'.cell? ⟨B1, j, none⟩ = #[Value.int .i64 p, .int .i64 q, .int .i64 g][j]?) ∧ (w'.cell? ⟨B, i, none⟩ = some (.int .i64 x)) ∧ Below W3.heap.size W3 w')
          (first
            | exact ⟨HC1.out, HC.out, (Below.refl _ _).drew⟩
            | exact keepP HC1.out l1' HC.out lB (by assumption) (by assumption))
          ((go_at_call 28; refine (rscalar15_any _ _ _ _ _).mono ?_; rintro e w' ⟨rfl, hw⟩; rw [C2.out]))
        all_goals
          have hh : (∀ j, w'.cell? ⟨B1, j, none⟩ = #[Value.int .i64 p, .int .i64 q, .int .i64 g][j]?) ∧ (w'.cell? ⟨B, i, none⟩ = some (.int .i64 x)) ∧ Below W3.heap.size W3 w' := by assumption
          obtain ⟨-, -, hk2⟩ := hh
          have hk3 := below_next hk hk2
          go_wp2
          go_roundw
          case rel => exact ⟨i + 1, by go_num, by omega, fun j hj => by
            rcases Nat.eq_or_lt_of_le (Nat.le_of_lt_succ hj) with rfl | h3
            · rw [← HX.out]; exact C2.out
            · exact HGood.out j h3, hk3⟩
          case measure => simp [intOf]; omega
    · have h12 : i = n := by omega
      subst h12
      obtain rfl : E = true := by rw [HE.out]; exact all_good (by rw [HN.out]; exact HGood.out)
      go_wp2
      go_ret
      exact ret_of rfl (below_next hb hk)
set_option maxRecDepth 100000 in
set_option maxHeartbeats 1000000 in
theorem rother_any (p q g g1 g2 h m r n log : Int) (w : World) (hq3 : 3 ≤ q) (hqm : q < 2305843009213693952) (hx : [m, r, n, log].all (scB q) = true) (hgcd : Nat.gcd log.toNat q.toNat = 1) :
    Calls Tryd.prog 26 #[bV p q g g1 g2 h, .int .i64 m, .int .i64 r, .int .i64 n, .int .i64 log] w (Ret (.int .i64 (otherN q.toNat m r n log.toNat)) w) := by
  have hx' := hx
  simp at hx'
  obtain ⟨sm, sr, sn, sl⟩ := hx'
  obtain ⟨M0, Mq⟩ := scB_true.1 sm
  obtain ⟨R0, Rq⟩ := scB_true.1 sr
  obtain ⟨N0, Nq⟩ := scB_true.1 sn
  obtain ⟨L0, Lq⟩ := scB_true.1 sl
  obtain ⟨I, hI⟩ : ∃ I, I = invN q.toNat log.toNat := ⟨_, rfl⟩
  have hIq : I < q.toNat := by rw [hI]; exact (invN_spec (by omega) (by omega) hgcd).1
  obtain ⟨D, hD⟩ : ∃ D, D = (m - n) % q := ⟨_, rfl⟩
  have D0 : 0 ≤ D := by rw [hD]; exact Int.emod_nonneg _ (by omega)
  have Dq : D < q := by rw [hD]; exact Int.emod_lt_of_pos _ (by omega)
  obtain ⟨T, hTT⟩ : ∃ T, T = D.toNat * I % q.toNat := ⟨_, rfl⟩
  have Tq : T < q.toNat := by rw [hTT]; exact Nat.mod_lt _ (by omega)
  obtain ⟨O, hO⟩ : ∃ O, O = (r + (T : Int)) % q := ⟨_, rfl⟩
  have hOO : otherN q.toNat m r n log.toNat = O := by
    unfold otherN
    rw [Int.toNat_of_nonneg (show 0 ≤ q by omega), ← hD, ← hI, hO, hTT, Int.natCast_emod, Int.natCast_mul, Int.toNat_of_nonneg D0, Int.toNat_of_nonneg (show 0 ≤ q by omega), Int.add_emod, Int.add_emod r (D * (I : Int) % q), Int.emod_emod]
  rw [hOO]
  have hinv := fun w => rinverse_yes log.toNat q.toNat (by omega) (by omega) (by omega) hgcd w
  rw [Int.toNat_of_nonneg L0, Int.toNat_of_nonneg (show 0 ≤ q by omega), ← hI] at hinv
  have hmul := fun w => rmul_z D (I : Int) q D0 Dq (by omega) (by omega) (by omega) w
  rw [Int.toNat_natCast, ← hTT] at hmul
  have HINV := Lib.hid hinv; have HMUL := Lib.hid hmul; have HD := Lib.hid hD; have HO := Lib.hid hO
  clear hx sm sr sn sl hI hD hTT hO hOO hinv hmul hgcd
  go_enter Tryd.func26, Tryd.ntmps26
  go_wp2_with (first
    | (go_at_call 73; refine (HINV.out _).mono ?_; rintro e w3 ⟨rfl, n3, rfl⟩)
    | (go_at_call 33; refine (HMUL.out _).mono ?_; rintro e w3 ⟨rfl, n5, rfl⟩)
    | (go_at_call 21; (first | (with_reducible refine (rreduce_z (m - n) q (by omega) hqm _).mono ?_) | (with_reducible refine (rreduce_z (r + (T : Int)) q (by omega) hqm _).mono ?_)); rintro e w' ⟨rfl, n6, rfl⟩; (first | rw [← HD.out] | rw [← HO.out])))
  go_ret
  exact ret_of rfl (below_next (below_alloc _ _) (below_drewN _ _))
end Go.Proofs.YtogbdnecpdcmiaaDoor
/-
  The chapter's examples of commitments: awake.
-/
namespace Go.Proofs.YtogbdnecpdcmiaaDoor
open Go Go.RowKit
theorem gSmall : GSpec 23 11 4 := ⟨by decide, by decide, by decide, by decide, by decide, by decide, by decide, isB_base (i := 8) (by decide) rfl, isB_base (i := 4) (by decide) rfl, by decide⟩
theorem bSmall15 : BSpec 23 11 4 2 3 9 := ⟨gSmall, by decide, by decide, by decide, by decide, by decide, by decide⟩
theorem commit15 (w : World) (hT : Tabs w) : Calls Tryd.prog 31 #[bV 23 11 4 2 3 9, .int .i64 2, .int .i64 3] w (Ret (.tuple #[.int .i64 3, .int .i64 0]) w) := by
  have h := Commit_ok 23 11 4 2 3 9 2 3 w bSmall15 hT (by decide) (by decide)
  rwa [show commN (Int.toNat 23) (Int.toNat 4) (Int.toNat 9) (Int.toNat 2) (Int.toNat 3) = 3 by decide] at h
theorem open15 (w : World) (hT : Tabs w) : Calls Tryd.prog 29 #[bV 23 11 4 2 3 9, .int .i64 3, .int .i64 5, .int .i64 4] w (Ret (.bool true) w) := by
  have h := open_ok 23 11 4 2 3 9 3 5 4 w bSmall15 hT (by decide) (by decide)
  rwa [show decide ((3 : Int) = (commN (Int.toNat 23) (Int.toNat 4) (Int.toNat 9) (Int.toNat 5) (Int.toNat 4) : Nat)) = true by decide] at h
theorem other15 (w : World) (hT : Tabs w) : Calls Tryd.prog 23 #[bV 23 11 4 2 3 9, .int .i64 2, .int .i64 3, .int .i64 5, .int .i64 8] w (Ret (.tuple #[.int .i64 4, .int .i64 0]) w) := by
  have h := other_ok 23 11 4 2 3 9 2 3 5 8 w bSmall15 hT (by decide) (by decide) (by decide)
  have e : otherN (Int.toNat 11) 2 3 5 (Int.toNat 8) = 4 := by
    unfold otherN
    rw [show invN (Int.toNat 11) (Int.toNat 8) = 7 from invN_eq (by decide) (by decide)]
    decide
  rwa [e] at h
set_option maxRecDepth 100000 in
set_option maxHeartbeats 400000 in
theorem awake15_any (w : World) (hT : Tabs w) : Calls Tryd.prog 22 #[] w (Ret (.bool true) w) := by
  obtain ⟨W2, hW2, hB1, l1, hb⟩ := one_box w #[.int .i64 23, .int .i64 11, .int .i64 4, .int .i64 2, .int .i64 3, .int .i64 9] 25
  have hT2 : Tabs W2 := hT.below hb
  go_enter Tryd.func22, Tryd.ntmps22
  go_upto_region 2 with (fail)
  rw [← hW2]
  obtain ⟨B1, hB1'⟩ : ∃ B, B = w.heap.size := ⟨_, rfl⟩
  rw [← hB1'] at hB1 l1 ⊢
  have hk : Below W2.heap.size W2 W2 := Below.refl _ _
  have c1 := hB1
  have HT := Lib.hid hT2; have HB1 := Lib.hid hB1
  have hT := hT2
  clear hW2 hB1' hB1 hT2
  go_wp2_with (first
    | (go_at_call 31; refine (commit15 _ (by assumption)).mono ?_; rintro e w' ⟨rfl, hw⟩; have hk := below_next hk hw; have c1 := box_keep HB1.out l1 hk; have hT := HT.out.below hk; clear hw)
    | (go_at_call 23; refine (other15 _ (by assumption)).mono ?_; rintro e w' ⟨rfl, hw⟩; have hk := below_next hk hw; have c1 := box_keep HB1.out l1 hk; have hT := HT.out.below hk; clear hw)
    | (go_at_call 29; refine (open15 _ (by assumption)).mono ?_; rintro e w' ⟨rfl, hw⟩; have hk := below_next hk hw; clear hw))
  go_ret
  exact ret_of rfl (below_next hb hk)
end Go.Proofs.YtogbdnecpdcmiaaDoor
/-
  A region whose guard shuts operations out: the moves of a walk.
-/
namespace Go.Proofs.YtogbdnecpdcmiaaDoor
open Go Go.RowKit
section
variable {P : Program} {ops : Array Oper} {Q : Exit → Act → World → Prop} {md : Region.Mode} {S : World → Prop} {i t : Nat} {oi : Oper} {fuel : Nat} {listed : Array Bool} {tmps : Array Value} {ds : List Deferred} {w : World}
/-- an operation that yields is taken first -/
theorem wpAnyH_take1 {v : Value} (hi : ops[i]? = some oi) (hd : oi.dst = some t) (hs : Region.noSelect ops = true) (hf : Region.free md ops listed i = true) (hr : (Region.ready md ops listed).contains i = true)
    (hQ : ∀ c a w, Q (.panic c) (a.put oi.dst v) w → Q (.panic c) a w) (hw : Region.wanted oi (yielded ops tmps) = true) (hy : ∀ w, S w → (execOp (Act.eval { tmps := tmps, defers := ds }) oi).run P w = .ok (.value v) w) (hS : S w)
    (h : wpAnyH P md ops Q S fuel (listed.setIfInBounds i true) { tmps := tmps.setIfInBounds t v, defers := ds } w) : wpAnyH P md ops Q S (fuel + 1) listed { tmps := tmps, defers := ds } w :=
  wpAnyH_take hi hs hf hr hQ (Or.inl ⟨hw, hy⟩) hS (by rw [hd]; exact h)
/-- an operation whose guard shuts it out is passed by -/
theorem wpAnyH_dead (hi : ops[i]? = some oi) (hd : oi.dst = some t) (hs : Region.noSelect ops = true) (hf : Region.free md ops listed i = true) (hr : (Region.ready md ops listed).contains i = true)
    (hQ : ∀ c a w, Q (.panic c) (a.put oi.dst undef) w → Q (.panic c) a w) (hw : Region.wanted oi (yielded ops tmps) = false) (hS : S w)
    (h : wpAnyH P md ops Q S fuel (listed.setIfInBounds i true) { tmps := tmps.setIfInBounds t undef, defers := ds } w) : wpAnyH P md ops Q S (fuel + 1) listed { tmps := tmps, defers := ds } w :=
  wpAnyH_take hi hs hf hr hQ (Or.inr ⟨hw, rfl⟩) hS (by rw [hd]; exact h)
end
end Go.Proofs.YtogbdnecpdcmiaaDoor

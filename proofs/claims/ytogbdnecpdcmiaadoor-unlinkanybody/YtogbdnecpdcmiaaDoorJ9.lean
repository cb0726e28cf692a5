/-
  The law UnlinkAnybody, walked.
-/
import Derived.Test.YtogbdnecpdcmiaaDoorJ7
import Derived.Test.YtogbdnecpdcmiaaDoorJ8
/-
  The law UnlinkAnybody, walked.
-/
namespace Go.Proofs.YtogbdnecpdcmiaaDoor
open Go Go.RowKit
/-- the number of hits before the triple i, j, l -/
def mny (s x y i j l : Nat) : Nat := if s < i ∨ (s = i ∧ (x < j ∨ (x = j ∧ y < l))) then 1 else 0
/-- the secrets for the scalar u, and that they are the only ones -/
structure USpec (p q ps leaf d r1 r2 u : Int) (M g1 g2 : Nat) (s x y : Nat) : Prop where
  s1 : 1 ≤ s
  sq : (s : Int) < q
  xq : (x : Int) < q
  yq : (y : Int) < q
  pw : ∀ i : Nat, (i : Int) < q → (M ^ i % p.toNat = ps.toNat ↔ i = s)
  pr : pairN p.toNat g1 g2 x y = leaf.toNat
  a1 : ∀ j : Nat, (j : Int) < q → ((d * u * (s : Int) + (j : Int) - r1) % q = 0 ↔ j = x)
  a2 : ∀ l : Nat, (l : Int) < q → ((d * (s : Int) + (l : Int) - r2) % q = 0 ↔ l = y)
/-- the scalars before u whose message is not 1 -/
def accts (u0 u : Nat) : Nat := if u0 < u then u - 1 else u
set_option maxRecDepth 100000 in
set_option maxHeartbeats 4000000 in
theorem lawa_walk (p q g g1 g2 h ps leaf d r1 r2 : Int) (u0 : Nat) (w : World) (hT : Tabs w) (hS : BSpec p q g g1 g2 h) (hL : LeafOK p q ps leaf d r1 r2) (hsp : rspentB p g1 g2 ps leaf d r1 r2 = true) (hq : q ≤ 11)
    (haw : ∀ w, Tabs w → Calls Tryd.prog 12 #[] w (Ret (.bool true) w))
    (hopn : ∀ w, Tabs w → Calls Tryd.prog 14 #[bV p q g g1 g2 h, .int .i64 ps, .int .i64 leaf, .int .i64 d, .int .i64 r1, .int .i64 r2] w (Ret (.tuple #[.int .i64 (q - 1), .int .i64 0]) w))
    (hu0 : (u0 : Int) < q) (hone : ∀ u : Nat, (u : Int) < q → (pairN p.toNat g1.toNat g2.toNat u (Int.toNat 1) = 1 ↔ u = u0))
    (hstop : ∀ w, Tabs w → Calls Tryd.prog 13 #[bV p q g g1 g2 h, .int .i64 ps, .int .i64 leaf, .int .i64 d, .int .i64 r1, .int .i64 r2, .int .i64 (u0 : Int)] w (Ret (.tuple #[.int .i64 0, .int .i64 0, .int .i64 0, .int .i64 10]) w))
    (hyes : ∀ u : Nat, (u : Int) < q → u ≠ u0 → ∃ s x y : Nat, USpec p q ps leaf d r1 r2 u (pairN p.toNat g1.toNat g2.toNat u (Int.toNat 1)) g1.toNat g2.toNat s x y ∧
      ∀ w, Tabs w → Calls Tryd.prog 13 #[bV p q g g1 g2 h, .int .i64 ps, .int .i64 leaf, .int .i64 d, .int .i64 r1, .int .i64 r2, .int .i64 (u : Int)] w (Ret (.tuple #[.int .i64 (s : Int), .int .i64 (x : Int), .int .i64 (y : Int), .int .i64 0]) w)) :
    Calls Tryd.prog 4 #[bV p q g g1 g2 h, .int .i64 ps, .int .i64 leaf, .int .i64 d, .int .i64 r1, .int .i64 r2] w (Ret (.bool true) w) := by
  have h2 := leafE_ok (bvalB_true.2 hS) hL
  have p3 := hS.G.p3; have pm := hS.G.pm; have q3 := hS.G.q3; have hqp := hS.G.qp
  obtain ⟨d0, dq⟩ := scB_true.1 hL.d
  obtain ⟨x0, xq⟩ := scB_true.1 hL.r1
  obtain ⟨y0, yq⟩ := scB_true.1 hL.r2
  have t8 : decide (11 < q) = false := by simp; omega
  have HS := Lib.hid hS; have HL := Lib.hid hL; have HSP := Lib.hid hsp; have HAW := Lib.hid haw; have HOPN := Lib.hid hopn; have HONE := Lib.hid hone; have HSTOP := Lib.hid hstop; have HYES := Lib.hid hyes; have HLE := Lib.hid h2
  clear hS hL hsp haw hopn hone hstop hyes h2
  obtain ⟨W2, hW2, hB1, l1, hb⟩ := one_box w #[.int .i64 p, .int .i64 q, .int .i64 g, .int .i64 g1, .int .i64 g2, .int .i64 h] 25
  have hT2 : Tabs W2 := by rw [hW2]; exact hT.alloc _
  clear hT
  go_enter Tryd.func4, Tryd.ntmps4
  go_upto_region 1 with (fail)
  rw [← hW2]
  obtain ⟨B1, hB1'⟩ : ∃ B, B = w.heap.size := ⟨_, rfl⟩
  rw [← hB1'] at hB1 l1 ⊢
  have hk : Below W2.heap.size W2 W2 := Below.refl _ _
  have c1 := hB1
  have HB1 := Lib.hid hB1; have HT := Lib.hid hT2; have hT := hT2
  clear hW2 hB1' hB1 hT2
  go_wp2_with (first
    | (go_at_call 12; refine (HAW.out _ (by assumption)).mono ?_; rintro e w' ⟨rfl, hw⟩; have hk := below_next hk hw; have c1 := box_keep HB1.out l1 hk; have hT := HT.out.below hk; clear hw)
    | (go_at_call 15; refine (rleaf_any _ _ _ _ _ _ _ _ _ _ _ _).mono ?_; rintro e w' ⟨rfl, hw⟩; rw [HLE.out]; have hk := below_next hk hw; have c1 := box_keep HB1.out l1 hk; have hT := HT.out.below hk; clear hw)
    | (go_at_call 16; refine (rspent_any _ _ _ _ _ _ _ _ _ _ _ _ HS.out HL.out).mono ?_; rintro e w' ⟨rfl, hw⟩; rw [HSP.out]; have hk := below_next hk hw; have c1 := box_keep HB1.out l1 hk; have hT := HT.out.below hk; clear hw))
  clear c1 hT
  go_loopw [14, 57] (fun va vu wr => ∃ u : Nat, va = .int .i64 (accts u0 u : Nat) ∧ vu = .int .i64 u ∧ (u : Int) ≤ q ∧ Below W2.heap.size W2 wr) (fun _ vu _ => q.toNat - (intOf vu).toNat)
  case atStart => exact ⟨0, rfl, rfl, by omega, hk⟩
  case round =>
    clear hk
    obtain ⟨u, rfl, rfl, huq, hk⟩ := hrel
    have c1 := box_keep HB1.out l1 hk
    have hT := HT.out.below hk
    have hacc : accts u0 u ≤ u := by unfold accts; split <;> omega
    by_cases hlt : (u : Int) = q
    · have t1 : decide ((u : Int) < q) = false := by simp; omega
      have ha : ((accts u0 u : Nat) : Int) = q - 1 := by unfold accts; rw [if_pos (by omega)]; omega
      go_wp2_with (go_at_call 14; refine (HOPN.out _ (by assumption)).mono ?_; rintro e w' ⟨rfl, hw⟩; have hk := below_next hk hw; clear hw)
      go_ret
      exact ret_of rfl (below_next hb hk)
    · have t1 : decide ((u : Int) < q) = true := by simp; omega
      have huq' : (u : Int) < q := by omega
      obtain ⟨M, hM⟩ : ∃ M, M = pairN p.toNat g1.toNat g2.toNat u (Int.toNat 1) := ⟨_, rfl⟩
      have hMp : (M : Int) < p := by
        have : M < p.toNat := by rw [hM]; unfold pairN; exact Nat.mod_lt _ (by omega)
        omega
      by_cases hu : u = u0
      · have m1 : M = 1 := by rw [hM]; exact (HONE.out u huq').2 hu
        have t7 : ((M : Int) == 1) = true := by simp [m1]
        have HM := Lib.hid hM; have HU := Lib.hid hu; have M1 := Lib.hid m1
        clear hM hlt hu m1
        go_wp2_with (first
          | (go_at_call 13; rw [HU.out]; refine (HSTOP.out _ (by assumption)).mono ?_; rintro e w' ⟨rfl, hw⟩; rw [← HU.out]; have hk := below_next hk hw; have c1 := box_keep HB1.out l1 hk; have hT := HT.out.below hk; clear hw)
          | (go_at_call 18; refine (rpair_any _ _ _ _ _ _ _ _ _ HS.out (by omega) huq' (by omega) (by omega)).mono ?_; rintro e w' ⟨rfl, hw⟩; rw [Int.toNat_natCast, ← HM.out]; have hk := below_next hk hw; have c1 := box_keep HB1.out l1 hk; have hT := HT.out.below hk; clear hw))
        go_roundw
        case rel => exact ⟨u + 1, by unfold accts; rw [HU.out, if_neg (by omega), if_pos (by omega)]; rfl, by go_num, by omega, hk⟩
        case measure => simp [intOf]; omega
      · have m1 : M ≠ 1 := fun e => hu ((HONE.out u huq').1 (by rw [← hM]; exact e))
        obtain ⟨s, x, y, hU, hsec⟩ := HYES.out u huq' hu
        rw [← hM] at hU
        have t7 : ((M : Int) == 1) = false := by simp; omega
        have HM := Lib.hid hM; have HU := Lib.hid hu; have HSEC := Lib.hid hsec; have HX := Lib.hid hU
        clear hM hlt hu m1 hsec hU
        go_wp2_with (first
          | (go_at_call 13; refine (HSEC.out _ (by assumption)).mono ?_; rintro e w' ⟨rfl, hw⟩; have hk := below_next hk hw; have c1 := box_keep HB1.out l1 hk; have hT := HT.out.below hk; clear hw)
          | (go_at_call 18; refine (rpair_any _ _ _ _ _ _ _ _ _ HS.out (by omega) huq' (by omega) (by omega)).mono ?_; rintro e w' ⟨rfl, hw⟩; rw [Int.toNat_natCast, ← HM.out]; have hk := below_next hk hw; have c1 := box_keep HB1.out l1 hk; have hT := HT.out.below hk; clear hw))
        have hs1 := HX.out.s1; have hsq := HX.out.sq; have hxq := HX.out.xq; have hyq := HX.out.yq
        clear c1 hT t7
        have hk0 := hk
        go_loopw [21, 22] (fun vm vi wr => ∃ i : Nat, vm = .int .i64 (mny s x y i 0 0 : Nat) ∧ vi = .int .i64 i ∧ 1 ≤ i ∧ (i : Int) ≤ q ∧ Below W2.heap.size W2 wr) (fun _ vi _ => q.toNat - (intOf vi).toNat)
        case atStart => exact ⟨1, by unfold mny; rw [if_neg (by omega)]; rfl, rfl, by omega, by omega, hk0⟩
        case round =>
          clear hk hk0
          obtain ⟨i, rfl, rfl, hi1, hiq, hk⟩ := hrel
          by_cases hilt : (i : Int) = q
          · have t2 : decide ((i : Int) < q) = false := by simp; omega
            have hm : mny s x y i 0 0 = 1 := by unfold mny; rw [if_pos (by omega)]
            rw [hm]
            go_wp2
            go_roundw
            case rel => exact ⟨u + 1, by have e1 : accts u0 (u + 1) = accts u0 u + 1 := by (unfold accts; have := HU.out; split <;> split <;> omega)
                                         rw [e1]; go_num, by go_num, by omega, hk⟩
            case measure => simp [intOf]; omega
          · have t2 : decide ((i : Int) < q) = true := by simp; omega
            go_wp2
            have hk0 := hk
            go_loopw [21, 88] (fun vm vj wr => ∃ j : Nat, vm = .int .i64 (mny s x y i j 0 : Nat) ∧ vj = .int .i64 j ∧ (j : Int) ≤ q ∧ Below W2.heap.size W2 wr) (fun _ vj _ => q.toNat - (intOf vj).toNat)
            case atStart => exact ⟨0, rfl, rfl, by omega, hk0⟩
            case round =>
              clear hk hk0
              obtain ⟨j, rfl, rfl, hjq, hk⟩ := hrel
              by_cases hjlt : (j : Int) = q
              · have t3 : decide ((j : Int) < q) = false := by simp; omega
                have hm : mny s x y i j 0 = mny s x y (i + 1) 0 0 := by unfold mny; split <;> split <;> omega
                rw [hm]
                go_wp2
                go_roundw
                case rel => exact ⟨i + 1, rfl, by go_num, by omega, by omega, hk⟩
                case measure => simp [intOf]; omega
              · have t3 : decide ((j : Int) < q) = true := by simp; omega
                go_wp2
                have hk0 := hk
                go_loopw [21, 92] (fun vm vl wr => ∃ l : Nat, vm = .int .i64 (mny s x y i j l : Nat) ∧ vl = .int .i64 l ∧ (l : Int) ≤ q ∧ Below W2.heap.size W2 wr) (fun _ vl _ => q.toNat - (intOf vl).toNat)
                case atStart => exact ⟨0, rfl, rfl, by omega, hk0⟩
                case round =>
                  clear hk hk0
                  obtain ⟨l, rfl, rfl, hlq, hk⟩ := hrel
                  by_cases hllt : (l : Int) = q
                  · have t4 : decide ((l : Int) < q) = false := by simp; omega
                    have hm : mny s x y i j l = mny s x y i (j + 1) 0 := by unfold mny; split <;> split <;> omega
                    rw [hm]
                    go_wp2
                    go_roundw
                    case rel => exact ⟨j + 1, rfl, by go_num, by omega, hk⟩
                    case measure => simp [intOf]; omega
                  · have t4 : decide ((l : Int) < q) = true := by simp; omega
                    have c1 := box_keep HB1.out l1 hk
                    have hiq' : (i : Int) < q := by omega
                    have hjq' : (j : Int) < q := by omega
                    have hlq' : (l : Int) < q := by omega
                    obtain ⟨R, hR⟩ : ∃ R, R = M ^ i % p.toNat := ⟨_, rfl⟩
                    have hPW : (M : Int).toNat ^ ((i : Int) % q).toNat % p.toNat = R := by rw [Int.emod_eq_of_lt (by omega) hiq', Int.toNat_natCast, Int.toNat_natCast, hR]
                    have kR := HX.out.pw i hiq'
                    rw [← hR] at kR
                    obtain ⟨LF, hLF⟩ : ∃ LF, LF = pairN p.toNat g1.toNat g2.toNat j l := ⟨_, rfl⟩
                    have b1 : 0 ≤ d * (u : Int) := Int.mul_nonneg d0 (by omega)
                    have b2 : d * (u : Int) ≤ 11 * 11 := Int.mul_le_mul (by omega) (by omega) (by omega) (by omega)
                    have b3 : 0 ≤ d * (u : Int) * (i : Int) := Int.mul_nonneg b1 (by omega)
                    have b4 : d * (u : Int) * (i : Int) ≤ 121 * 11 := Int.mul_le_mul (by omega) (by omega) (by omega) (by omega)
                    have b5 : 0 ≤ d * (i : Int) := Int.mul_nonneg d0 (by omega)
                    have b6 : d * (i : Int) ≤ 11 * 11 := Int.mul_le_mul (by omega) (by omega) (by omega) (by omega)
                    have v1 : IntKind.i64.wrap (d * (u : Int)) = d * (u : Int) := by rw [IntKind.wrap_i64]; omega
                    have v2 : IntKind.i64.wrap (d * (u : Int) * (i : Int)) = d * (u : Int) * (i : Int) := by rw [IntKind.wrap_i64]; omega
                    have v3 : IntKind.i64.wrap (d * (u : Int) * (i : Int) + (j : Int)) = d * (u : Int) * (i : Int) + (j : Int) := by rw [IntKind.wrap_i64]; omega
                    have v4 : IntKind.i64.wrap (d * (u : Int) * (i : Int) + (j : Int) - r1) = d * (u : Int) * (i : Int) + (j : Int) - r1 := by rw [IntKind.wrap_i64]; omega
                    have v5 : IntKind.i64.wrap (d * (i : Int)) = d * (i : Int) := by rw [IntKind.wrap_i64]; omega
                    have v6 : IntKind.i64.wrap (d * (i : Int) + (l : Int)) = d * (i : Int) + (l : Int) := by rw [IntKind.wrap_i64]; omega
                    have v7 : IntKind.i64.wrap (d * (i : Int) + (l : Int) - r2) = d * (i : Int) + (l : Int) - r2 := by rw [IntKind.wrap_i64]; omega
                    have u1 : wrap64 (d * (u : Int)) = d * (u : Int) := by unfold wrap64; omega
                    have u2 : wrap64 (d * (u : Int) * (i : Int)) = d * (u : Int) * (i : Int) := by unfold wrap64; omega
                    have u3 : wrap64 (d * (u : Int) * (i : Int) + (j : Int)) = d * (u : Int) * (i : Int) + (j : Int) := by unfold wrap64; omega
                    have u4 : wrap64 (d * (u : Int) * (i : Int) + (j : Int) - r1) = d * (u : Int) * (i : Int) + (j : Int) - r1 := by unfold wrap64; omega
                    have u5 : wrap64 (d * (i : Int)) = d * (i : Int) := by unfold wrap64; omega
                    have u6 : wrap64 (d * (i : Int) + (l : Int)) = d * (i : Int) + (l : Int) := by unfold wrap64; omega
                    have u7 : wrap64 (d * (i : Int) + (l : Int) - r2) = d * (i : Int) + (l : Int) - r2 := by unfold wrap64; omega
                    obtain ⟨E1, hE1⟩ : ∃ E1, E1 = (d * (u : Int) * (i : Int) + (j : Int) - r1) % q := ⟨_, rfl⟩
                    obtain ⟨E2, hE2⟩ : ∃ E2, E2 = (d * (i : Int) + (l : Int) - r2) % q := ⟨_, rfl⟩
                    have kE1 : i = s → (E1 = 0 ↔ j = x) := fun e => by rw [hE1, e]; exact HX.out.a1 j hjq'
                    have kE2 : i = s → (E2 = 0 ↔ l = y) := fun e => by rw [hE2, e]; exact HX.out.a2 l hlq'
                    have kLF : j = x → l = y → LF = leaf.toNat := fun e e' => by rw [hLF, e, e']; exact HX.out.pr
                    have hlf := mem_pos HL.out.lf
                    have hps := mem_pos HL.out.ps
                    have HPW := Lib.hid hPW; have HLF := Lib.hid hLF; have HR1 := Lib.hid hE1; have HR2 := Lib.hid hE2
                    clear hR hPW hLF hE1 hE2 b1 b2 b3 b4 b5 b6
                    by_cases n1 : i = s
                    · have e1 := kR.2 n1
                      have t5 : ((R : Int) == ps) = true := by simp; omega
                      by_cases n2 : LF = leaf.toNat
                      · have t6 : ((LF : Int) == leaf) = true := by simp; omega
                        by_cases n3 : j = x
                        · have e3 := (kE1 n1).2 n3
                          have t7 : (E1 == 0) = true := by simp [e3]
                          by_cases n4 : l = y
                          · have e4 := (kE2 n1).2 n4
                            have t9 : (E2 == 0) = true := by simp [e4]
                            have hm : mny s x y i j l = 0 := by unfold mny; rw [if_neg (by omega)]
                            have hm2 : mny s x y i j (l + 1) = 1 := by unfold mny; rw [if_pos (by omega)]
                            have z1 : ((i : Int) != (s : Int)) = false := by simp; omega
                            have z2 : ((j : Int) != (x : Int)) = false := by simp; omega
                            have z3 : ((l : Int) != (y : Int)) = false := by simp; omega
                            rw [hm]
                            have HM2 := Lib.hid hm2
                            clear hm hm2 n1 n2 n3 n4 e1 e3 e4 kR kE1 kE2 kLF hlf hps
                            go_wp2_with (first
                              | (go_at_call 19; refine (rgpow_any _ _ _ _ _ _ HS.out.G (by omega) hMp).mono ?_; rintro e w' ⟨rfl, hw⟩; rw [HPW.out]; have hk := below_next hk hw; have c1 := box_keep HB1.out l1 hk; clear hw)
                              | (go_at_call 18; refine (rpair_any _ _ _ _ _ _ _ _ _ HS.out (by omega) hjq' (by omega) hlq').mono ?_; rintro e w' ⟨rfl, hw⟩; rw [Int.toNat_natCast, Int.toNat_natCast, ← HLF.out]; have hk := below_next hk hw; have c1 := box_keep HB1.out l1 hk; clear hw)
                              | (go_at_call 21; refine (rreduce_z _ _ (by omega) (by omega) _).mono ?_; rintro e w' ⟨rfl, hw⟩; (first | rw [← HR1.out] | rw [← HR2.out]); have hk := below_next hk hw.below; have c1 := box_keep HB1.out l1 hk; clear hw))
                            go_roundw
                            case rel => exact ⟨l + 1, by rw [HM2.out]; rfl, by go_num, by omega, hk⟩
                            case measure => simp [intOf]; omega
                          · have t9 : (E2 == 0) = false := by simp; exact fun e => n4 ((kE2 n1).1 e)
                            have hm : mny s x y i j (l + 1) = mny s x y i j l := by unfold mny; split <;> split <;> omega
                            have HMN := Lib.hid hm
                            clear hm n1 n2 n3 n4 e1 e3 kR kE1 kE2 kLF hlf hps
                            go_wp2_with (first
                              | (go_at_call 19; refine (rgpow_any _ _ _ _ _ _ HS.out.G (by omega) hMp).mono ?_; rintro e w' ⟨rfl, hw⟩; rw [HPW.out]; have hk := below_next hk hw; have c1 := box_keep HB1.out l1 hk; clear hw)
                              | (go_at_call 18; refine (rpair_any _ _ _ _ _ _ _ _ _ HS.out (by omega) hjq' (by omega) hlq').mono ?_; rintro e w' ⟨rfl, hw⟩; rw [Int.toNat_natCast, Int.toNat_natCast, ← HLF.out]; have hk := below_next hk hw; have c1 := box_keep HB1.out l1 hk; clear hw)
                              | (go_at_call 21; refine (rreduce_z _ _ (by omega) (by omega) _).mono ?_; rintro e w' ⟨rfl, hw⟩; (first | rw [← HR1.out] | rw [← HR2.out]); have hk := below_next hk hw.below; have c1 := box_keep HB1.out l1 hk; clear hw))
                            go_roundw
                            case rel => exact ⟨l + 1, by rw [HMN.out], by go_num, by omega, hk⟩
                            case measure => simp [intOf]; omega
                        · have t7 : (E1 == 0) = false := by simp; exact fun e => n3 ((kE1 n1).1 e)
                          have hm : mny s x y i j (l + 1) = mny s x y i j l := by unfold mny; split <;> split <;> omega
                          have HMN := Lib.hid hm
                          clear hm n1 n2 n3 e1 kR kE1 kE2 kLF hlf hps
                          go_wp2_with (first
                            | (go_at_call 19; refine (rgpow_any _ _ _ _ _ _ HS.out.G (by omega) hMp).mono ?_; rintro e w' ⟨rfl, hw⟩; rw [HPW.out]; have hk := below_next hk hw; have c1 := box_keep HB1.out l1 hk; clear hw)
                            | (go_at_call 18; refine (rpair_any _ _ _ _ _ _ _ _ _ HS.out (by omega) hjq' (by omega) hlq').mono ?_; rintro e w' ⟨rfl, hw⟩; rw [Int.toNat_natCast, Int.toNat_natCast, ← HLF.out]; have hk := below_next hk hw; have c1 := box_keep HB1.out l1 hk; clear hw)
                            | (go_at_call 21; refine (rreduce_z _ _ (by omega) (by omega) _).mono ?_; rintro e w' ⟨rfl, hw⟩; (first | rw [← HR1.out] | rw [← HR2.out]); have hk := below_next hk hw.below; have c1 := box_keep HB1.out l1 hk; clear hw))
                          go_roundw
                          case rel => exact ⟨l + 1, by rw [HMN.out], by go_num, by omega, hk⟩
                          case measure => simp [intOf]; omega
                      · have t6 : ((LF : Int) == leaf) = false := by simp; omega
                        have n5 : ¬ (j = x ∧ l = y) := fun e => n2 (kLF e.1 e.2)
                        have hm : mny s x y i j (l + 1) = mny s x y i j l := by unfold mny; split <;> split <;> omega
                        have HMN := Lib.hid hm
                        clear hm n1 n2 n5 e1 kR kE1 kE2 kLF hlf hps
                        go_wp2_with (first
                          | (go_at_call 19; refine (rgpow_any _ _ _ _ _ _ HS.out.G (by omega) hMp).mono ?_; rintro e w' ⟨rfl, hw⟩; rw [HPW.out]; have hk := below_next hk hw; have c1 := box_keep HB1.out l1 hk; clear hw)
                          | (go_at_call 18; refine (rpair_any _ _ _ _ _ _ _ _ _ HS.out (by omega) hjq' (by omega) hlq').mono ?_; rintro e w' ⟨rfl, hw⟩; rw [Int.toNat_natCast, Int.toNat_natCast, ← HLF.out]; have hk := below_next hk hw; have c1 := box_keep HB1.out l1 hk; clear hw)
                          | (go_at_call 21; refine (rreduce_z _ _ (by omega) (by omega) _).mono ?_; rintro e w' ⟨rfl, hw⟩; (first | rw [← HR1.out] | rw [← HR2.out]); have hk := below_next hk hw.below; have c1 := box_keep HB1.out l1 hk; clear hw))
                        go_roundw
                        case rel => exact ⟨l + 1, by rw [HMN.out], by go_num, by omega, hk⟩
                        case measure => simp [intOf]; omega
                    · have t5 : ((R : Int) == ps) = false := by
                        have : R ≠ ps.toNat := fun e => n1 (kR.1 e)
                        simp; omega
                      have hm : mny s x y i j (l + 1) = mny s x y i j l := by unfold mny; split <;> split <;> omega
                      have HMN := Lib.hid hm
                      clear hm n1 kR kE1 kE2 kLF hlf hps
                      go_wp2_with (first
                        | (go_at_call 19; refine (rgpow_any _ _ _ _ _ _ HS.out.G (by omega) hMp).mono ?_; rintro e w' ⟨rfl, hw⟩; rw [HPW.out]; have hk := below_next hk hw; have c1 := box_keep HB1.out l1 hk; clear hw)
                        | (go_at_call 18; refine (rpair_any _ _ _ _ _ _ _ _ _ HS.out (by omega) hjq' (by omega) hlq').mono ?_; rintro e w' ⟨rfl, hw⟩; rw [Int.toNat_natCast, Int.toNat_natCast, ← HLF.out]; have hk := below_next hk hw; have c1 := box_keep HB1.out l1 hk; clear hw)
                        | (go_at_call 21; refine (rreduce_z _ _ (by omega) (by omega) _).mono ?_; rintro e w' ⟨rfl, hw⟩; (first | rw [← HR1.out] | rw [← HR2.out]); have hk := below_next hk hw.below; have c1 := box_keep HB1.out l1 hk; clear hw))
                      go_roundw
                      case rel => exact ⟨l + 1, by rw [HMN.out], by go_num, by omega, hk⟩
                      case measure => simp [intOf]; omega
end Go.Proofs.YtogbdnecpdcmiaaDoor
/-
  The law UnlinkAnybody returns true for all arguments.
-/
namespace Go.Proofs.YtogbdnecpdcmiaaDoor
open Go Go.RowKit
set_option maxRecDepth 100000 in
set_option maxHeartbeats 4000000 in
/-- where nothing is asked -/
theorem lawa_quit (p q g g1 g2 h ps leaf d r1 r2 : Int) (w : World) (hT : Tabs w)
    (hc : leafE p q g g1 g2 h ps leaf d r1 r2 ≠ 0 ∨ (leafE p q g g1 g2 h ps leaf d r1 r2 = 0 ∧ 11 < q) ∨ (leafE p q g g1 g2 h ps leaf d r1 r2 = 0 ∧ q ≤ 11 ∧ BSpec p q g g1 g2 h ∧ LeafOK p q ps leaf d r1 r2 ∧ rspentB p g1 g2 ps leaf d r1 r2 = false)) :
    Calls Tryd.prog 4 #[bV p q g g1 g2 h, .int .i64 ps, .int .i64 leaf, .int .i64 d, .int .i64 r1, .int .i64 r2] w (Ret (.bool true) w) := by
  obtain ⟨E, hE⟩ : ∃ E, E = leafE p q g g1 g2 h ps leaf d r1 r2 := ⟨_, rfl⟩
  rw [← hE] at hc
  have HLE := Lib.hid hE
  clear hE
  obtain ⟨W2, hW2, hB1, l1, hb⟩ := one_box w #[.int .i64 p, .int .i64 q, .int .i64 g, .int .i64 g1, .int .i64 g2, .int .i64 h] 25
  have hT2 : Tabs W2 := by rw [hW2]; exact hT.alloc _
  clear hT
  go_enter Tryd.func4, Tryd.ntmps4
  go_upto_region 1 with (fail)
  rw [← hW2]
  obtain ⟨B1, hB1'⟩ : ∃ B, B = w.heap.size := ⟨_, rfl⟩
  rw [← hB1'] at hB1 l1 ⊢
  have hk : Below W2.heap.size W2 W2 := Below.refl _ _
  have c1 := hB1
  have HB1 := Lib.hid hB1; have HT := Lib.hid hT2; have hT := hT2
  clear hW2 hB1' hB1 hT2
  rcases hc with h0 | ⟨h0, h1⟩ | ⟨h0, h1, hS, hL, hsp⟩
  · have t1 : (E == 0) = false := by simp; exact h0
    have t2 : (E != 0) = true := by simp; exact h0
    clear h0
    go_wp2_with (first
      | (go_at_call 12; refine (awake_any _ (by assumption)).mono ?_; rintro e w' ⟨rfl, hw⟩; have hk := below_next hk hw; have c1 := box_keep HB1.out l1 hk; have hT := HT.out.below hk; clear hw)
      | (go_at_call 15; refine (rleaf_any _ _ _ _ _ _ _ _ _ _ _ _).mono ?_; rintro e w' ⟨rfl, hw⟩; rw [← HLE.out]; have hk := below_next hk hw; have c1 := box_keep HB1.out l1 hk; have hT := HT.out.below hk; clear hw))
    go_ret
    exact ret_of rfl (below_next hb hk)
  · subst h0
    have t3 : decide (11 < q) = true := by simp; exact h1
    clear h1
    go_wp2_with (first
      | (go_at_call 12; refine (awake_any _ (by assumption)).mono ?_; rintro e w' ⟨rfl, hw⟩; have hk := below_next hk hw; have c1 := box_keep HB1.out l1 hk; have hT := HT.out.below hk; clear hw)
      | (go_at_call 15; refine (rleaf_any _ _ _ _ _ _ _ _ _ _ _ _).mono ?_; rintro e w' ⟨rfl, hw⟩; rw [← HLE.out]; have hk := below_next hk hw; have c1 := box_keep HB1.out l1 hk; have hT := HT.out.below hk; clear hw))
    go_ret
    exact ret_of rfl (below_next hb hk)
  · subst h0
    have t3 : decide (11 < q) = false := by simp; omega
    have HS := Lib.hid hS; have HL := Lib.hid hL; have HSP := Lib.hid hsp
    clear h1 hS hL hsp
    go_wp2_with (first
      | (go_at_call 12; refine (awake_any _ (by assumption)).mono ?_; rintro e w' ⟨rfl, hw⟩; have hk := below_next hk hw; have c1 := box_keep HB1.out l1 hk; have hT := HT.out.below hk; clear hw)
      | (go_at_call 15; refine (rleaf_any _ _ _ _ _ _ _ _ _ _ _ _).mono ?_; rintro e w' ⟨rfl, hw⟩; rw [← HLE.out]; have hk := below_next hk hw; have c1 := box_keep HB1.out l1 hk; have hT := HT.out.below hk; clear hw)
      | (go_at_call 16; refine (rspent_any _ _ _ _ _ _ _ _ _ _ _ _ HS.out HL.out).mono ?_; rintro e w' ⟨rfl, hw⟩; rw [HSP.out]; have hk := below_next hk hw; have c1 := box_keep HB1.out l1 hk; have hT := HT.out.below hk; clear hw))
    go_ret
    exact ret_of rfl (below_next hb hk)
/-- the scalar whose message is 1 -/
theorem one_scalar {p q g g1 g2 h : Int} (hS : BSpec p q g g1 g2 h) : ∃ u0 : Nat, (u0 : Int) < q ∧ ∀ u : Nat, (u : Int) < q → (pairN p.toNat g1.toNat g2.toNat u (Int.toNat 1) = 1 ↔ u = u0) := by
  have p3 := hS.G.p3; have q3 := hS.G.q3
  obtain ⟨a1, ap, ae⟩ := memB_true.1 hS.m1
  obtain ⟨b1, bp, be⟩ := memB_true.1 hS.m2
  have hp := hS.G.pmp
  have hy : memB p q ((g2.toNat ^ (q.toNat - 1) % p.toNat : Nat) : Int) = true := mem_of_pow p3 (pow_one_pow (by omega) be _) (by omega)
  obtain ⟨u0, hL⟩ := hS.G.log hS.m1 hS.n1 hy
  rw [Int.toNat_natCast] at hL
  have hC := hS.G.cyc hS.m1 hS.n1
  have h1 : pairN p.toNat g1.toNat g2.toNat u0 (Int.toNat 1) = 1 := by
    rw [pair_one (by omega), hL.eq, Nat.mod_mul_mod, ← Nat.pow_succ, show (q.toNat - 1).succ = q.toNat by omega]
    exact be
  have hl := hL.lt
  refine ⟨u0, by omega, fun u hu => ⟨fun e => ?_, fun e => by rw [e]; exact h1⟩⟩
  rw [pair_one (by omega), Nat.mod_mul_mod] at e h1
  have hnd : ¬ Mr.C p.toNat (g2.toNat : Int) 0 := fun h5 => by
    have := Nat.le_of_dvd (by omega) (Mr.C.zero_iff.1 h5); omega
  have h6 : Mr.C p.toNat (((g1.toNat ^ u : Nat) : Int) * (g2.toNat : Int)) (((g1.toNat ^ u0 : Nat) : Int) * (g2.toNat : Int)) := by
    rw [← Int.natCast_mul, ← Int.natCast_mul]
    exact Mr.C.nat_iff.2 (by rw [e, h1])
  have h7 := hC.inj _ _ (Mr.C.nat_iff.1 (h6.cancel hp hnd))
  rwa [Nat.mod_eq_of_lt (by omega), Nat.mod_eq_of_lt hl] at h7
theorem zero_iff_sub {q a b : Int} {x : Nat} {j : Nat} (hq : 0 < q) (hx : (x : Int) = (b - a) % q) (hj : (j : Int) < q) : (a + (j : Int) - b) % q = 0 ↔ j = x := by
  have hx0 := Int.emod_lt_of_pos (b - a) hq
  constructor
  · intro h
    have h1 : ((b - a) + (a + (j : Int) - b)) % q = (b - a) % q := by
      rw [Int.add_emod, h, Int.add_zero, Int.emod_emod]
    rw [show (b - a) + (a + (j : Int) - b) = (j : Int) by omega, Int.emod_eq_of_lt (by omega) hj] at h1
    omega
  · rintro rfl
    rw [hx]
    have h1 : (a + (b - a) % q - b) % q = (a + (b - a) - b) % q := by
      rw [Int.sub_emod, Int.add_emod, Int.emod_emod, ← Int.add_emod, ← Int.sub_emod]
    rw [h1, show a + (b - a) - b = 0 by omega]
    exact Int.zero_emod _
theorem lawA_any (p q g g1 g2 h ps leaf d r1 r2 : Int) (w : World) (hp : -9223372036854775808 ≤ p) (hp2 : p ≤ 9223372036854775807) (hq : -9223372036854775808 ≤ q) (hq2 : q ≤ 9223372036854775807) (hT : Tabs w) :
    Calls Tryd.prog 4 #[bV p q g g1 g2 h, .int .i64 ps, .int .i64 leaf, .int .i64 d, .int .i64 r1, .int .i64 r2] w (Ret (.bool true) w) := by
  cases c0 : bvalB p q g g1 g2 h
  · exact lawa_quit p q g g1 g2 h ps leaf d r1 r2 w hT (Or.inl (by rw [leafE_arg c0]; decide))
  · by_cases hL : LeafOK p q ps leaf d r1 r2
    · have hS := bvalB_true.1 c0
      by_cases hbig : 11 < q
      · exact lawa_quit p q g g1 g2 h ps leaf d r1 r2 w hT (Or.inr (Or.inl ⟨leafE_ok c0 hL, hbig⟩))
      · by_cases hsp : spentP p.toNat g1.toNat g2.toNat ps.toNat leaf.toNat d.toNat r1.toNat r2.toNat
        · have e1 : spentE p q g g1 g2 h ps leaf d r1 r2 = 0 := spentE_ok c0 hL hsp
          have hrs : rspentB p g1 g2 ps leaf d r1 r2 = true := rspentB_true.2 hsp
          have hopn := fun w hT => openings_any p q g g1 g2 h ps leaf d r1 r2 w hp hp2 hq hq2 hT
          rw [e1] at hopn
          have p3 := hS.G.p3; have pm := hS.G.pm; have q3 := hS.G.q3; have hqp := hS.G.qp
          obtain ⟨b1, bp⟩ := mem_pos hS.m2
          obtain ⟨d0, dq⟩ := scB_true.1 hL.d
          obtain ⟨u0, hu0, hone⟩ := one_scalar hS
          have em : ∀ u : Nat, pairN p.toNat g1.toNat g2.toNat u (Int.toNat 1) = (g1.toNat ^ u % p.toNat) * g2.toNat % p.toNat := fun u => pair_one (by omega)
          refine lawa_walk p q g g1 g2 h ps leaf d r1 r2 u0 w hT hS hL hrs (by omega) awake_any hopn hu0 hone (fun w hT => ?_) (fun u huq hu => ?_)
          · exact secrets_stop p q g g1 g2 h ps leaf d r1 r2 u0 10 w hS hL hsp (scB_true.2 ⟨by omega, hu0⟩) hT (Or.inl ⟨by rw [Int.toNat_natCast, ← em]; exact (hone u0 hu0).2 rfl, rfl⟩)
          · have m1 : (g1.toNat ^ u % p.toNat) * g2.toNat % p.toNat ≠ 1 := fun e => hu ((hone u huq).1 (by rw [em]; exact e))
            have sc : scB q (u : Int) = true := scB_true.2 ⟨by omega, huq⟩
            have hmm := msg_mem (u := (u : Int)) hS
            rw [Int.toNat_natCast] at hmm
            have hC := hS.G.cyc hmm (by omega)
            obtain ⟨s, hLN⟩ := hS.G.log hmm (by omega) hL.ps
            rw [Int.toNat_natCast] at hC hLN
            have hsec := fun w hT => secrets_yes p q g g1 g2 h ps leaf d r1 r2 u s w hS hL hsp sc hT (by rw [Int.toNat_natCast]; exact m1) (by omega) (by rw [Int.toNat_natCast]; exact hC) (by rw [Int.toNat_natCast]; exact hLN)
            obtain ⟨psa, psb, psc⟩ := memB_true.1 hL.ps
            obtain ⟨lfa, lfb, _⟩ := memB_true.1 hL.lf
            obtain ⟨r1a, r1b⟩ := scB_true.1 hL.r1
            obtain ⟨r2a, r2b⟩ := scB_true.1 hL.r2
            have hsq := hLN.lt
            have x0 := Int.emod_nonneg (r1 - ((d.toNat * s % q.toNat * (u : Int).toNat % q.toNat : Nat) : Int)) (show q ≠ 0 by omega)
            have x1 := Int.emod_lt_of_pos (r1 - ((d.toNat * s % q.toNat * (u : Int).toNat % q.toNat : Nat) : Int)) (show 0 < q by omega)
            have y0 := Int.emod_nonneg (r2 - ((d.toNat * s % q.toNat : Nat) : Int)) (show q ≠ 0 by omega)
            have y1 := Int.emod_lt_of_pos (r2 - ((d.toNat * s % q.toNat : Nat) : Int)) (show 0 < q by omega)
            obtain ⟨x, hx⟩ : ∃ x : Nat, (x : Int) = (r1 - ((d.toNat * s % q.toNat * (u : Int).toNat % q.toNat : Nat) : Int)) % q := ⟨_, Int.toNat_of_nonneg x0⟩
            obtain ⟨y, hy⟩ : ∃ y : Nat, (y : Int) = (r2 - ((d.toNat * s % q.toNat : Nat) : Int)) % q := ⟨_, Int.toNat_of_nonneg y0⟩
            rw [← hx, ← hy] at hsec
            have ed : ((d.toNat : Nat) : Int) = d := by omega
            have eq' : ((q.toNat : Nat) : Int) = q := by omega
            have kx : (x : Int) = (r1 - d * (u : Int) * (s : Int)) % q := by
              rw [hx, Int.toNat_natCast, Int.sub_emod, Int.sub_emod r1 (d * (u : Int) * (s : Int))]
              congr 2
              rw [Nat.mod_mul_mod, Int.natCast_emod, Int.natCast_mul, Int.natCast_mul, ed, eq', Int.emod_emod, Int.mul_assoc, Int.mul_assoc, Int.mul_comm (s : Int)]
            have ky : (y : Int) = (r2 - d * (s : Int)) % q := by
              rw [hy, Int.sub_emod, Int.sub_emod r2 (d * (s : Int))]
              congr 2
              rw [Int.natCast_emod, Int.natCast_mul, ed, eq', Int.emod_emod]
            refine ⟨s, x, y, ⟨?_, by omega, by omega, by omega, fun i hi => ?_, ?_, fun j hj => zero_iff_sub (by omega) kx hj, fun l hl => zero_iff_sub (by omega) ky hl⟩, hsec⟩
            · rcases Nat.eq_zero_or_pos s with h0 | h0
              · exfalso
                have h1 := hLN.eq
                rw [h0, Nat.pow_zero, Nat.mod_eq_of_lt (by omega)] at h1
                exact hL.n (by omega)
              · exact h0
            · rw [em]
              exact ⟨fun e => LogN.unique hC ⟨by omega, e⟩ hLN, fun e => by rw [e]; exact hLN.eq⟩
            · refine leaf_of (q := q.toNat) (s := s) (d := d.toNat) (u := u) (r1 := r1.toNat) (r2 := r2.toNat) (ps := ps.toNat) hS.G.pmp (memB_true.1 hS.m1).2.2 (memB_true.1 hS.m2).2.2 hLN.eq (fun hd => ?_) (by omega) hsp ?_ ?_
              · have := Nat.le_of_dvd (by omega) hd; omega
              · refine sub_cong (q := q) (x := (x : Int)) (by omega) (Int.toNat_natCast x).symm r1a ?_
                rw [hx, Int.toNat_natCast]
              · exact sub_cong (q := q) (x := (y : Int)) (by omega) (Int.toNat_natCast y).symm r2a hy
        · have hrs : rspentB p g1 g2 ps leaf d r1 r2 = false := by
            cases hh : rspentB p g1 g2 ps leaf d r1 r2
            · rfl
            · exact absurd (rspentB_true.1 hh) hsp
          exact lawa_quit p q g g1 g2 h ps leaf d r1 r2 w hT (Or.inr (Or.inr ⟨leafE_ok c0 hL, by omega, hS, hL, hrs⟩))
    · exact lawa_quit p q g g1 g2 h ps leaf d r1 r2 w hT (Or.inl (by rw [leafE_range c0 hL]; decide))
end Go.Proofs.YtogbdnecpdcmiaaDoor

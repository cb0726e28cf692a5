/- A number below 2^61 that passes the strong test to the bases 2 to 37 is a prime. -/
import Derived.Test.YtogbdnecpdcmiabDoorMrR0
import Derived.Test.YtogbdnecpdcmiabDoorMrR1
import Derived.Test.YtogbdnecpdcmiabDoorMrQ0
import Derived.Test.YtogbdnecpdcmiabDoorMrQ1
import Derived.Test.YtogbdnecpdcmiabDoorMrT0
import Derived.Test.YtogbdnecpdcmiabDoorMrT1
import Derived.Test.YtogbdnecpdcmiabDoorMrT2
import Derived.Test.YtogbdnecpdcmiabDoorMrT3
import Derived.Test.YtogbdnecpdcmiabDoorMrT4
import Derived.Test.YtogbdnecpdcmiabDoorMrT5
import Derived.Test.YtogbdnecpdcmiabDoorMrT6
import Derived.Test.YtogbdnecpdcmiabDoorMrT7
import Derived.Test.YtogbdnecpdcmiabDoorMrN0
import Derived.Test.YtogbdnecpdcmiabDoorMrN1
import Derived.Test.YtogbdnecpdcmiabDoorMrN2
import Derived.Test.YtogbdnecpdcmiabDoorMrN3
/- The rows joined. -/
namespace Go.Proofs.YtogbdnecpdcmiabDoor.Mr
theorem covs_all : Covs covt := by
  have h := rows0.append (rows1.append (rows2.append (rows3.append (rows4.append (rows5.append (rows6.append rows7))))))
  have e : (covt.drop 0).take 12 ++ ((covt.drop 12).take 10 ++ ((covt.drop 22).take 8 ++ ((covt.drop 30).take 9 ++ ((covt.drop 39).take 10 ++ ((covt.drop 49).take 16 ++ ((covt.drop 65).take 36 ++ (covt.drop 101).take 207)))))) = covt := by decide +kernel
  rw [← e]; exact h
theorem wdone_all : Wdone 0 45000000 := by
  have h := wrows0.app wrows1
  exact fun m h1 h2 => h m h1 (by omega)
/-- No strong pseudoprime below 2^61 is a product of two primes. -/
theorem no_two {n s d p q : Nat} (H : Hyp n s d) (hp : Pm p) (hq : Pm q) (hn : n = p * q) (hlt : n < NN) : False := by
  rcases Nat.lt_trichotomy p q with h | h | h
  · obtain ⟨g, x, y, hx, hy, hc, ip, iq⟩ := two_primes H hp hq hn
    have hxy : x < y := by
      rcases Nat.lt_or_ge x y with h1 | h1
      · exact h1
      · have := Nat.mul_le_mul_left g h1; have := ip.eq; have := iq.eq; omega
    rcases Nat.mod_two_eq_zero_or_one x with h2 | h2 <;> rcases Nat.mod_two_eq_zero_or_one y with h3 | h3
    · have := Nat.dvd_gcd (Nat.dvd_of_mod_eq_zero h2) (Nat.dvd_of_mod_eq_zero h3)
      rw [hc] at this; have := Nat.le_of_dvd (by decide) this; omega
    · exact caseB wdone_all H hn hlt ip iq hy hx h3 h2
    · exact caseB wdone_all H (by rw [hn, Nat.mul_comm]) hlt iq ip hx hy h2 h3
    · exact caseA covs_all H hn hlt ip iq hx hxy hc h2 h3
  · subst h
    exact no_square H hp (by have : NN = 2 ^ 61 := by decide
                             omega) ⟨1, by rw [hn, Nat.mul_one]⟩
  · obtain ⟨g, x, y, hx, hy, hc, iq, ip⟩ := two_primes H hq hp (by rw [hn, Nat.mul_comm])
    have hxy : x < y := by
      rcases Nat.lt_or_ge x y with h1 | h1
      · exact h1
      · have := Nat.mul_le_mul_left g h1; have := ip.eq; have := iq.eq; omega
    rcases Nat.mod_two_eq_zero_or_one x with h2 | h2 <;> rcases Nat.mod_two_eq_zero_or_one y with h3 | h3
    · have := Nat.dvd_gcd (Nat.dvd_of_mod_eq_zero h2) (Nat.dvd_of_mod_eq_zero h3)
      rw [hc] at this; have := Nat.le_of_dvd (by decide) this; omega
    · exact caseB wdone_all H (by rw [hn, Nat.mul_comm]) hlt iq ip hy hx h3 h2
    · exact caseB wdone_all H hn hlt ip iq hx hy h2 h3
    · exact caseA covs_all H (by rw [hn, Nat.mul_comm]) hlt iq ip hx hxy hc h2 h3
end Go.Proofs.YtogbdnecpdcmiabDoor.Mr
/- The sieves of the trivial signature: made by a program (genN.py). -/
set_option maxRecDepth 100000
namespace Go.Proofs.YtogbdnecpdcmiabDoor.Mr
theorem rt1a : rowT leaf1 0 8192 16 250 = true := by decide +kernel
theorem rt1b : rowT leaf1 0 8192 1 127219 = true := by decide +kernel
theorem rt3 : rowT leaf3 0 8192 4 135411 = true := by decide +kernel
theorem rt2a : rowT (leaf2 5) 5 262144 4 135411 = true := by decide +kernel
theorem rt2b : rowT (leaf2 0) 7 1048576 28 1048576 = true := by decide +kernel
end Go.Proofs.YtogbdnecpdcmiabDoor.Mr
/- The trees joined: made by a program (genN.py). -/
namespace Go.Proofs.YtogbdnecpdcmiabDoor.Mr
theorem tall3 (b1 b2 b3 b4 b5 : Bool) : treeB 3 7 1048576 5 sp3 sg3 ze3 [b1, b2, b3, b4, b5] = true :=
  match b1, b2, b3, b4, b5 with
  | true, true, true, true, true => tr3_0
  | true, true, true, true, false => tr3_1
  | true, true, true, false, true => tr3_2
  | true, true, true, false, false => tr3_3
  | true, true, false, true, true => tr3_4
  | true, true, false, true, false => tr3_5
  | true, true, false, false, true => tr3_6
  | true, true, false, false, false => tr3_7
  | true, false, true, true, true => tr3_8
  | true, false, true, true, false => tr3_9
  | true, false, true, false, true => tr3_10
  | true, false, true, false, false => tr3_11
  | true, false, false, true, true => tr3_12
  | true, false, false, true, false => tr3_13
  | true, false, false, false, true => tr3_14
  | true, false, false, false, false => tr3_15
  | false, true, true, true, true => tr3_16
  | false, true, true, true, false => tr3_17
  | false, true, true, false, true => tr3_18
  | false, true, true, false, false => tr3_19
  | false, true, false, true, true => tr3_20
  | false, true, false, true, false => tr3_21
  | false, true, false, false, true => tr3_22
  | false, true, false, false, false => tr3_23
  | false, false, true, true, true => tr3_24
  | false, false, true, true, false => tr3_25
  | false, false, true, false, true => tr3_26
  | false, false, true, false, false => tr3_27
  | false, false, false, true, true => tr3_28
  | false, false, false, true, false => tr3_29
  | false, false, false, false, true => tr3_30
  | false, false, false, false, false => tr3_31
theorem chkT3 {t1 t2 : Nat} (h12 : t1 < t2) (h2 : t2 < 1048576) (hp : Pm (3 + 8 * t1)) (hq : Pm (3 + 8 * t2))
    (hs : ∀ l ∈ odds, (3 + 8 * t1) % l ≠ 0 ∧ (3 + 8 * t2) % l ≠ 0 ∧ qr l (3 + 8 * t2) = qr l (3 + 8 * t1)) : Chk 3 (3 + 8 * t1) (3 + 8 * t2) :=
  treeB_sound (n := 7) (W := 1048576) (k := 5) (by decide) sg3_ok ze3_ok (by decide) h12 h2 hp hq hs (tall3 _ _ _ _ _)
theorem tall7 (b1 b2 b3 b4 b5 : Bool) : treeB 7 7 1048576 5 sp7 sg7 ze7 [b1, b2, b3, b4, b5] = true :=
  match b1, b2, b3, b4, b5 with
  | true, true, true, true, true => tr7_0
  | true, true, true, true, false => tr7_1
  | true, true, true, false, true => tr7_2
  | true, true, true, false, false => tr7_3
  | true, true, false, true, true => tr7_4
  | true, true, false, true, false => tr7_5
  | true, true, false, false, true => tr7_6
  | true, true, false, false, false => tr7_7
  | true, false, true, true, true => tr7_8
  | true, false, true, true, false => tr7_9
  | true, false, true, false, true => tr7_10
  | true, false, true, false, false => tr7_11
  | true, false, false, true, true => tr7_12
  | true, false, false, true, false => tr7_13
  | true, false, false, false, true => tr7_14
  | true, false, false, false, false => tr7_15
  | false, true, true, true, true => tr7_16
  | false, true, true, true, false => tr7_17
  | false, true, true, false, true => tr7_18
  | false, true, true, false, false => tr7_19
  | false, true, false, true, true => tr7_20
  | false, true, false, true, false => tr7_21
  | false, true, false, false, true => tr7_22
  | false, true, false, false, false => tr7_23
  | false, false, true, true, true => tr7_24
  | false, false, true, true, false => tr7_25
  | false, false, true, false, true => tr7_26
  | false, false, true, false, false => tr7_27
  | false, false, false, true, true => tr7_28
  | false, false, false, true, false => tr7_29
  | false, false, false, false, true => tr7_30
  | false, false, false, false, false => tr7_31
theorem chkT7 {t1 t2 : Nat} (h12 : t1 < t2) (h2 : t2 < 1048576) (hp : Pm (7 + 8 * t1)) (hq : Pm (7 + 8 * t2))
    (hs : ∀ l ∈ odds, (7 + 8 * t1) % l ≠ 0 ∧ (7 + 8 * t2) % l ≠ 0 ∧ qr l (7 + 8 * t2) = qr l (7 + 8 * t1)) : Chk 7 (7 + 8 * t1) (7 + 8 * t2) :=
  treeB_sound (n := 7) (W := 1048576) (k := 5) (by decide) sg7_ok ze7_ok (by decide) h12 h2 hp hq hs (tall7 _ _ _ _ _)
theorem tall5 (b1 b2 b3 b4 b5 : Bool) : treeB 5 7 1048576 5 sp5 sg5 ze5 [b1, b2, b3, b4, b5] = true :=
  match b1, b2, b3, b4, b5 with
  | true, true, true, true, true => tr5_0
  | true, true, true, true, false => tr5_1
  | true, true, true, false, true => tr5_2
  | true, true, true, false, false => tr5_3
  | true, true, false, true, true => tr5_4
  | true, true, false, true, false => tr5_5
  | true, true, false, false, true => tr5_6
  | true, true, false, false, false => tr5_7
  | true, false, true, true, true => tr5_8
  | true, false, true, true, false => tr5_9
  | true, false, true, false, true => tr5_10
  | true, false, true, false, false => tr5_11
  | true, false, false, true, true => tr5_12
  | true, false, false, true, false => tr5_13
  | true, false, false, false, true => tr5_14
  | true, false, false, false, false => tr5_15
  | false, true, true, true, true => tr5_16
  | false, true, true, true, false => tr5_17
  | false, true, true, false, true => tr5_18
  | false, true, true, false, false => tr5_19
  | false, true, false, true, true => tr5_20
  | false, true, false, true, false => tr5_21
  | false, true, false, false, true => tr5_22
  | false, true, false, false, false => tr5_23
  | false, false, true, true, true => tr5_24
  | false, false, true, true, false => tr5_25
  | false, false, true, false, true => tr5_26
  | false, false, true, false, false => tr5_27
  | false, false, false, true, true => tr5_28
  | false, false, false, true, false => tr5_29
  | false, false, false, false, true => tr5_30
  | false, false, false, false, false => tr5_31
theorem chkT5 {t1 t2 : Nat} (h12 : t1 < t2) (h2 : t2 < 1048576) (hp : Pm (5 + 8 * t1)) (hq : Pm (5 + 8 * t2))
    (hs : ∀ l ∈ odds, (5 + 8 * t1) % l ≠ 0 ∧ (5 + 8 * t2) % l ≠ 0 ∧ qr l (5 + 8 * t2) = qr l (5 + 8 * t1)) : Chk 5 (5 + 8 * t1) (5 + 8 * t2) :=
  treeB_sound (n := 7) (W := 1048576) (k := 5) (by decide) sg5_ok ze5_ok (by decide) h12 h2 hp hq hs (tall5 _ _ _ _ _)
theorem tall1 (b1 b2 b3 b4 b5 : Bool) : treeB 1 7 1048576 5 sp1 sg1 ze1 [b1, b2, b3, b4, b5] = true :=
  match b1, b2, b3, b4, b5 with
  | true, true, true, true, true => tr1_0
  | true, true, true, true, false => tr1_1
  | true, true, true, false, true => tr1_2
  | true, true, true, false, false => tr1_3
  | true, true, false, true, true => tr1_4
  | true, true, false, true, false => tr1_5
  | true, true, false, false, true => tr1_6
  | true, true, false, false, false => tr1_7
  | true, false, true, true, true => tr1_8
  | true, false, true, true, false => tr1_9
  | true, false, true, false, true => tr1_10
  | true, false, true, false, false => tr1_11
  | true, false, false, true, true => tr1_12
  | true, false, false, true, false => tr1_13
  | true, false, false, false, true => tr1_14
  | true, false, false, false, false => tr1_15
  | false, true, true, true, true => tr1_16
  | false, true, true, true, false => tr1_17
  | false, true, true, false, true => tr1_18
  | false, true, true, false, false => tr1_19
  | false, true, false, true, true => tr1_20
  | false, true, false, true, false => tr1_21
  | false, true, false, false, true => tr1_22
  | false, true, false, false, false => tr1_23
  | false, false, true, true, true => tr1_24
  | false, false, true, true, false => tr1_25
  | false, false, true, false, true => tr1_26
  | false, false, true, false, false => tr1_27
  | false, false, false, true, true => tr1_28
  | false, false, false, true, false => tr1_29
  | false, false, false, false, true => tr1_30
  | false, false, false, false, false => tr1_31
theorem chkT1 {t1 t2 : Nat} (h12 : t1 < t2) (h2 : t2 < 1048576) (hp : Pm (1 + 8 * t1)) (hq : Pm (1 + 8 * t2))
    (hs : ∀ l ∈ odds, (1 + 8 * t1) % l ≠ 0 ∧ (1 + 8 * t2) % l ≠ 0 ∧ qr l (1 + 8 * t2) = qr l (1 + 8 * t1)) : Chk 1 (1 + 8 * t1) (1 + 8 * t2) :=
  treeB_sound (n := 7) (W := 1048576) (k := 5) (by decide) sg1_ok ze1_ok (by decide) h12 h2 hp hq hs (tall1 _ _ _ _ _)
end Go.Proofs.YtogbdnecpdcmiabDoor.Mr
/- No strong pseudoprime to the bases 2 to 37 below 2^61. -/
namespace Go.Proofs.YtogbdnecpdcmiabDoor.Mr

theorem leaf1_done : TDone leaf1 250 135411 := by
  have a := rowT_sound (n := 0) 16 250 rt1a
  have b := rowT_sound (n := 0) 1 127219 rt1b
  exact a.app b (by decide)
theorem triv_2000 {v : Nat} (hv : Pm v) (hT : Triv v) : 2000 ≤ v := by
  rcases Nat.lt_or_ge v 2000 with h | h
  · exfalso
    have h8 := hT.1
    have h2 := hv.1
    have := List.all_eq_true.1 w_small (v / 8) (List.mem_range.2 (by omega))
    rw [show 1 + 8 * (v / 8) = v by omega] at this
    simp only [Bool.or_eq_true, beq_iff_eq] at this
    rcases this with (h3 | h3) | h3
    · omega
    · obtain ⟨l, hl, hl2⟩ := List.any_eq_true.1 h3
      rw [beq_iff_eq, (hT.2 l hl).2] at hl2; exact Bool.noConfusion hl2
    · obtain ⟨d, _, hd⟩ := List.any_eq_true.1 h3
      rw [Bool.and_eq_true, beq_iff_eq, ble_true] at hd
      rcases hv.2 _ (Nat.dvd_of_mod_eq_zero hd.1) with h4 | h4 <;> omega
  · exact h
theorem tg : TG := by
  intro v hv _ hT
  have h2 := triv_2000 hv hT
  have h8 := hT.1
  rcases Nat.lt_or_ge 1083288 v with h | h
  · exact h
  · exfalso
    have e : v = 1 + 8 * (v / 8) := by omega
    rw [e] at hv hT
    have := leaf1_done (v / 8) (by omega) (by omega) hv hT
    rw [← e] at this hv
    unfold leaf1 at this
    rw [gcd_kk hv h2] at this
    exact Bool.noConfusion this
theorem fermat2 {w : Nat} (hw : Pm w) (h41 : 41 ≤ w) (h2 : w % 2 = 1) : Nat.beq (pwa 2 w (Nat.sub w 1)) 1 = true := by
  rw [pwa_eq, pow_one_iff (by omega)]
  exact Ex.fermat hw h41 h2 2 (by decide)
theorem leaf2_sound {m q : Nat} (hq : Pm q) (h2000 : 2000 ≤ q) (h2 : q % 2 = 1) (h : leaf2 m q = true) : Lam q (lam q) ∧ trE (f2 q (lam q)) q m = true := by
  unfold leaf2 at h
  rw [gcd_kk hq h2000, bc_f rfl, fermat2 hq (by omega) h2, bc_t rfl, ba_true, ble_true] at h
  exact ⟨lam_sound hq (by omega) h2 h.1, h.2⟩
theorem leaf3_sound {p : Nat} (hp : Pm p) (h2000 : 2000 ≤ p) (h2 : p % 2 = 1) (h : leaf3 p = true) : Lam p (lam p) ∧ trE (f3 p (lam p)) p 5 = true := by
  unfold leaf3 at h
  rw [gcd_kk hp h2000, bc_f rfl, fermat2 hp (by omega) h2, bc_t rfl, ba_true, ble_true] at h
  exact ⟨lam_sound hp (by omega) h2 h.1, h.2⟩
theorem NN_val : NN = 2305843009213693952 := rfl
theorem Tri.bound {n s d p q r : Nat} (T : Tri n s d p q r) : p * (q * q) < NN := by
  have h1 := Nat.mul_le_mul_left (p * q) (Nat.le_of_lt T.qr)
  have h2 := T.lt
  have h3 := T.eq
  rw [Nat.mul_assoc] at h1
  omega
theorem f2_sound {n s d p q r : Nat} (T : Tri n s d p q r) (hq : Lam q (lam q)) (h : f2 q (lam q) p = true) : False := by
  have p41 := T.p41
  unfold f2 at h
  have h1 : Nat.ble p 40 = false := by rw [ble_false]; omega
  have h2 : Nat.ble q p = false := by rw [ble_false]; exact T.pq
  have h3 : Nat.ble NN (Nat.mul p (Nat.mul q q)) = false := by rw [ble_false]; exact T.bound
  rw [h1, bc_f rfl, h2, bc_f rfl, h3, bc_f rfl] at h
  rcases bc_cases (· = true) h with ⟨h4, _⟩ | ⟨_, h4⟩
  · rw [ba_true, ble_true] at h4
    rw [gcd_kk T.hp h4.1] at h4; exact Bool.noConfusion h4.2
  · rw [ba_true, ble_true] at h4
    exact pairX_sound T (lam_sound T.hp p41 (odd_of_dvd T.pn T.H.two) h4.1) (Or.inr hq) h4.2
theorem f3_sound {n s d p q r : Nat} (T : Tri n s d p q r) (h2000 : 2000 ≤ q) (hp : Lam p (lam p)) (h : f3 p (lam p) q = true) : False := by
  unfold f3 at h
  have h2 : Nat.ble q p = false := by rw [ble_false]; exact T.pq
  have h3 : Nat.ble NN (Nat.mul p (Nat.mul q q)) = false := by rw [ble_false]; exact T.bound
  rw [h2, bc_f rfl, h3, bc_f rfl, gcd_kk T.hq h2000, bc_f rfl] at h
  exact pairX_sound T hp (lam_sound0 T.hq (by omega) (odd_of_dvd T.qn T.H.two)) h
theorem chk_false {n s d p q r u t w c : Nat} (T : Tri n s d p q r) (hu : p - 1 = 2 ^ u * t) (ht : t % 2 = 1) (hv : q - 1 = 2 ^ u * w) (hw : w % 2 = 1)
    (hc : p % 8 = c) (hc2 : q % 8 = c) (h : Chk c p q) : False := by
  rcases h with h | h | ⟨h1, h2⟩
  · have := T.bound; omega
  · have := T.p41; omega
  · rcases lamr_sound T.hp T.p41 (odd_of_dvd T.pn T.H.two) hc with h3 | h3
    · omega
    · exact pairR_sound T h3 hu ht hv hw hc hc2 h2
theorem tri_false {n s d p q r : Nat} (T : Tri n s d p q r) : False := by
  have p41 := T.p41
  have hpq := T.pq
  have hb := T.bound
  have p2 := odd_of_dvd T.pn T.H.two
  have q2 := odd_of_dvd T.qn T.H.two
  have hNN := NN_val
  obtain ⟨u, t, hu, ht⟩ := two_part (p - 1) (by omega)
  obtain ⟨v, w, hv, hw⟩ := two_part (q - 1) (by omega)
  have pmax : p < 1321124 := by
    rcases Nat.lt_or_ge p 1321124 with h | h
    · exact h
    · have := Nat.mul_le_mul h (Nat.mul_le_mul (show 1321124 ≤ q by omega) (show 1321124 ≤ q by omega))
      omega
  rcases Nat.lt_trichotomy u v with h | h | h
  · -- q is of trivial signature
    have hT := match_strict T.H T.hp T.hq T.pn T.qn hu ht hv hw h
    have hqg := tg q T.hq (by omega) hT
    have h8 := hT.1
    have e : q = 1 + 8 * (q / 8) := by omega
    have qmax : q < 237200000 := by
      rcases Nat.lt_or_ge q 237200000 with h | h
      · exact h
      · have := Nat.mul_le_mul p41 (Nat.mul_le_mul h h); omega
    have hq' := T.hq
    have hT' := hT
    rw [e] at hq' hT'
    rcases Nat.lt_or_ge (q / 8) 1048576 with hs | hs
    · have := rowT_sound (n := 5) 4 135411 rt2a (q / 8) (by omega) (by omega) hq' hT'
      rw [← e] at this
      obtain ⟨hl, ht2⟩ := leaf2_sound T.hq (by omega) q2 this
      exact f2_sound T hl (trE_sound T.H T.hq T.hp T.qn T.pn (by omega) hu ht hv hw h (by omega) ht2)
    · have := rowT_sound (n := 7) 28 1048576 rt2b (q / 8) (by omega) (by omega) hq' hT'
      rw [← e] at this
      obtain ⟨hl, ht2⟩ := leaf2_sound T.hq (by omega) q2 this
      have psm : p < 32769 := by
        rcases Nat.lt_or_ge p 32769 with h | h
        · exact h
        · have := Nat.mul_le_mul h (Nat.mul_le_mul (show 8388608 ≤ q by omega) (show 8388608 ≤ q by omega)); omega
      exact f2_sound T hl (trE_sound T.H T.hq T.hp T.qn T.pn (by omega) hu ht hv hw h (by omega) ht2)
  · -- one signature
    subst h
    have hS := match_eq T.H T.hp T.hq T.pn T.qn hu ht hv hw
    have h8 := hS.1
    have hs : ∀ l ∈ odds, p % l ≠ 0 ∧ q % l ≠ 0 ∧ qr l q = qr l p := fun l hl => ⟨T.H.not_odds T.hp T.pn hl, (hS.2 l hl).1, (hS.2 l hl).2⟩
    have hr : p % 8 = 3 ∨ p % 8 = 7 ∨ p % 8 = 5 ∨ p % 8 = 1 := by omega
    have ep : p = p % 8 + 8 * (p / 8) := by omega
    have eq : q = q % 8 + 8 * (q / 8) := by omega
    have hp' := T.hp
    have hq' := T.hq
    rcases Nat.lt_or_ge (q / 8) 1048576 with hq8 | hq8
    · have h12 : p / 8 < q / 8 := by omega
      rcases hr with hr | hr | hr | hr <;> rw [h8, hr] at eq <;> rw [hr] at ep <;> rw [ep] at hp' <;> rw [eq] at hq'
      · have := chkT3 h12 hq8 hp' hq' (by rw [← ep, ← eq]; exact hs)
        rw [← ep, ← eq] at this
        exact chk_false T hu ht hv hw hr (h8.trans hr) this
      · have := chkT7 h12 hq8 hp' hq' (by rw [← ep, ← eq]; exact hs)
        rw [← ep, ← eq] at this
        exact chk_false T hu ht hv hw hr (h8.trans hr) this
      · have := chkT5 h12 hq8 hp' hq' (by rw [← ep, ← eq]; exact hs)
        rw [← ep, ← eq] at this
        exact chk_false T hu ht hv hw hr (h8.trans hr) this
      · have := chkT1 h12 hq8 hp' hq' (by rw [← ep, ← eq]; exact hs)
        rw [← ep, ← eq] at this
        exact chk_false T hu ht hv hw hr (h8.trans hr) this
    · have psm : p < 32768 := by
        rcases Nat.lt_or_ge p 32768 with h | h
        · exact h
        · have := Nat.mul_le_mul h (Nat.mul_le_mul (show 8388608 ≤ q by omega) (show 8388608 ≤ q by omega)); omega
      have fin : ∀ c, p % 8 = c → ChkB c p → False := by
        intro c hc hB
        have eq' : q = c + 8 * (q / 8) := by omega
        obtain ⟨h1, h2⟩ := hB
        have h3 := h2 (q / 8) hq8 (by rw [← eq']; exact hb) (by rw [← eq']; exact T.hq) (by rw [← eq']; exact fun l hl => (hs l hl).2)
        rw [← eq'] at h3
        exact chk_false T hu ht hv hw hc (h8.trans hc) (Or.inr (Or.inr ⟨h1, h3⟩))
      rcases hr with hr | hr | hr | hr <;> rw [hr] at ep <;> rw [ep] at hp'
      · exact fin 3 hr (by rw [ep]; exact chkB3 (p / 8) (by omega) hp' (by omega))
      · exact fin 7 hr (by rw [ep]; exact chkB7 (p / 8) (by omega) hp' (by omega))
      · exact fin 5 hr (by rw [ep]; exact chkB5 (p / 8) (by omega) hp' (by omega))
      · exact fin 1 hr (by rw [ep]; exact chkB1 (p / 8) (by omega) hp' (by omega))
  · -- p is of trivial signature
    have hT := match_strict T.H T.hq T.hp T.qn T.pn hv hw hu ht h
    have hpg := tg p T.hp (by omega) hT
    have h8 := hT.1
    have e : p = 1 + 8 * (p / 8) := by omega
    have hp' := T.hp
    have hT' := hT
    rw [e] at hp' hT'
    have := rowT_sound (n := 0) 4 135411 rt3 (p / 8) (by omega) (by omega) hp' hT'
    rw [← e] at this
    obtain ⟨hl, ht2⟩ := leaf3_sound T.hp (by omega) p2 this
    have qmax : q < 1500000 := by
      rcases Nat.lt_or_ge q 1500000 with h | h
      · exact h
      · have := Nat.mul_le_mul (show 1083289 ≤ p by omega) (Nat.mul_le_mul h h); omega
    exact f3_sound T (by omega) hl (trE_sound T.H T.hp T.hq T.pn T.qn (by omega) hv hw hu ht h (by omega) ht2)
/-- What passes the strong tests for the bases 2 to 37, has no prime factor below 41, and is below 2^61, is a prime. -/
theorem prime_of_strong {n s d : Nat} (H : Hyp n s d) (hlt : n < 2305843009213693952) : Pm n := by
  by_cases hn : Pm n
  · exact hn
  · exfalso
    have hlt' : n < NN := hlt
    have h61 : n < 2 ^ 61 := hlt
    obtain ⟨p, hp, hpn, hpl⟩ := exists_prime n H.big
    obtain ⟨m, hm⟩ := hpn
    have hn0 := H.big
    have hm0 : m ≠ 0 := by rintro rfl; omega
    have hm1 : m ≠ 1 := by rintro rfl; rw [Nat.mul_one] at hm; exact hn (hm ▸ hp)
    obtain ⟨q, hq, hqm, hql⟩ := exists_prime m (by omega)
    obtain ⟨r, hr⟩ := hqm
    have hnr : n = p * q * r := by rw [hm, hr, Nat.mul_assoc]
    have hqn : q ∣ n := ⟨p * r, by rw [hnr]; grind⟩
    have hr0 : r ≠ 0 := by rintro rfl; omega
    have hr1 : r ≠ 1 := by rintro rfl; exact no_two H hp hq (by rw [hnr, Nat.mul_one]) hlt'
    have hpq : p < q := by
      have h1 := hpl q hq.1 hqn
      rcases Nat.eq_or_lt_of_le h1 with h2 | h2
      · exfalso
        subst h2
        exact no_square H hp h61 ⟨r, hnr⟩
      · exact h2
    have least : ∀ l, Pm l → l ∣ r → q < l := by
      intro l hl hlr
      have h1 := hql l hl.1 (Nat.dvd_trans hlr ⟨q, by rw [hr, Nat.mul_comm]⟩)
      rcases Nat.eq_or_lt_of_le h1 with h2 | h2
      · exfalso
        subst h2
        obtain ⟨c, hc⟩ := hlr
        exact no_square H hq h61 ⟨p * c, by rw [hnr, hc]; grind⟩
      · exact h2
    obtain ⟨l, hl, hlr, _⟩ := exists_prime r (by omega)
    have hqr : q < r := by have := least l hl hlr; have := Nat.le_of_dvd (by omega) hlr; omega
    exact tri_false ⟨H, hnr, hp, hq, hlt', hpq, hqr, least, fun h => own_of tg H hp ⟨m, hm⟩ h r ⟨p * q, by rw [hnr, Nat.mul_comm]⟩⟩
end Go.Proofs.YtogbdnecpdcmiabDoor.Mr

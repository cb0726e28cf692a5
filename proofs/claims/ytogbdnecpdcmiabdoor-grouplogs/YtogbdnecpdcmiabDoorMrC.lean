/- Bounds on the index of the group of the bases modulo a prime. -/
import Derived.Test.YtogbdnecpdcmiabDoorMrW
/- The packed triples are what they should be. -/
namespace Go.Proofs.YtogbdnecpdcmiabDoor.Mr

/-- the choice by a bool, for the kernel -/
noncomputable def bc {α : Type} (c : Bool) (a b : α) : α := Bool.rec (motive := fun _ => α) b a c
noncomputable def ba (a b : Bool) : Bool := Bool.rec (motive := fun _ => Bool) false b a
theorem bc_t {α : Type} {c : Bool} {a b : α} (h : c = true) : bc c a b = a := by subst h; rfl
theorem bc_f {α : Type} {c : Bool} {a b : α} (h : c = false) : bc c a b = b := by subst h; rfl
theorem ba_true {a b : Bool} : ba a b = true ↔ a = true ∧ b = true := by
  cases a <;> cases b <;> simp [ba]
theorem bc_cases {α : Type} (P : α → Prop) {c : Bool} {a b : α} (h : P (bc c a b)) : (c = true ∧ P a) ∨ (c = false ∧ P b) := by
  cases c
  · exact Or.inr ⟨rfl, h⟩
  · exact Or.inl ⟨rfl, h⟩

/-- the steps of a block -/
noncomputable def unpack (k : Nat) : Nat → List Nat :=
  Nat.rec (motive := fun _ => Nat → List Nat) (fun _ => []) (fun _ ih b => bc (Nat.beq b 0) [] (Nat.land b 134217727 :: ih (Nat.shiftRight b 27))) k
noncomputable def steps (bs : List Nat) : List Nat := List.rec (motive := fun _ => List Nat) [] (fun b _ ih => unpack 64 b ++ ih) bs
/-- the triples -/
def tri (key : Nat) : List Nat → List (Nat × Nat)
  | [] => []
  | d :: ds => ((key + d) % 131072, (key + d) / 131072) :: tri (key + d) ds
/-- the checks on one triple -/
noncomputable def okt (a c : Nat) : Bool :=
  ba (ba (Nat.ble 1 a) (Nat.ble (Nat.succ (Nat.mul 2 a)) c)) (ba (Nat.beq (Nat.gcd a c) 1) (Nat.beq (Nat.add (Nat.mod smo a) (Nat.add (Nat.mod smo (Nat.sub c a)) (Nat.mod smo c))) 0))
noncomputable def wkC (ih : Nat → Nat → List (Nat × Nat) → Bool) (key i : Nat) (cut : List (Nat × Nat)) : Bool :=
  List.rec (motive := fun _ => Bool) (ih key i []) (fun x r _ => bc (Nat.beq x.1 i) (ba (Nat.ble (Nat.div key 131072) x.2) (ih key i r)) (ih key i (x :: r))) cut
noncomputable def wkB (ih : Nat → Nat → List (Nat × Nat) → Bool) (d key i : Nat) (cut : List (Nat × Nat)) : Bool :=
  ba (ba (Nat.ble 1 d) (okt (Nat.mod key 131072) (Nat.div key 131072))) (wkC ih key i cut)
noncomputable def walk (ds : List Nat) : Nat → Nat → List (Nat × Nat) → Bool :=
  List.rec (motive := fun _ => Nat → Nat → List (Nat × Nat) → Bool) (fun _ _ cut => List.rec (motive := fun _ => Bool) true (fun _ _ _ => false) cut)
    (fun d _ ih key i cut => wkB ih d (Nat.add key d) (Nat.succ i) cut) ds
theorem walk_nil (key i : Nat) (x : Nat × Nat) (cut : List (Nat × Nat)) : walk [] key i (x :: cut) = false := rfl
theorem walk_cons (d : Nat) (ds : List Nat) (key i : Nat) (cut : List (Nat × Nat)) : walk (d :: ds) key i cut = wkB (walk ds) d (key + d) (i + 1) cut := rfl
theorem wkC_nil (ih : Nat → Nat → List (Nat × Nat) → Bool) (key i : Nat) : wkC ih key i [] = ih key i [] := rfl
theorem wkC_cons (ih : Nat → Nat → List (Nat × Nat) → Bool) (key i : Nat) (x : Nat × Nat) (r : List (Nat × Nat)) :
    wkC ih key i (x :: r) = bc (Nat.beq x.1 i) (ba (Nat.ble (key / 131072) x.2) (ih key i r)) (ih key i (x :: r)) := rfl

theorem smooth_of (a : Nat) (h0 : 0 < a) (h : ∀ p, Pm p → p ∣ a → p ∈ bases) : Smooth a := by
  induction a using Nat.strongRecOn with
  | ind a ih =>
    rcases Nat.lt_or_ge a 2 with h1 | h1
    · rw [show a = 1 by omega]; exact Smooth.one
    · obtain ⟨p, hp, ⟨b, hb⟩, _⟩ := exists_prime a h1
      have hb0 : 0 < b := Nat.pos_of_ne_zero (by rintro rfl; omega)
      have hp2 := hp.1
      have := ih b (by rw [hb]; have := Nat.mul_le_mul_right b hp2; omega) hb0 (fun q hq hd => h q hq (Nat.dvd_trans hd ⟨p, by rw [hb, Nat.mul_comm]⟩))
      rw [hb]; exact this.mul (h p hp ⟨b, hb⟩)
def smol : List (Nat × Nat) := [(2, 18), (3, 11), (5, 7), (7, 6), (11, 5), (13, 4), (17, 4), (19, 4), (23, 3), (29, 3), (31, 3), (37, 3)]
theorem smo_eq : smo = (smol.map (fun x => x.1 ^ x.2)).foldr (· * ·) 1 := by decide +kernel
theorem smo_prime {p : Nat} (hp : Pm p) (h : p ∣ smo) : p ∈ bases := by
  rw [smo_eq] at h
  have key : ∀ l : List (Nat × Nat), (∀ x ∈ l, x.1 ∈ bases) → p ∣ (l.map (fun x => x.1 ^ x.2)).foldr (· * ·) 1 → p ∈ bases := by
    intro l
    induction l with
    | nil => intro _ h; have := Nat.le_of_dvd (by decide) h; have := hp.1; simp at *; omega
    | cons x l ih =>
      intro hl h
      simp only [List.map_cons, List.foldr_cons] at h
      rcases hp.euclid h with h1 | h1
      · have : ∀ k, p ∣ x.1 ^ k → p ∈ bases := by
          intro k
          induction k with
          | zero => intro h; have := Nat.le_of_dvd (by simp) h; have := hp.1; simp at *; omega
          | succ k ihk =>
            intro h; rw [Nat.pow_succ] at h
            rcases hp.euclid h with h2 | h2
            · exact ihk h2
            · have hx := bases_pm (hl x List.mem_cons_self)
              rcases hx.2 p h2 with h3 | h3
              · have := hp.1; omega
              · rw [h3]; exact hl x List.mem_cons_self
        exact this _ h1
      · exact ih (fun y hy => hl y (List.mem_cons_of_mem _ hy)) h1
  exact key smol (by decide) h
theorem okt_sound {a c : Nat} (h : okt a c = true) : 0 < a ∧ 2 * a < c ∧ Nat.Coprime a c ∧ Smooth a ∧ Smooth (c - a) ∧ Smooth c := by
  unfold okt at h
  rw [ba_true, ba_true, ba_true, ble_true, ble_true, beq_true, beq_true] at h
  obtain ⟨⟨h1, h2⟩, h3, h4⟩ := h
  have h5 : smo % a + (smo % (c - a) + smo % c) = 0 := h4
  have sm : ∀ x, 0 < x → smo % x = 0 → Smooth x := fun x h0 h => smooth_of x h0 (fun p hp hd => smo_prime hp (Nat.dvd_trans hd (Nat.dvd_of_mod_eq_zero h)))
  have h2' : 2 * a < c := h2
  exact ⟨h1, h2', h3, sm a (by omega) (by omega), sm _ (by omega) (by omega), sm c (by omega) (by omega)⟩

/-- the key of a triple -/
def kkey (t : Nat × Nat) : Nat := 131072 * t.2 + t.1
theorem walk_sound (ds : List Nat) : ∀ key i cut, walk ds key i cut = true →
    (∀ t ∈ tri key ds, okt t.1 t.2 = true) ∧ (∀ t ∈ tri key ds, key < kkey t) ∧ (tri key ds).Pairwise (fun s t => kkey s < kkey t) ∧
    (∀ x ∈ cut, i < x.1 ∧ x.1 - i ≤ (tri key ds).length ∧ ∀ t ∈ (tri key ds).take (x.1 - i), t.2 ≤ x.2) := by
  induction ds with
  | nil =>
    intro key i cut h
    refine ⟨by simp [tri], by simp [tri], by simp [tri], ?_⟩
    intro x hx
    cases cut with
    | nil => simp at hx
    | cons y r => rw [walk_nil] at h; exact Bool.noConfusion h
  | cons d ds ih =>
    intro key i cut h
    rw [walk_cons] at h
    unfold wkB at h
    rw [ba_true, ba_true, ble_true] at h
    obtain ⟨⟨hd, ho⟩, hc⟩ := h
    have hk : kkey ((key + d) % 131072, (key + d) / 131072) = key + d := Nat.div_add_mod _ _
    -- the common part
    have common : ∀ cut', walk ds (key + d) (i + 1) cut' = true → (∀ t ∈ tri key (d :: ds), okt t.1 t.2 = true) ∧ (∀ t ∈ tri key (d :: ds), key < kkey t) ∧ (tri key (d :: ds)).Pairwise (fun s t => kkey s < kkey t) := by
      intro cut' h
      obtain ⟨h1, h2, h3, _⟩ := ih _ _ _ h
      refine ⟨?_, ?_, ?_⟩
      · intro t ht; simp only [tri, List.mem_cons] at ht
        rcases ht with rfl | ht
        · exact ho
        · exact h1 t ht
      · intro t ht; simp only [tri, List.mem_cons] at ht
        rcases ht with rfl | ht
        · rw [hk]; omega
        · have := h2 t ht; omega
      · simp only [tri, List.pairwise_cons]
        exact ⟨fun t ht => by rw [hk]; exact h2 t ht, h3⟩
    have later : ∀ cut', walk ds (key + d) (i + 1) cut' = true → ∀ x ∈ cut', i < x.1 ∧ x.1 - i ≤ (tri key (d :: ds)).length ∧ ∀ t ∈ (tri key (d :: ds)).take (x.1 - i), t.2 ≤ x.2 := by
      intro cut' h x hx
      obtain ⟨_, _, h3, h4⟩ := ih _ _ _ h
      obtain ⟨hi, h5, h6⟩ := h4 x hx
      have e : x.1 - i = (x.1 - (i + 1)) + 1 := by omega
      refine ⟨by omega, by simp only [tri, List.length_cons]; omega, ?_⟩
      rw [e]; simp only [tri, List.take_succ_cons]
      intro t ht
      rcases List.mem_cons.1 ht with rfl | ht
      · -- the first is below a later one
        cases hT : tri (key + d) ds with
        | nil => rw [hT] at h5; simp at h5; omega
        | cons s r =>
          obtain ⟨n, hn⟩ : ∃ n, x.1 - (i + 1) = n + 1 := ⟨x.1 - (i + 1) - 1, by omega⟩
          have hs : s.2 ≤ x.2 := h6 s (by rw [hT, hn]; simp)
          obtain ⟨_, h7, _⟩ := ih _ _ _ h
          have := h7 s (by rw [hT]; simp)
          have hs1 : s.1 < 131072 := by
            cases ds with
            | nil => simp [tri] at hT
            | cons d' ds' => simp only [tri, List.cons.injEq] at hT; rw [← hT.1]; exact Nat.mod_lt _ (by decide)
          show (key + d) / 131072 ≤ x.2
          unfold kkey at this
          omega
      · exact h6 t ht
    cases cut with
    | nil =>
      rw [wkC_nil] at hc
      obtain ⟨c1, c2, c3⟩ := common _ hc
      exact ⟨c1, c2, c3, by simp⟩
    | cons x r =>
      rw [wkC_cons] at hc
      rcases bc_cases (· = true) hc with ⟨hx, hc⟩ | ⟨hx, hc⟩
      · rw [ba_true, ble_true] at hc
        obtain ⟨c1, c2, c3⟩ := common _ hc.2
        refine ⟨c1, c2, c3, ?_⟩
        intro y hy
        rcases List.mem_cons.1 hy with rfl | hy
        · rw [beq_true.1 hx, show i + 1 - i = 1 by omega]
          refine ⟨by omega, by simp [tri], ?_⟩
          intro t ht; simp only [tri, List.take_succ_cons, List.take_zero, List.mem_singleton] at ht
          rw [ht]; exact hc.1
        · exact later _ hc.2 y hy
      · obtain ⟨c1, c2, c3⟩ := common _ hc
        exact ⟨c1, c2, c3, fun y hy => later _ hc y hy⟩
set_option maxRecDepth 100000 in
theorem walked : walk (steps (blocks1 ++ blocks2)) 0 0 cut = true := by decide +kernel
/-- For (k, h) of the cut there are k triples up to h. -/
theorem triples : ∀ x ∈ cut, ∃ T : List (Nat × Nat), T.length = x.1 ∧ T.Nodup ∧ ∀ t ∈ T, Tok x.2 t := by
  intro x hx
  obtain ⟨h1, _, h3, h4⟩ := walk_sound _ _ _ _ walked
  obtain ⟨_, h5, h6⟩ := h4 x hx
  rw [Nat.sub_zero] at h5 h6
  refine ⟨(tri 0 (steps (blocks1 ++ blocks2))).take x.1, by rw [List.length_take]; omega, ?_, ?_⟩
  · refine List.Pairwise.sublist (List.take_sublist _ _) (h3.imp (fun {a b} h e => ?_))
    rw [e] at h; omega
  · intro t ht
    obtain ⟨a, b, c, d, e, f⟩ := okt_sound (h1 t (List.mem_of_mem_take ht))
    exact ⟨a, b, h6 t ht, c, d, e, f⟩
end Go.Proofs.YtogbdnecpdcmiabDoor.Mr
/- Bounds for the index: made by a program (genX.py). -/
namespace Go.Proofs.YtogbdnecpdcmiabDoor.Mr
/-- (P, Y, K, H): a prime below P, and not below the P ahead of it, has no index from Y on: by K triples up to H -/
def tq : List (Nat × Nat × Nat × Nat) := [(43, 3, 2, 4), (45, 3, 2, 4), (47, 4, 2, 4), (49, 4, 2, 4), (51, 4, 2, 4),
  (54, 2, 4, 5), (57, 2, 4, 5), (60, 2, 4, 5), (63, 2, 4, 5), (66, 3, 4, 5),
  (69, 3, 4, 5), (73, 3, 4, 5), (77, 2, 5, 6), (81, 2, 5, 6), (85, 3, 5, 6),
  (90, 3, 5, 6), (95, 3, 5, 6), (100, 3, 5, 6), (106, 2, 8, 7), (112, 2, 8, 7),
  (118, 2, 8, 7), (125, 2, 8, 7), (132, 2, 8, 7), (139, 2, 10, 8), (147, 2, 10, 8),
  (155, 2, 10, 8), (164, 2, 10, 8), (173, 2, 13, 9), (183, 2, 13, 9), (193, 2, 13, 9),
  (204, 2, 13, 9), (216, 2, 15, 10), (228, 2, 15, 10), (241, 2, 15, 10), (255, 2, 15, 10),
  (270, 2, 20, 11), (286, 2, 20, 11), (303, 2, 20, 11), (321, 2, 22, 12), (340, 2, 22, 12),
  (360, 2, 28, 13), (381, 2, 28, 13), (403, 2, 28, 13), (427, 2, 31, 14), (452, 2, 31, 14),
  (479, 2, 35, 15), (507, 2, 35, 15), (537, 2, 35, 15), (569, 2, 39, 16), (603, 2, 39, 16),
  (639, 2, 47, 17), (677, 2, 47, 17), (717, 2, 50, 18), (760, 2, 50, 18), (805, 2, 59, 19),
  (853, 2, 63, 20), (904, 2, 63, 20), (958, 2, 69, 21), (1015, 2, 69, 21), (1075, 2, 74, 22),
  (1139, 2, 85, 23), (1207, 2, 85, 23), (1279, 2, 89, 24), (1355, 2, 99, 25), (1436, 2, 105, 26),
  (1522, 2, 105, 26), (1613, 2, 114, 27), (1709, 2, 120, 28), (1811, 2, 134, 29), (1919, 2, 138, 30),
  (2034, 2, 138, 30), (2156, 2, 153, 31), (2285, 2, 161, 32), (2422, 2, 171, 33), (2567, 2, 179, 34),
  (2721, 2, 191, 35), (2884, 2, 191, 35), (3057, 2, 215, 37), (3240, 2, 236, 39), (3434, 2, 244, 40),
  (3640, 2, 244, 40), (3858, 2, 249, 42), (4089, 2, 249, 42), (4334, 2, 267, 45), (4594, 2, 276, 46),
  (4869, 2, 276, 46), (5161, 2, 299, 49), (5470, 2, 299, 49), (5798, 2, 328, 52), (6145, 2, 328, 52),
  (6513, 2, 349, 55), (6903, 2, 371, 57), (7317, 2, 381, 58), (7756, 2, 384, 60), (8221, 2, 384, 60),
  (8714, 2, 415, 64), (9236, 2, 437, 66), (9790, 2, 437, 66), (10377, 3, 446, 68), (10999, 3, 470, 72),
  (11658, 3, 470, 72), (12357, 3, 490, 75), (13098, 3, 523, 78), (13883, 3, 523, 78), (14715, 3, 546, 81),
  (15597, 3, 548, 84), (16532, 3, 593, 88), (17523, 3, 593, 88), (18574, 3, 626, 92), (19688, 3, 663, 95),
  (20869, 3, 676, 98), (22121, 3, 699, 100), (23448, 3, 719, 105), (24854, 3, 719, 105), (26345, 3, 727, 110),
  (27925, 3, 751, 112), (29600, 3, 802, 117), (31376, 3, 829, 120), (33258, 3, 874, 124), (35253, 3, 917, 128),
  (37368, 3, 923, 130), (39610, 3, 965, 135), (41986, 3, 981, 138), (44505, 3, 1019, 144), (47175, 3, 1071, 148),
  (50005, 3, 1086, 152), (53005, 3, 1144, 156), (56185, 3, 1188, 162), (59556, 3, 1197, 165), (63129, 3, 1261, 171),
  (66916, 3, 1298, 176), (70930, 4, 1308, 182), (75185, 4, 1387, 187), (79696, 4, 1418, 192), (84477, 4, 1440, 198),
  (89545, 4, 1481, 204), (94917, 4, 1550, 210), (100612, 4, 1588, 217), (106648, 4, 1645, 224), (113046, 4, 1645, 224),
  (119828, 4, 1679, 231), (127017, 4, 1706, 238), (134638, 4, 1827, 252), (142716, 4, 1827, 252), (151278, 4, 1972, 266),
  (160354, 4, 1972, 266), (169975, 4, 2062, 280), (180173, 4, 2146, 290), (190983, 4, 2228, 300), (202441, 4, 2228, 300),
  (214587, 5, 2263, 310), (227462, 5, 2412, 325), (241109, 5, 2412, 325), (255575, 5, 2457, 338), (270909, 5, 2573, 348),
  (287163, 5, 2629, 360), (304392, 5, 2737, 370), (322655, 5, 2833, 380), (342014, 5, 2917, 392), (362534, 5, 3008, 405),
  (384286, 5, 3096, 416), (407343, 5, 3151, 429), (431783, 5, 3268, 442), (457689, 5, 3312, 456), (485150, 5, 3384, 468),
  (514259, 6, 3502, 484), (545114, 6, 3609, 496), (577820, 6, 3706, 513), (612489, 6, 3860, 529), (649238, 6, 3927, 544),
  (688192, 6, 4046, 561), (729483, 6, 4131, 578), (773251, 6, 4256, 595), (819646, 6, 4339, 612), (868824, 6, 4499, 630),
  (920953, 6, 4600, 650), (976210, 6, 4720, 667), (1034782, 7, 4806, 690), (1096868, 7, 4912, 704), (1162680, 7, 5102, 729),
  (1232440, 7, 5194, 754), (1306386, 7, 5303, 777), (1384769, 7, 5379, 800), (1467855, 7, 5451, 819), (1555926, 7, 5694, 847),
  (1649281, 7, 5852, 874), (1748237, 8, 6035, 900), (1853131, 8, 6105, 925), (1964318, 8, 6221, 952), (2082177, 8, 6402, 980),
  (2207107, 8, 6537, 1014), (2339533, 8, 6667, 1044), (2479904, 8, 6838, 1073), (2628698, 9, 6995, 1105), (2786419, 9, 7095, 1140),
  (2953604, 9, 7240, 1173), (3130820, 9, 7373, 1210), (3318669, 9, 7519, 1242), (3517789, 9, 7622, 1280), (3728856, 10, 7768, 1323),
  (3952587, 10, 7889, 1360), (4189742, 10, 8086, 1400), (4441126, 10, 8271, 1445), (4707593, 10, 8403, 1488), (4990048, 11, 8547, 1530),
  (5289450, 11, 8697, 1575), (5606817, 11, 8874, 1625), (5943226, 11, 8973, 1674), (6299819, 12, 8973, 1674), (6677808, 12, 9126, 1725),
  (7078476, 12, 9412, 1827), (7503184, 12, 9412, 1827), (7953375, 13, 9598, 1885), (8430577, 13, 9714, 1938), (8936411, 13, 9856, 2001),
  (9472595, 13, 10065, 2058), (10040950, 14, 10189, 2116), (10643407, 14, 10344, 2185), (11282011, 14, 10551, 2250), (11958931, 15, 10731, 2320),
  (12676466, 15, 10888, 2387), (13437053, 15, 11075, 2457), (14243276, 15, 11289, 2535), (15097872, 16, 11431, 2610), (16003744, 16, 11586, 2688),
  (16963968, 16, 11802, 2760), (17981806, 17, 12001, 2852), (19060714, 17, 12235, 2926), (20204356, 17, 12410, 3025), (21416617, 18, 12536, 3108),
  (22701614, 18, 12805, 3211), (24063710, 19, 12998, 3306), (25507532, 19, 13227, 3404), (27037983, 19, 13383, 3509), (28660261, 20, 13597, 3610),
  (30379876, 20, 13819, 3720), (32202668, 21, 14016, 3828), (34134828, 21, 14278, 3944), (36182917, 22, 14465, 4060), (38353892, 22, 14673, 4186),
  (40655125, 23, 14961, 4312), (43094432, 23, 15194, 4440), (45680097, 24, 15402, 4576), (48420902, 24, 15696, 4712), (51326156, 25, 15933, 4851),
  (54405725, 25, 16239, 5000), (57670068, 26, 16423, 5152), (61130272, 26, 16626, 5301), (64798088, 27, 16830, 5460), (68685973, 28, 17065, 5625),
  (72807131, 28, 17327, 5800), (77175558, 29, 17627, 5967), (81806091, 29, 17857, 6144), (86714456, 30, 18124, 6336), (91917323, 31, 18390, 6528),
  (97432362, 31, 18635, 6720), (103278303, 32, 19082, 6919), (109475001, 33, 19285, 7130), (116043501, 34, 19510, 7344), (123006111, 34, 19779, 7548),
  (130386477, 35, 20053, 7776), (138209665, 36, 20329, 8019), (146502244, 37, 20589, 8265), (155292378, 38, 20879, 8512), (164609920, 39, 21137, 8750),
  (174486515, 39, 21424, 9025), (184955705, 40, 21727, 9300), (196053047, 41, 22064, 9583), (207816229, 42, 22297, 9867), (220285202, 43, 22615, 10166),
  (233502314, 44, 22869, 10472), (247512452, 45, 23201, 10788), (262363199, 46, 23584, 11109), (278104990, 47, 23848, 11440), (294791289, 49, 24100, 11781),
  (312478766, 50, 24100, 11781), (331227491, 51, 24452, 12144), (351101140, 52, 24800, 12506), (372167208, 53, 25320, 13248), (394497240, 55, 25613, 13640),
  (418167074, 57, 25613, 13640), (443257098, 58, 25879, 14060), (469852523, 59, 26266, 14500), (498043674, 61, 26610, 14911), (527926294, 62, 26965, 15379),
  (559601871, 64, 27227, 15840), (593177983, 65, 27543, 16320), (628768661, 67, 27938, 16807), (666494780, 69, 28222, 17303), (706484466, 70, 28554, 17825),
  (748873533, 72, 28900, 18352), (793805944, 74, 29198, 18900), (841434300, 76, 29549, 19488), (891920358, 78, 29928, 20064), (945435579, 80, 30247, 20672),
  (1002161713, 82, 30559, 21294), (1062291415, 84, 30808, 21924), (1126028899, 86, 31129, 22572), (1193590632, 89, 31394, 23256), (1265206069, 91, 31698, 23958),
  (1341118433, 93, 32166, 24684), (1421585538, 96, 32451, 25415), (1506880670, 98, 32807, 26180), (1597293510, 101, 33145, 26973), (1693131120, 104, 33455, 27783),
  (1794718987, 106, 33788, 28611), (1902402126, 109, 34110, 29478), (2016546253, 112, 34428, 30345), (2137539028, 115, 34828, 31265), (2265791369, 118, 35163, 32200),
  (2401738851, 122, 35423, 33176), (2545843182, 125, 35719, 34162), (2698593772, 129, 36100, 35154), (2860509398, 132, 36442, 36250), (3032139961, 136, 36695, 37323),
  (3214068358, 140, 36971, 38456), (3406912459, 144, 37215, 39556), (3611327206, 148, 37536, 40774), (3828006838, 152, 37945, 42021), (4057687248, 157, 38268, 43264),
  (4301148482, 162, 38526, 44574), (4559217390, 167, 38827, 45885), (4832770433, 171, 39148, 47212), (5122736658, 177, 39432, 48672), (5430100857, 182, 39771, 50176),
  (5755906908, 187, 40142, 51680), (6101261322, 193, 40423, 53240), (6467337001, 199, 40756, 54808), (6855377221, 205, 41025, 56448), (7266699854, 212, 41279, 58125),
  (7702701845, 219, 41586, 59904), (8164863955, 226, 41888, 61712), (8654755792, 233, 42210, 63536), (9174041139, 240, 42547, 65416), (9724483607, 248, 42887, 67431),
  (10307952623, 256, 43202, 69375), (10926429780, 265, 43514, 71500), (11582015566, 274, 43828, 73695), (12276936499, 282, 44218, 75888), (13013552688, 292, 44518, 78166),
  (13794365849, 302, 44794, 80512), (14622027799, 313, 45101, 82944), (15499349466, 324, 45498, 85405), (16429310433, 336, 45762, 87975), (17415069058, 347, 46124, 90625),
  (18459973201, 362, 46124, 90625), (19567571593, 376, 46436, 93351), (20741625888, 391, 46676, 96135), (21986123441, 406, 46986, 98952), (23305290847, 422, 47296, 101959),
  (24703608297, 439, 47591, 105028), (26185824794, 457, 47917, 108225), (27756974281, 476, 48231, 111435), (29422392737, 496, 48532, 114816), (31187736301, 517, 48945, 118125),
  (33059000479, 540, 49246, 121800), (35042540507, 564, 49616, 125440), (37145092937, 591, 49850, 129200), (39373798513, 619, 50244, 133052), (41736226423, 649, 50564, 137085),
  (44240400008, 683, 50865, 141151), (46894824008, 721, 51156, 145299), (49708513448, 762, 51431, 149776), (52691024254, 806, 51780, 154275), (55852485709, 855, 52126, 158804),
  (59203634851, 912, 52432, 163647), (62755852942, 976, 52751, 168609), (66521204118, 1045, 53145, 173641), (70512476365, 1131, 53451, 178848), (74743224946, 1232, 53777, 184093),
  (79227818442, 1359, 54071, 189750), (83981487548, 1518, 54380, 195415), (89020376800, 1734, 54664, 201280), (94361599408, 2039, 54980, 207368), (95000000000, 2000, 55331, 213564)]
end Go.Proofs.YtogbdnecpdcmiabDoor.Mr
/- A prime with the index y is at least ql y. -/
namespace Go.Proofs.YtogbdnecpdcmiabDoor.Mr

/-- the check of a row of the table: P is the bound of the row ahead -/
noncomputable def okr (P : Nat) (e : Nat × Nat × Nat × Nat) : Bool :=
  ba (ba (Nat.ble (Nat.succ (Nat.mul 2 (Nat.mul e.2.2.2 e.2.2.2))) P) (cut.contains (e.2.2.1, e.2.2.2)))
    (ba (Nat.ble e.1 (Nat.mul (Nat.mul 6 e.2.2.1) (Nat.mul e.2.1 e.2.1)))
      (Nat.ble (Nat.succ (Nat.mul e.1 (Nat.pow e.2.1 4))) (Nat.pow (Nat.sub (Nat.mul (Nat.mul 6 e.2.2.1) (Nat.mul e.2.1 e.2.1)) e.1) 2)))
noncomputable def okrs (l : List (Nat × Nat × Nat × Nat)) : Nat → Bool :=
  List.rec (motive := fun _ => Nat → Bool) (fun _ => true) (fun e _ ih P => ba (okr P e) (ih e.1)) l
set_option maxRecDepth 100000 in
theorem tq_ok : okrs tq 41 = true := by decide +kernel
/-- the least prime that may have the index y -/
noncomputable def qlr (y : Nat) (l : List (Nat × Nat × Nat × Nat)) : Nat → Nat :=
  List.rec (motive := fun _ => Nat → Nat) (fun P => P) (fun e _ ih P => bc (Nat.ble e.2.1 y) (ih e.1) P) l
noncomputable def ql (y : Nat) : Nat := qlr y tq 41

/-- q is a prime, g an even exponent that all bases have, of the index y -/
structure Ix (q g y : Nat) : Prop where
  pm : Pm q
  g0 : 0 < g
  ev : g % 2 = 0
  pow : ∀ l ∈ bases, C q ((l : Int) ^ g) 1
  eq : q = 1 + g * y

theorem Ix.not_row {q g y P : Nat} {e : Nat × Nat × Nat × Nat} (h : Ix q g y) (ho : okr P e = true) (hP : P ≤ q) (hq : q < e.1) : ¬ e.2.1 ≤ y := by
  intro hy
  unfold okr at ho
  rw [ba_true, ba_true, ba_true, ble_true, ble_true, ble_true] at ho
  obtain ⟨⟨h1, h2⟩, h3, h4⟩ := ho
  obtain ⟨P', Y, K, H⟩ := e
  simp only at *
  obtain ⟨T, t1, t2, t3⟩ := triples (K, H) (List.contains_iff_mem.1 h2)
  simp only at t1 t3
  have h1' : 2 * (H * H) < q := by
    have : 2 * (H * H) + 1 ≤ P := h1
    omega
  have h3' : P' ≤ 6 * K * (Y * Y) := h3
  have h4' : P' * Y ^ 4 < (6 * K * (Y * Y) - P') ^ 2 := h4
  have hgY : g * Y < q := by
    have : g * Y ≤ g * y := Nat.mul_le_mul_left _ hy
    have := h.eq; omega
  have hY0 : 0 < Y := by
    rcases Nat.eq_zero_or_pos Y with hz | hz
    · subst hz; simp at h4'
    · exact hz
  obtain ⟨D, hD⟩ : ∃ D, 6 * K * (Y * Y) = P' + D := ⟨6 * K * (Y * Y) - P', by omega⟩
  rw [hD, Nat.add_sub_cancel_left] at h4'
  -- all in the integers
  have hq0 : 0 < q := by have := h.pm.1; omega
  have a1 : (g * Y) * (g * Y) < q * q := Nat.mul_self_lt_mul_self hgY
  have a2 : q * (6 * K * (Y * Y)) = q * P' + q * D := by rw [hD, Nat.mul_add]
  have a3 : q * q ≤ q * P' := Nat.mul_le_mul_left _ (by omega)
  have a4 : (q * (6 * K)) * (Y * Y) = q * P' + q * D := by rw [Nat.mul_assoc, ← a2]
  have a5 : g * g * (Y * Y) = (g * Y) * (g * Y) := by grind
  have a6 : g * g < q * (6 * K) := by
    have : g * g * (Y * Y) < (q * (6 * K)) * (Y * Y) := by rw [a4, a5]; omega
    exact Nat.lt_of_mul_lt_mul_right this
  have hs := sunit h.pm h.g0 h.ev h.pow t3 t2 h1' (by rw [t1]; exact a6)
  rw [t1] at hs
  obtain ⟨W, hW⟩ : ∃ W, q * (6 * K) = g * g + W := ⟨q * (6 * K) - g * g, by omega⟩
  rw [hW, Nat.add_sub_cancel_left] at hs
  have a7 : q * D ≤ W * (Y * Y) := by
    have : (g * g + W) * (Y * Y) = q * P' + q * D := by rw [← hW, a4]
    rw [Nat.add_mul, a5] at this; omega
  have a8 : (q * D) * (q * D) ≤ (W * (Y * Y)) * (W * (Y * Y)) := Nat.mul_le_mul a7 a7
  have a9 : (W * (Y * Y)) * (W * (Y * Y)) ≤ q * q * q * (Y * Y * (Y * Y)) := by
    have := Nat.mul_le_mul_right (Y * Y * (Y * Y)) hs
    refine Nat.le_trans (Nat.le_of_eq (by grind)) this
  have a10 : q * q * q * (Y * Y * (Y * Y)) < (q * D) * (q * D) := by
    have e1 : q * q * q * (Y * Y * (Y * Y)) = q * q * (q * (Y * Y * (Y * Y))) := by grind
    have e2 : (q * D) * (q * D) = q * q * (D * D) := by grind
    rw [e1, e2]
    refine Nat.mul_lt_mul_of_pos_left ?_ (Nat.mul_pos hq0 hq0)
    have : q * (Y * Y * (Y * Y)) ≤ P' * (Y * Y * (Y * Y)) := Nat.mul_le_mul_right _ (by omega)
    have e3 : P' * Y ^ 4 = P' * (Y * Y * (Y * Y)) := by rw [show Y ^ 4 = Y * Y * (Y * Y) by rw [Nat.pow_succ, Nat.pow_succ, Nat.pow_succ, Nat.pow_succ]; grind]
    rw [e3, Nat.pow_two] at h4'
    omega
  omega
theorem Ix.qlr {q g y : Nat} (h : Ix q g y) (l : List (Nat × Nat × Nat × Nat)) : ∀ P, okrs l P = true → P ≤ q → qlr y l P ≤ q := by
  induction l with
  | nil => intro P _ hP; exact hP
  | cons e l ih =>
    intro P ho hP
    have ho' : ba (okr P e) (okrs l e.1) = true := ho
    rw [ba_true] at ho'
    show bc (Nat.ble e.2.1 y) (Mr.qlr y l e.1) P ≤ q
    cases hy : Nat.ble e.2.1 y with
    | false => exact hP
    | true =>
      refine ih e.1 ho'.2 ?_
      rcases Nat.lt_or_ge q e.1 with h1 | h1
      · exact absurd (ble_true.1 hy) (h.not_row ho'.1 hP h1)
      · exact h1
theorem Ix.ql {q g y : Nat} (h : Ix q g y) (h41 : 41 ≤ q) : ql y ≤ q := h.qlr tq 41 tq_ok h41
end Go.Proofs.YtogbdnecpdcmiabDoor.Mr
/- For primes from 41 on: the places of the zeros of 1 + 2tc for all c, in 9 bits each, and the inverse of 105: made by a program (genZ.py). -/
namespace Go.Proofs.YtogbdnecpdcmiabDoor.Mr
def zts : List (Nat × Nat × Nat) := [(41, 0x150f81c48250c00c241013870181e0b06812230406c5001070840c200784c161d0680832171304408051102829ff, 25),
  (43, 0x5816240d83424281183038020481428211384c0c11070a8021d0d09430040505c4c221483c3e08018643c10038802bff, 34),
  (47, 0x60180803084082501888500f01098540b0c848221a0a0703e2e00840261b0a8783a1612014122d1001c1a2c050ac1c291388c2fff, 30),
  (53, 0x1b1402428100f84c1403040a454331205c0a270e01c08181783c2a231a0042420130183a31170641c300f044040b060b4642b110584a211603435ff, 52),
  (59, 0x781e0a128180a261805c06331006426020c084520e0f8d06e0908034542f138e80214060445c2b190100e1c1684834231c8a0441b040e0480b0a8d86a16188b03bff, 9),
  (61, 0x1f170cc2e371c0c054111d06438360c0ec2a09138d43a10158101c0b0d86818141e004523111888642f1c8485a20040586828010940e211200c5813068140c260503c3dff, 43),
  (67, 0x882238150bc38180a8a47240070c41826160086c1e1f0204033038fc7424030d026280b108022d0d8c01e3d0f824083c0808c76051283482170e8dc243501828342e1589c2819058c843ff, 30),
  (71, 0x90240c049000c4214010402a018a4422d0a05c042b080582a111286c70191a0f0743f050385e4600860723d0403416131703c58221b0c862370e11460330d0983c440e89c861f029040e3e1d8d447ff, 23),
  (73, 0x251b8f48016218bc4045058288c3b1e0e0203a2386454280286c46132105c3c220e0d410340e8609001188b02a410a0b44e2b1901c6c2617110421f180081e39088341c031f8f808290d01866090604849ff, 16),
  (79, 0xa028420502042110285808121c130601d1501c16340108012430e0c44c3c0c03c6c410a8185623168fc344e008d4202216090923a070648037098a43c33061185e4d0d91090251907c06171e92c724a1f0b88e45068ec4fff, 76),
  (83, 0xa82a0e1a0640e060d0f06c22168400624068583c3b0d808224a20014101415924244f1809c1633078b88e211b948021c190304a441012058230210414281f92c9c1304908a2380c0d47a46179408626188742e3926930741f228f853ff, 34),
  (89, 0x2d2183c9c091a1184e051895434181180c8037179488a352b8f01a49060f47c42170e0403a240388853148209e26238ecb0010f048660a288c00c15258443e39108ac2e1b0e134204c0e8084814038a844192b0d8823f020a0a83209894a00b2505859ff, 39),
  (97, 0x3124944aa442c81cb61b1112cba381a0dcbc141f05c22432b04cbe210e024345c260905e190513c3e3b1e0cc7254290b056531d080c0012089c1c361a83c1a28170944c420915c90321e8540a472c11480022702c3c502508c9a03150b452040b0fc8c062d0203a0c0806061ff, 85),
  (101, 0x33260444c5b1d90426493005ca0232990078032b82060591f02c5063220e8b836100b03c4b1a034bc560213c30552f9283e371c12028433200444510e8b45c460d818204d0b1841e072c0c434471c9145e0915884043d2d09c18352e838c429128488415270143852120a8143f2a06465ff, 76),
  (103, 0xd034560687c56511d0fc865924810b84f0e990a6132a86cc0382c110041517040b60521100644e2e91c7a462f0c482061817c3850160a44466009147c3b0b92c1037308986c09108a8400a0c8d44e2531030ae3929194460f1781c98122a050064a0c02cc61e07090502d0b0f0905a0893467ff, 52),
  (107, 0xd836122192c12172b818b6491d118821930954061f3193cb4070e83c46022b0608413330f0c01a1b9788a3b33934ba38168b0724a2217c7a40239a80224158b81827108c87e3e198383c04180981a342882c5e052c0a4a61534920b84e320443808261a02c0a290a84a3111040ca142a18840282c9406bff, 53),
  (109, 0x372916c520b3209c96671e0146415250a0b85d351083c0d1c9003218209ac4a2f0a0cc5c263297c6a1c1081c1e041e968a6561007486630607cae2436004921627184142a281342e1a098c0d25e33130a238070208e3f1d1647c48010b0aa54168d0c04f1580c20112288cb03b340c40c2223024c4440906c6dff, 27),
  (113, 0x392a84cc622211a4d42c088904264368c46a0a0b00c822309158923419168de4c2887ca60c0285416541d11cb233250b81236159acba0f0d0a432101692ce00113110c2582415cc4140311876682189c7c18150dc3a662e1b0ca1e290804a020b8fc7a280d97c9c303716cce3c200101a50269808a07040bc9e0e2f07071ff, 14),
  (127, 0x100406a081646a76041e0d8342d0b076480211c78751b1f0343a169782c282e8b8485401198c6310f1ccf4390d93c7c60068603a322b08c5e420581828703709c2e0e09130547e00954666d389a0b011079acf2741e940b82926988ce720f904606423014186127070327d1596ca2222b9a442522299406490510c707b1b910a6252584c0e77049284c6f0a97c7fff, 75),
  (131, 0x1084216291d81667148cc7606239f8ea532b06cb6642f938065e329307e113e0f4d670158089e49379b0642a388204e20219cc5e2e3a1fc4c09309b8946a1f134c00a3b874701a2ba08022c3492ccc0c3c88c6c450c8e42a223d174080f2a950204031970f6122c9442e141d0d10258098608c07391106e1e12a006a240f8a0d02d180380a3c3e920a05a0e1e01a313698883ff, 5),
  (137, 0x453385cf060280c4786318144503a2e8803c853b1dc303e3680c284a0e884e61a080a81e1b4397076324010418840f978f66623158140712968a6352a91cfc830689010490a9c098272916d1001170dcc43d0c9d08081329f00c0b210d0a83617991047f1990c460e159a80a7d24024ae4e16808dc7a2f9e4de16341b07e754307096710904c086b348b09e611c1644c4d2c0e452113908889ff, 107),
  (139, 0x11846742b838740a389540e130e9ec0a333f0b4e00b249809e882a1c9067924030be4a1f98cb8021c0f896293509c6076368448869150f4720f439410473120c80c563a8c44a20329b0ee6f17228025d0e0503e2635998b4161aa14b2670c02476043e1489c611111cf41e0a96cc821311009a53448bc504c208b0fe43090203237018f056424006cbc0d2c218206e3c2106c1a40944fa340b9a08bff, 94),
  (149, 0x4b38064700f2b880383a290f4ec56080141c390e8cc526e34944760315914101226a240e4633908b29332200be141b868fe6539904d06f2604cc061368a8081104860e20b47a209c2f11a2cfc1b10954ee634a004641e201d0f417051c8cc470681914243ea310891358a06835411244c2d2a08860163d97902360a8c4043c298b89e8e06121068d281a9245a220b04e6c311e0b887482147e1f2c10cb6793a8f90c5d3e09495ff, 44),
  (151, 0x1304c7e09a207e362a8a88867359e836923b0a02a0411048fe1740a507a0e2ca28925f1da1c28292b190045b0888c12484598cae62461789472351a00e513c1988a2038068f606349cd1e47050e8c04315878649600994f26c2a0dcba8d28020482e48870fa273b948621f232405e2d12934720b1a900680c27a38e8861e25466413720c205c1c1381a3e449680616400610a7549a08de21029f03a2c1814cda42309601e840c9c497ff, 128),
  (157, 0x4f3b20c766e48194d8601b8c89097409646c61180f8d4560c98c48164d0811e6f3d89836453f94c30570fa6c6a5a158a8b65240260249505a249a28080292c4943011189409944b85d389d11c213c22018393d1c0bc344e004d23f1688cc8910a894f80f148b080412622812114c85ca80749a34ea500a248108b028749642399c88668011f88c8525078b0823b8885c0e3e80d0e791d2108e332f9b47867220700c55359987a311c0345e620d09c9dff, 3),
  (163, 0x1485288330c4882319a68d47e11114c67d358609a851a9087e270892ce8a0419a12047438a818073c261281736008427f38980ca892d014ee081d050a07b49a6468862427cea164a93c2a7603034aa1f1e1cc981925048ba411b288026d3111922594515c6067421392c9d16a38a80e468b8085b0e9bc14101414d1e694d8b13c490d0f886321220942374603c162b4e25cf21c2e04c7620018bcb0923e190c26e0f159163813100bc81128e412704017ce43d0d9e8a3ff, 59),
  (167, 0x150541c0a9d41c0c2f1051c26038b40c27179c4e8162381026452ba74d48501920ce84359f118881d13c160f3b8dc04862e834ec103f9e544951a8d12c292a8fc485c43a348439448247c562305c88140ea7cf66c2c934b62547990dea6008e0861841130b44e1d8b0108a4998d2061289a53c1e37194342025a0cd0523f044e672090145c284b8c5344a10a94e0304c270b06d0f86c563c11900bea4110f41450312514660488cc6c7840284f4a040864cc494da646492459f4a7ff, 35),
  (173, 0x5741074823432a20ee7d0d1d912142212d24384a8a41a671d93d362d0527444033e1e092610e20d42a6359e8ba13452ace8193f1fd488f36a180a8e52a8822812c0587c4e1e170f604439981c544c1a94e202983d185b1e85d0a6e301288a73560047468319347e284b1c0a4214f1691a0621854b29f238995232289c4be6f4b954589c058203ea8139003c09170bd28390108d3450199080e0c1524498641a8c5548b0828d00122f1c88ca042060ea1b311a532241ba4c603612920f26c480acadff, 145),
  (179, 0x1685a1e380481e401c0281239308f840060e13c0a212f144ec90451bc3e3f0811c061a0704d029c2e12cd48c17a6d04661d808902822a25225634930f2530402cfa2c2da741a1b03950c6af4d0c09c1d17234fe251aa208c11388554e3720a7c668f3bac8023c1220028723e0313c42511b4567e470d04c854b195061902140beac4c2982c58438d950ab300e8ce4a2e888546e459ad6278268c4308413924d0570b8c940a54cac0d8a33a2508829118f4c455492b8c89756a4cea523d2a9527b39a9142434aa18b3ff, 104),
  (181, 0x5b4425c88a35303444ab561aca60730abc221058144ac7d481e908692f0e5166759124c6600412cb09f419ec56754c8a090b31e8d0849d479f85e6f3ba09401b47278b22e3f999186e181340865401d0581f5508d38434c1d8e0134a8314e940a26c483c5a004f2910d284420e5488144451f874e4194902d2c89208d4a0b1342148e29278d90e5c0b89d3415198f88c861b8983073409e0046d46870808a1d0c82c5d352b4aa523600c9c2a3e15c98311d894705f320154aa4031515c622502414935403c24710f0b4b5ff, 50),
  (191, 0x18060200c2b0202906228aca5042a4e879031d88aba15a35643602255682e1d0e13872018dc76a1411bcba783a81d4c142c9a0363f011cd54672d2d82e210e8f838222726c722f30920f6433e849609820ab92eb14728078514d13cc654299901492460b0686a36898febe0090132522aa2d263316ad4b66c35970e0253720c3e31070a0227e1383d5a423e110ee5e4821848714ea8d02a24f2a012652c05498bd40290ae6655865704a23988a03d0f21110bc2688d0e854882c54bb448346494029e892b92312c2cb70d1a46ab34b2bc26a74fa3cbfff, 171),
  (193, 0x6148a85523a589156a760e93d723441a5176b01d9fcde17440557aa60d2a1440a252957c9b2c16cfc3c5024930993619488b235a697e41299ec1a7a2a174a2ab028484a6a59920be31572745807472307e4e0f2e0a05e2482c9838568c86c9749a10445a2c88d2c37269018001409d1142b4f1a0ce9f1e8b8548b4785112755b1e0c67104a8ce6821a8cd74951204d20623c838ae9c57af02c70321b48eb4231b90002139581e7d2e1545029178850a43331a44c030e1dd6e1f0ca9c3604560e55452212182206168f91a0839290960c3e0410e18100c0c1ff, 125),
  (197, 0x634a084948a39adc4a0b2282538905f0b8ea1d342310a3d338789c432421cbe110ba3d3a03389306808230c14ab9409f92c5107a644ec34223448b8531e124b235b00dc1555159629332065360a13268347002160468e0c1956a2d5f9b1467c1fa249672459a4d4b357870ec8362004844f54858245b2e0e8a67a1e21892222c8193010302b46ea236b04aaab15a7d762a5618464143786d60570296826332687c1aa11c104049e162d8e82f2391018204a9fd7a913c95184281b2b968661f1f504775397910401c97550504b81c6a295e20174a007148767b520c4c5ff, 182),
  (199, 0x19064a60c850a680382f014be4685c80491c0a4bc6e029b4be0d55010de81102bd103d0e310f091179386e4a33045345149a74d4242aa1004504d97148260819d76712207d04a9071f0c4961e22558c03d83c4e863f9504aa5198acd806268c118bf56ad164751aa6424164727c84c600a14503958ad45c9229054261a040ed2e7a6096d389411288e64820a81704c0386c7c8b1899496b90f11550832b030c0b75088cd62c3bb1486725197454343b0b56c613ea40f2981b13c06ab450fc30a723161861d5d1a0b4c22c9a53c8f3f21d603a04af41657239d166ae10a54c7ff, 163),
  (211, 0x1a86ab0422f8b0c421204be3016228c4cc10ad154324cb38304e0b0988a2b18aacccc23d040b4d02a934322e5b304ce1b061104e6e05870263c46008fe5e4115d7e9819900c28b1e9c0108916868d09f4a31920533b0942ecf2da6d944b4e890ee39032cc44503ea1c6e0a378f81c9239a903c2a23348028d54ad45e6020b152a6464a70985641ac440cd4d1715e36440247078022f15c5d4010c1a3f1a1ad72a62532cc696241c926a01d850f8513a951a2474bb016ec832ab11ec75c1b0241d52ae90c7e019e58659089b450a2542395abd42aec0a3a508a43eb2039c492a7519d0a491079ec2a4f11a78d3ff, 209),
  (223, 0x1c070ba0e10cba10070f922474f28c10ab03a903e875c26926a0278e9825f020c98a1239988a4893fb7166cb2e1109a995c8e4a0794b9083a81682893e94010b432ce692a812c854b4c620514b29680b57a2cdca8648a9aa18171a844854b1e9785b661b5185714019581b5d9ec426b3f2296076341e0a2635f96494de00a550c203e238ce77348bcaa613a2f8c824620cdb2b74414ce4134208cca492d2f4eab1638296a161b9c4a8306a0ac2ab66d2b818360bb586a0d08b1964dd259007a0f2f3093a483323d4c262324936830a0b006602b234fa6c668695adb400794a901f9308a272c30076d81a35c78414c13942d167a0938c312a9cdfff, 17),
  (227, 0x1c872264727c269223a91821f3da0c92354ab3ca40669321029957aa166ce4b225180b5e159b27814ad406c334890c842592a57c8064adca8456583cce61258096cca2324ceeda2f1d456906f0cc780843039983839b1da67d5337024a01937c42c52c9618c742fa6c805c6b0dd9ab4151d928366b8a0f2c0529f944884bb88024c2d904ca3e119a9760c5693cdab917859580d43a8c908437875168a0f30808b121b440e3d3304038705585daa5d6da9d600529ae0dc85049b0a09d0c8b5c298411f1a8184f23c581a318947431509fd7e7a103805cba358291a276c15cb44d0a8c076342518836116ea44284e57268c068620887e9c28b4088555eaa8e3ff, 80),
  (229, 0x73562fcac17692d0568c3f2c4d2b92d15110802337c7e3c658154e8e679ec5a9a152d4883b2009046417122924510f021b01c3aa198cde239ddb4af581fd12e3268842a6b66850442548178404e090c9085049b20e23a22a0492294daf41ea302330d8dc072f95ad521ad8c69d379812cd45736cda0c650f4b068591896e4c72005322e418ccfa8d5406db278050dc224f429d8908217a88203813b5c12790cb8484d614129789c3228156740e9492a6159b4d2ec54395580c368860f4d062260045c330d46c0b372780e1f2f9c1920d6eb1d28532d80d48c260a9554a1182ec96b835058ae3e7006952a60327cca5d48a2c587c1a19cb2ba1884d9c8f130e4e5ff, 24),
  (233, 0x755789d9846440c8cc0d118d488090c99466303d9710cac47930440e3c94902e5539b51cad0c02964941700c86362b15178bd132c0226b03841620b14b156aba73a7190d455a1c8e5f658a0186702900b29e252802eae3b2492c690da6456c415268bc4869b2426722c104fae355354f00f041159a513d0c5121f6b9fd9e852ea6dd00127230c81a3504994605c1bd301c52385b4710a0fc0c6c54244eed610059428b27afc4abe2833900532b9cc76d224a7c969054b9104dd6087914a2310f82a21268085e3412301bc386cb88fcd81cb0c582d4aa4d66a6732ecaa376fb44785b3e10808684b9c1b6c74e9687a63469b972b642341c0a55a319b8835b985461d610e8e9ff, 162),
  (239, 0x1e078280f06028de0797418a3050b8de083fba14cc303129921a02b102e1f57a20081b5ba18e88c298a9b25f01a244ad66e2881a593d190c49d419cd0eb067904884f011810ab8698e486421d2a08caa50b742a91723094e3b3c969782445238d67d370bca26d3f02548271ea6864cc18a6d8cd25cb3962565d96cb00e6fa4d3035112fd3eee0094060cd5d15cb81070a5d28344c8f842360e8a4a8be11af4aab26412dcc7141279808139210c265658cd2a765a1205a0b2f368244e22aa48eb556ab16c1c1b9a91eed502ad5c201f9a0f86c2923516754b3889a130cb28ccec480598a9c319ecd2386a3acce406836056ea6a8994ae9161240e7073a0182e52638d24e008b6daed163accefff, 173),
  (241, 0x795ab25a6d96ea6dc4437282dce66633a4e24e4d379d6843f20dd8bc19adcc6bb7688d62541387c9a7237889dc612138c7e9e5d190ec5b2f06924d86a30d544a6b181de51450b1a2a515025187c442e53e681ca3d602408968ee3d54b1042707537d3099278c4ba5c192f47629530705ead06acc92ab361d0d4dc6d098aa1012b6cd6ac18141e00150b048a860b331c29c6585c2a873ea148ca81f39088c26a92d90b61a2fd2a9460288b0590901d02d016921687a4bb819a41312e112521c1a4ea657431c98206299d40024886d4e4717074325f6ba4d2c7b468dca6b2072bd200367a08fea4693293a40670106c8e1d2f86a05371ccda060995d4680040ad160a730315c0f2b050301e140f0f1ff, 101),
  (251, 0x1f87e2a4eb882a1266038e2c244074129f331800eda5b018c2bf223d918ac410359aa619ba0606840ab4dab12da58066c570d5baf311248f620230b4ac5920bc10875722cca6024b8e0e8850c39c68af5f189a8525a33dace055a34963e3fb706c582b8dd30287622dee900885892a15db48209111b29289c1589954e14f028f0ef210ed70c13937dae3253be802546489038891d10d80b90620de25d0d145aad02f99c62d8353ac52402d2c9caea35810e00f6998d88a451b143e7c5eac0dc500d89458475489d323d2631c28e33b21d86647caa09017431dc16ba512959cb56da00d2d9040798c4d47be0caa0252389c7a49b2c26c82a8b9dc79279bc0ab71e269ea4510bd136952e3c9bc731ca29da2f74b98325e68af0fbff, 153),
  (257, 0x81608adc2b44b329e2642d3789659328f1f2bd191cc5a993797d4c24569dd66e20f391fa4a6fbd832425d3252ed26680d701458360a68b090fdaeb15e3e9b47c38a7c1e9e390cdfeac129d5e0cb3db6d1ad510830bafc729e998d3348c1cec041284b80d053a4b04c3605d549b63310120e5020dd8526cbecbc703e858da3a1f04d72436806d108927918726e4d2ae00012b19d26c85dac8f079730c57c487730d8e9475a1122a3030a15e153f185e6f81e8eccc57752556aa90c3dde8a5301fc821a68a605c35438700aa47ab805874132186c1146370aa026723cc6f2312410a2703914a02a613bcecae14945da497f0d05e6a1c11d7ee8058896e040eb8c3e4e45151ba5b51248d0d44733c880862a7150b611a9d3a101b9ac9a206b10101ff, 164),
  (263, 0x210842c1093c2c5e4a2f9560c05ab05e722524cbe5a6c9dc0cdf449e4ac974db0c728c128119a7c598805a91782a97e3401899e60e640cd80311590d9e3768879cab9502988cd74b15c0435752887cd56ebf820804d26198053c228aa7a7194834414298c26fa7eb780e12323293a593030938cb4ca054aa175aed3eba7631c1eff7b221c01528064a6e811ad9de92259a55f06009613cbc3a860a2e40fad1dcb77909cfe11043e0801b269a0981c331890c6e1e1ac8aa7571a87aa37ac00520a06bd14882633b56a2446ac8fa8f810ecde6d43bdc122a19324ca1d69415607118304c26727089d236680e188dc6b11da83f7c851c30469920ba173b369ce54458ea06e23db38886c382c51c7e14405202e56aa0e8bd4ab60b6fc7d970927354bc570e66db1507ff, 258),
  (269, 0x87650b4ca1b4eab5720f4a27daaee6e825c6b6472c494ed6b305e2713b815eada45c01f0352db108e286faa44abb7e9e8d6037394dfe8c5fbc1842144bde023b368e598564013cf8d150c2d689a3109154ea0a365ec8a6d8fd32b5720be0a901ebf178c944089f4af5823e0c6823315cc043c1bcc29b4b8b1963a8119e0e19523217a9251868cd0315a6080b8573ec7cdc77b01aeb386004b4362687862cf0917caacd3ab8814a7799a8f650229a5e8065302da642709d8e4ac4f25612272431d4a073f174bc1375a14885108b40fa086f0a4b074670c906171a3e4466374aace659011b078915f2356e416a281a40c0b211d84b0e939020e5d09a14a249840a4e8320b9cac624ac9b01506a08661884259381c260dc40c32e1fcae2a820c03e38371e5fc54301c1e4a87010d0dff, 41),
  (271, 0x22088e2113d0e2d508c00f42560125e50648021006b1e91d34da3019d590a3cc0506992430408972002d7acd5330d566826c30dade18381765d2b3e10aaa621fa10d164851a872121edd0b40128da615100351ad7730b1dd0329acdd2506e9b868b0572a50ccc5f0ccdeb80c2dce0f572b616c1915b9cf813650b8aa5e310187e98423e5e09c7607014413520472ff091f58a1e3a0d8b50e00ad5b29b7892924fd083591ca567415e6233987c2c8b3bb4212ad58ae9c2457e24c50e47b1646e2a0d27cb0f72ba81b85121a24cc612fb6d42325f898b8bc06085c6291c20a04ef7d0f0d90d2d89d28eb4e8edf6461f01d224b32a282eb9591505edf18a8806c25399098692114a08cf3c42c9cc73b2301c960298d50af1a9d590d25223e0e7f048758c4f752541efe1d27836ed16b2d0fff, 191),
  (277, 0x8b6839cd0c27f18c684d308fcfe205e27434dc58b8976215543d94cd081d8bc2b6cb481a15372e9c6923899dd07d4d874aaed890e0cad478c0810c41d9105f04500d9eec13482d22e44abd86f132e9ddf84a24bf586095f21ce8e064c41b02c4cb1d6b0780bc912460e2717a0a3501e06304089c083e313fd50a911235442641294a0db0d91e0cb675a197e2948031a666393c1aa973d93d4c5c8a005726f63268fc4012a8d5e4284a15d856478a8be0f673e874c53824dde73443ccd86d0b2cdaf1177251ca12872ae16583cbe59e8c118501c60271f1d23d029306aa14715e18520c33196194f2e004de0fa006284852b0a81e6f9d422e668b68a30d0989082b06e80c50c07c1e9302d5729106322da9e0108218f1d4b74fc14904b031ade85a1999072fb3c165ea966b2d190e15905ca6ad1711515ff, 124),
  (281, 0x8d698bdecfd52414f6cb859cca4e387ac9947c790962457630dc52a37f3fe283f2c910ca841f454f2134fc1d12185c3a0c6995400d42ee6f21cfe728605d146a5639d72cd110757ed6213603e708baf192b34b251b8b188425a2550640cb8513a0557c1e6cb04a8d2472c1baef3b8b0de206842998ba1ca090cdf4c1908aeb1a82cad1380189d2247982022914d8d1d8ab35b3c42ce360cd38281c2ee30012f385e27d732b496f8252b8dc2d729f9110888899ea305b8640cc3873905cd45aa0474934bb80be4d07925f2aa76a88543c34a2c8ec52c101f65b8229590bd0b435884808024d03d42a0ccc502e80952fa20b5c865a7e3dc9860191b55e8f810354e9a490ec56788b1c500b6189860290091ea0ca00236d2ab46ab01b4050d06cecf07114d84077a09d3a4f338286cc7530389c9e0a1d438237511919ff, 91),
  (283, 0x2388eec58954ecb6732b570c11d988b6d939865c8d82e26ddc505584462985d9e9f46963bf5345d39368d87f171adb6b53bc145118718692cc55344c9909759207a0c3e8e9849278bda1908269e578021c9f8da641b1119aa30ba4586687d815d08764b76200e0a08d18d57f9f01b1125c51e0932987e2e291312a24a781a2c48105639c0c2c661143a82308f09227833e4f700433a508575a37194712f46802bd551447e676225c64950da8044157a349beba4cbf9ac4f77c54686f85bdd20183a025a2f579011f8c8440ac0ed0054393e1c2323df1078682c7c524a0ce2c205996115043c139aee55bab93ae28c97d44ce0983c4a2a44965c29e87b79a6300933c10752b216023801bcc2ca43310160ed4e2bc82a95f2043c5459085426041baa1470658b500bf218de04a82130172e02d18cdc3532a958c6a17b511bff, 62),
  (293, 0x936e0c4dc58558546e72160a1d07c4e9fd5cb51c8d82c070a2b0e8fc1f099c260690d0ae6f76ad15e630da2c170c4b170148c2b0d474033f2783e2f09822061218374d3190d1917c8e65292129b2d209d5236215140d76c19930d04341c96d4170800a6b2338c567356a003adb4a0947e8427b95443c55165387d02086290204974309080c558f0e8faec1a6d1903cbee223af4cad9293ca2eb97009c5ad520beceac392004c4b015390a0f87f114d80e19b4c98c03437886c68b3cd7118350182e5e080912b0d644704611824855089661edd2832035942e6802449508529e164fa2137d752082bdca2da0f27caa8d5f9349c8568984043b51b2d141c4096d2e6760c2c18bc243d626228ec49ed0643a9e44eb7833d331b64a3c331a4d4298476388e16cce7894d8a447fb9c52b13cc463d0f77bb0e07753221523d7ebe566ee881e99ab77a12525ff, 120),
  (307, 0x2689b006035d00163048a0a0e203e016ae184a922ca8e3500f1f100acf8c74f968ae680c1ad2afa7130ccab947284d4194e8ea5231080bd5f301f151fabb74c405b2662b9468ad061bd9eb572318fa5038b85f6db66009ecef23c3dd4ac1a9e54c1e742f03aa797225651e0428d628a7889930e70fc8054218c3b9ee4187121112f5829126da7e156189c0d119e08b03355a2bf80c91e8e039174c67f6c37450be6904a14768b88a0eb8334c802cd3d8b2221c5e8a642613ac2cac5b5a341acc1298fc1e323a188bd2d5410ddb194b89dbc372ca811e83022add625790f08a1b8942427142626e1a4254a09212b0aa05540546458ee4b8aa3574fe4392448ec220f662672c0e0a4c271ad8da4f3f1918927433fc9c6e06c18464a3c0d9bef501a12092381029f2968d32524a53d338e0511ca79911b65b71b294362de11130a4b0be1734a88130342ca076f3928b822d38eaccb87319b9933ff, 269),
  (311, 0x2709c3413c6034c8579e5186306830c8c579bddb0dd234499a8e510e00c90190edfd328a8862e283648a1404119b91308814448f0c2892438ba01c2c90520cc65721d3fad532c3932f558bc93a5c282e1b0c522e24299c04bb568c06ea3703b108e340a7e48875f9990d2562195800b07184ba4d4e9d6426d121ac53305425a50d77c1a554d56d825ecf474411fa3c49961f4a52b130bc5b978a9cef5053042ec70d92968807247ce2456f0f99f36009a1f2597931830535ba0ddb1c38480ed2d211421a086e365d6e1490f5bea47d8e8664f219065c5c312359c3f3003d428f03c39991365059849a75369ad29961dda473092c5a2785804d30b62a2cc96574a4020e8a3e4d5a0b22aa9a0d0184c8d40103da2cf4113a27904b88d1f83d1e72bbc59343ec6ddce615bc04c3517ab99314998b42acb878822c22028e5f90553cc5fe95549a84af12d17c80443934e572a6a2ad7c8837c743f1081ba537ff, 234),
  (313, 0x9d75c16245e8fbd9125717ae6592d3dbc1c30b642b568527cc5d2c9099875b41b3c33e1aa6913b4c83779cd4b42a1496e32509402896d6241666cfb55894daa2553f078fe823b246f829cc9225d89b34652a5c0c22cfa9b9a45a720a9096274650265233140ad284502c7584c035c2048ac649d5364f8d189e43857b8da72728ad4aa673f3643cd83f839049a3b1ea5cef3e21d8d254ca0dca0865a624cd481bfc32444ac60b8920c40116863e9a2700168af166ae1cc854edd10a91eb201d0d8ca13509ba62545b2802873592f4940b5fb0d3eb795ae8c31b302eda4e4423a024662b22a02476b87dd49e621c11b1518b38f2770e4d1e8a5874460c10981bd8a887bc918f0c680087e2384a041f0736099b8a803b988216268d476fd1ea3d2ecc8a2387c03703c4c6ee97845d2206f4421edf0211a04d52605d262c353063c5f8e01952a311101ce85461c45c5824af8180d40429c4b021869b6271a13939ff, 158),
  (317, 0x9f770d4eede5c911b4e537bd5f63d11128da1c88c91acea8cbfe392a5ead8225212c3dab25071364e1e491f8d63a3aaf256ec8f2b11c374a9cdfa032d8c54ecb14ad1620d9313a128b989840e5562982644c07b3492231fceda9100eca1b2452f21668bb3b0d91ec42b4e08e435d4d5d2d76c4a63aed500a198105b829e4d1820cd662a2d011eee0529f5267b13a8647127236e6e5767c8945026490602a318171330e131f14c3282aa58690582d57cd39e004d47f442355a7a4a0e2169760c5c5ea470c35343c7e1d0769b0d9b9cc0631164561a4e45984aa60260ba469cb8e268a850e4d84b99a1a5a718aa74a0200a194cc540420df4f602b9cf2ae83b1d04095c37df0640ac805a69013fa34f4384b9e20b6e9e1d1366e03164347785e608c44c50e4968638a7440652a20caf4887ca21240b2206d25faae3e16784bc306817461d72c43a0026211f090a6670c8b242d079c6e004224338b0637ca10bec68413d3dff, 157),
  (331, 0x298a71467ca91447869712b3c22afd9340962e45c3d782193c24643020a8d853a9413b4b51a05170b95588ae3c1b486cc27b64245132260c0ac942c9d94842bc4ead82804e869b25cbd462a40832620758ca5a040312ecae2c1e0bdb80263894cc4e669aa2537049a59d15194b898db1830cacbc4a174b2d73b0a548f9742463d10700e8d879141dd5f01a3bb5e720659127b337b8e02b25732d00d329f06d52e47f1c674a13402840c218c5a063f68c902d180f24d7a423752802dd84a39712d19cd44e7a861206b1a44cae82e355045b44d33a8a600d0cd152e65134da26540c03a0e8015960bc0425271a9236937e226b1d8b574632929e44d53a3c9dcb747bd5111b383fc3b191b1f5c5420a0e5c27e7eb964c84a49be390f8fbd120e9859ec449aa206a7eca90aa039005802270fb39b58b4c60197d32234fbad66e77d4e4e4fc3fc21bcd34ea1ded341a1240ab5082acc2415f119168393ab58a5b87475241f05a09190607ad9de3e82304427c1bbe14bff, 186),
  (337, 0xa97ec664eec9ace678ce3b0ba860da2afd3ce433b3077490b85a94b657ad696d7843509ef039209b829333958c25a6a4568b005a4d4a8d2d932007c81a429c448a051091735379a0463c14c72e820ac8dd335eab466978d880c71d5d90e9e7178ae0b48e2c0c95cb7793cdf73077941ad4c13049010c1f3225540241f94e5511449152d052c484bc9a3b46b3237b2cd11111d20793e692ad8ae63a4a592312cae46e2ba10be0ed87f93584fa7a4e26d2508429b5249bbd60c30651c2a00170a1e424b2e0685a7723d04581b0c974ae8f82148f24a9103e4d1a4c3e2408814374d68c531fc271504cb880e9433883f1c320752b0f5051c48c71fcbdf8aa69c24222744c4c8ad19fcac0a7b8098842562f17d34a38fbe586f74c981c0028725868ee988d9751e522503ce34fc40d3187f366168139b9c74cd9e8f61a0360939aa5182bd988ac5f519429d60012588b363ae507567b7cc3023e924f4064e28936079dce8111642ba8dab349032880e91b6d06150c070ca2a1c15151ff, 199),
  (347, 0x2b8ae3a6cbcc3a7c8d21e4e8e5e4cc7c5146ca1e289a0a748e532f1da8e2d0f819ac1c7a28d28e993221e4daa7491f8e66886dae3017b60774aa8cdd89325ec54063235a001ca83d54dfe652540e441649a90889b3caa4daeb5383d24173f318e6028b305768f8c9f43131629fcd8aa6590d4b3bab4d6923c3113932a18630e705657cc032bf7193080d503974a8611ecd2af2a96cf5c0091284e5eb048840165b7ba30a44811419f725751ba044b72056474f809bd6a212499972501f934c6d073d68027445be21d1c85a89eb129d299d85a060e28c7788165da711b180ab3989c259e648054296ca558b29136a91ec3c2e188104f1e7d41dfd544346e1e784e50856ac8288d304f5d30a1af98f8484c05102da309058bbdb8961550dbc42662813445acba12adda232698b4383b964e26045d6ec8a28e4b1117b17010e159d35b6f094d608c9e14a5c480a08c81072c95a12808a3a97c6e0d409a5a6353931d70679fa16ab3c97051cafd844517c1a691a866ce85474509f668d1a8416fcf8d08290c115bff, 271),
  (349, 0xaf8348d0623a0065e061603b9405e5da00f09a6fbe0c0f13ba04a00717c261957202607938268163d3c3e42060a693915d49f7786850cb594718c8799c050cc7ad34840e2264e43d2a4e1c1aa2b58b311efb4f3ac7c224225031412994a853668d6cea647f28e4ca706c0c28098a1a0b34a47334c676793ce915597d48867a894c55a583485820d438c804c8da5ad01e174a8109cb91c0d632e46248a0e7d33121ed16962e09e82924a43ed308aa88553250b418a8a796db0ca1497542de4dcae2e74ae005d24619308febc804d12685810396b519844c151b59d31153e1a0e5b70e528c48e678abddc0561da64f24494495490facb228d4e54849a1371ebb1134da3bd20ab01612dc71a058b81015351adcefa4833c27047a926a9492d5416c375d17df2e8012304e1b85c28394564b66771f392fcc4ce48ab2648876b04673f12444f73d4580d2cd72e0a9ac9720aad2535a19b97c738c0d96f2d2ab84423fac4404b2162c740c512a4baad0d6e398d8fd329f986e56ea89febd37a75f86da207674da1d15d5dff, 236),
  (353, 0xb1848ee6a6a6738e96ff1ad44cf0291266ac87984819737acd29c8e940955228c7ec5d56e67a1d131234815a2cfea613aba3352aa4e54f928b5e20a6da29f2602300e5e889e54e0d4e39bd4f46e1d42898a2a14e4909515be116923faa14c1b13c6abeec65486065d82d50726fac4e286b463832531202b063d3f229865abd18108470859376909f225013d49ad149061a53a01d48e958447ad21b9403aae42b604c1c28d6d424da6c1c480f7db158cb53e1e5ec9424adde02e2a208a62f5f08188fc46baec0013b350ca9da0a8e650e6fc366671554619a6b74395589b4e19aa53d2d05228c0034428b3b44b71674488ca91f24a80d9a67770aea8ede8781c30c310c758419422bcb33e8fcc54834804704443505709e38aaa695a1e14825e52806972085e2025cea0223cea8cbb5cb899ed634cd999191407d7f152bc9de6e7363b8265b07095b232af46e02686ba1aae709a0f024ef5c2f25c0489854c64b85b447cc9769b4f6b625191aad086380f07d0b8205496208c5b40b640fcbefa084b0c4163f24dee2c9316161ff, 195),
  (359, 0x2d0b43c168903c4d65050243107c89b40c32c20151204c2599405d93d22f636a080cf973221089f02a0d13505c28a710733011413d8882db6587e1a4f7297534c828f0199e60d0398e8888e2156a06865b259ea927c01d50192e148a25d4e5526ea3199dc04902814ea5569e28572a590840583d3f0d5d13378872911b3ad323a406a1c1f6595aa1dce364c4bcd0fd76d1c3a25113048e79108995ac39ad64863b2d86896f39726493283e2556f512a57d80231718452576e18dc4c9272f154bea7a2a0b3f66c7ddf66009e0909a14189ba1854af557194f216088b884fa0d39a229c11130b2c1a4eb1fc799c393a4729b0c964901c32522ea8346774814d45a1528407a353fc70cf98a01c0b2871b1ee939392836f22607e96761a1fe64e9954eeae46612b98c2b0885629176bd95e134620c026cb8545a2b0ba72fec06f6a9c9a2b1709901b256cc8e5af44b8de01646c499287d1f3b1fc6b87a32b8561531ec701300bd8aaf0bb79c9626438dbe8137585cafa38b5a30ac13a6cbd5e2ad74bf02ada348b589b556a69d8d526873a95c3567ff, 106),
  (367, 0x2e0b9321740532ec0b99a713d823c0ecd0618d8661d4e326ac0841564f0221d84cd0948cb9036c2689f18c502717a392f55ce8085220afec8121e50823656aa11821c1a5b09443a20c0e43f629f4c2a8904487c7331bfc512713c005f454739e9efb86b213af40149852e26c11a2e4c59204129b0f2ed436360216d51e912f8844b8c2541ca50d3956d1412915b3625119431681c9b5aee38d249ed4e74440a8de4838112ba0f9d5e30f7481a6e670a16a9760659a900b3679deb51623d26562cafd326b039f3f8c8a383370f56e00bd526696642ce231360e84610a19104d282c855f0a05e3be0aa4078922b5b840e2d286301f9f5505ab991edf48c6cbe87109e5ba5546262053603d5e14cd06a5a554a2dae5155565585b457924b5624d28815d4af0633969516a599dcbd91962529746d18936d3db494e623a08110e115500df482451ce10c7e4c4ba4f63c39e4aa983f67e2b96494073ba9ab9d69a055785b33ae82d612e8edac6ac42014e23218faa5e69e56d5116566dc1eb934a6bdc2cedb38654cd3a94f272ac4fbe4fe6b190de135841b58dd411ec4d6fff, 7),
  (373, 0xbb8c4dd1870ab1408ce41c045574a14478460b391b0389761926206152930294847dbd98826004072f71b1b81ce8835a239586fbe9107675a021b161313814245218a050ab94accc422099cc111042c1ae179b464366d1bb940f123a2fd06e25a5991d495633e55733ed0088191dc92615d2010e82fe45ce0264d13d2c0aaa094e4a4a118c3102cd42d19725ea8348667810951b67a773bc60a2a19a8094c2c07a4d6c6348136b8a385590a778a51acb196b657c7544bd8741a8d265f95538830b4dd59b8c8e9dafab8ad53913552a7cba005f2e05014c451f63859b12e49309311bb4c1040796e16eb73b3fbb200b74e121889f70a119cadb00b97ada2aabc124fabc745371858c9a7454321df69a90d51fb42518962ebc17bc150f434d11a9231e58d97701553a51621eba8ee34994d4304528ceab9311abe0044b5332458e707b0526f25b404c76e484fa115a2e0febc9e62db4c915874d2670f2500cd67389b46a36b93d3cbe687aa29feed3da583a59069bd1b6783cfcfd3cb2ad5e6a9033985b6194b422865962c9bd5984c0ed5522bd3456cab24f5232f9287e0ae91f17575ff, 135),
  (379, 0x2f8bf3c768993d609a59826e027c55608b4d4b5660a63dc8e0ce72bae91742c466074426b26a8de8bb480b5990b4172771c4acce7d985066761521d9755c16402946a9fba545787233e44635530cdf73a4c04d34b60082d40ca71f0d1028d221f2dc0e4e6a6ca789b1f8024c49ebc43abadadc2e2912876932ec295c460b4390075529cc6a2baeca26542288bd791d3929a4a9548b69dee22ab9e3e0f7aaa2eea3b12127c6b7920ec73b303d021705ad600d2453bd87c8f1a1d102a046d5889529d590dcc407482b412b3a70cacc9b0a86d2f3f5e802fd26516a24557c59be14b4884b76d5bc342e4114cdc4aee6dbea0f47764f50ad42bdd446c605dad0f1b20061f089880f5ee196c011a686b617129264ca3142ea73159ab092f2fe992a1c924a61ea851a10d6833ecdb659ab34e31e745026329a68358a249c074a8e3bc9fe1e8a588a0855f4fa09e6613cc4dfe2db7846b6bb18448f4320443170d18c165589701b65243c888c4f74f0fb060ad70d120744b7f450a14382309565a115d952644e89d652e1b9e0c523038cd209656c2c12b4b8b209ce17832ccd2c4dda02a470db76aa8e1fc717bff, 148),
  (383, 0x300c040181cc412d0c255f32808376aca6062a614fc9e39128190405e5d3155d78a7160358a292242960fd494f5c4e431252dd9911020ad96b84bc3eb1218a9515ec674a1d164c01c49636b4522123268132859071f986c85027d96f01e1caedb17412ce2368d33572907f01135aa7692a48b8fb85d828f5d564faa09da528454058bdb4c6f39a326067b82cdc4c5f60a41136c8c092ea3d22a08883e8416d26e540918ca8e0b02686346faf5e16a591bc50da739c6e4d75e3801f296e0463a1c3633d743a691093951a6cda0c2d19d115c5552265ff7e00a01ccdb95344774ca91e492321738e7aada2b156113b198adca32b5c13ec3540361c9852d5e20cd0aa3d84a0a58f2ed6978c6a72fe4d3b24877a0cedfb3aa102ab66709bd9debe90564907a821f16c4b464702468bd555bc35710bc82d3110e03e744248dda5a84aaa657d800dc4719791908f5a05a9d8946b081c35309786e3d403c54d6a7d2cbb9eef50a338db7c99bd1f0965cb42566a2f09ce0e863ad2a97b372cd9135a74341ce11b4064efa2e9ac3b7934cb042d427146d177b33ad3643419d5ad736c8a5456f2ba19d5672957e194f9fc7d7fff, 321),
  (389, 0xc392105242771a2c93196b542680f84035ce67a7b5cd6b0544a1353f65585091364d026c707b54ed4b897015f0cc2c17ca8864a4349a83b1290cb7ab9a44854ba64b24ea9504f936031c168f766b65196a082e3b12e3062d94f979333a058fe7957c554a21c60956ea48add3838229d623429045ea715e852f92a85afc4269b42254d054b3b6acac8b910a1774faaa2123620c438fd16cc200735981d6d5d51d8e3a37024bc5cda3b1321d3a0c1024b32ba9f87cd1bfa3866b23a18c2c3d3fbc0f2c7b95ec2a6452a29c848462e84b5c5bdaece6a6c1be6f03c2005044e8b2b6361e0d338536065be67aa17db8243700504d7d0c4ac1a916f91445a7527b819694783840a660a2db496779cc3d57572b6069c681138850cfbf34a24852ad611169aa304c4756db981d35a09b9b22f4c3bd00df7e0763964631e8b609b8b222890ba4cea2d46f204049cad0f02f3b36d08775b1324d0f594ec7c190910302aaee4cca6fad01f8643f0a95d3704ea23b95b85e2c8e475437a04817207088e05383c3c5ff31934b5728dc015d9a1b1923e2a4f22af0e501122ec8ceb2eb75ab1a570da3c9ebc1f6ec511aabcd93c7d28abcf3a218585ff, 226),
  (397, 0xc79552d2b16b64e2237745ded6ca84e3869f6ac14be1868c2290b6872a1f49c599bdb6dd875adf18352af0e10c5c1a545844b2959de89e853f454ce82ce84e6579da2c4c0bea9d6e71c514242bb5f2264e9b548b55f190e18886ae175583586b7a88c21d7606052febd230f45827e2d0a39a29a82b0333c3692e04ebd5b4417cc3e80975a62162fb3028f0a1b8d2ea45797fd6d8a6414066ae4792028befc85cc2b5008a2e636046e9d63d5da99241c6e18b25d1332b9ec2eed558fc1a4a61a9afd2028931ee786ac74ec2206101b6933f9157abc235607a24162a9dc84c6006129f71d86d3501ad1da2d0a4439f4b2a6e06d717382e22a96a0cf0da0f73b2a8780a73894176894d8b4a5625723f7fa20e8606f8c2c312726a1e51a332ea09232ec19a68c36ba59652c819238286b699cee408754b524dc02b65ec4d3f25298b34c3c15a4440499157891922a908014fa6b138084d1f64baa86e12c758780f731bd7dbf4a95dc4e8deb0391e4668233da46c9e80e38d6730419a2b12a6a516629a217f634820dde99134ee84cb1e5666307aa8bc76cc08b600c1f1015a693f884e60d32748264a812f02c463e563c5cad7094082c7c2a884eef82118d8dff, 121)]
end Go.Proofs.YtogbdnecpdcmiabDoor.Mr

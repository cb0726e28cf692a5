/- Strong pseudoprimes that are products of two primes: the sieves are sound. -/
import Derived.Test.YtogbdnecpdcmiabDoorMrC
/- Numbers n = p q, p = 1 + 2tx, q = 1 + 2ty with odd x and y: the sieve over t. -/
namespace Go.Proofs.YtogbdnecpdcmiabDoor.Mr

/-- the bound: 2^61 -/
def NN : Nat := 2305843009213693952
noncomputable def lowD (f : Nat → Bool) (b : Nat) (ih : Nat → Bool) (m' z v : Nat) : Bool := bc (Nat.beq z (Nat.shiftLeft 1 v)) (ba (f (Nat.add b v)) (ih m')) false
noncomputable def lowC (f : Nat → Bool) (b : Nat) (ih : Nat → Bool) (m' z : Nat) : Bool := lowD f b ih m' z (Nat.land (Nat.shiftRight dl (Nat.mul 14 (Nat.mod z 8219))) 16383)
noncomputable def lowB (f : Nat → Bool) (b : Nat) (ih : Nat → Bool) (m m' : Nat) : Bool := lowC f b ih m' (Nat.xor m m')
noncomputable def lowA (f : Nat → Bool) (b : Nat) (ih : Nat → Bool) (m : Nat) : Bool := bc (Nat.beq m 0) true (lowB f b ih m (Nat.land m (Nat.sub m 1)))
/-- f holds at b + i for each bit i of m, bit by bit from the lowest -/
noncomputable def low (f : Nat → Bool) (b k : Nat) : Nat → Bool :=
  Nat.rec (motive := fun _ => Nat → Bool) (fun _ => false) (fun _ ih => lowA f b (lowA f b (lowA f b (lowA f b ih)))) k
noncomputable def extB (ih : Nat → Nat → Bool) (m b w : Nat) : Bool := ba (ih m b) (ih (Nat.shiftRight m w) (Nat.add b w))
noncomputable def extA (n : Nat) (ih : Nat → Nat → Bool) (m b : Nat) : Bool := bc (Nat.beq m 0) true (extB ih m b (Nat.pow 2 (Nat.add 13 n)))
/-- f holds at b + i for each bit i of m below 2^(13 + n) -/
noncomputable def ext (f : Nat → Bool) (n : Nat) : Nat → Nat → Bool :=
  Nat.rec (motive := fun _ => Nat → Nat → Bool) (fun m b => low f b 8192 (Nat.land m (Nat.sub (Nat.pow 2 8192) 1)))
    (fun n ih m b => extA n ih m b) n
noncomputable def patA2 (tq tz i j o : Nat) : Nat :=
  Nat.land (Nat.land (Nat.land (Nat.shiftRight tz i) (Nat.shiftRight tz j)) (Nat.xor (Nat.xor (Nat.shiftRight tq i) (Nat.shiftRight tq j)) o)) o
/-- the pattern of the t below l -/
noncomputable def patA (l tq tz x y : Nat) : Nat := patA2 tq tz (Nat.mul l (Nat.mod x l)) (Nat.mul l (Nat.mod y l)) (Nat.sub (Nat.pow 2 l) 1)
noncomputable def zat (l zt x : Nat) : Nat := Nat.shiftLeft 1 (Nat.land (Nat.shiftRight zt (Nat.mul 9 (Nat.mod x l))) 511)
noncomputable def patZ2 (a b o : Nat) : Nat := Nat.xor o (Nat.land o (Nat.lor a b))
/-- the pattern for a prime l > 37, of which zt has the places where 1 + 2tc = 0, in 9 bits each -/
noncomputable def patZ (l zt x y : Nat) : Nat := patZ2 (zat l zt x) (zat l zt y) (Nat.sub (Nat.pow 2 l) 1)
/-- a pattern of width l, repeated up to W and twice more -/
noncomputable def rpt (l W pat : Nat) : Nat := Nat.mul pat (Nat.div (Nat.sub (Nat.pow 2 (Nat.mul l (Nat.add 2 (Nat.div W l)))) 1) (Nat.sub (Nat.pow 2 l) 1))
/-- the patterns repeated up to 105, for l = 3, 5, 7 -/
noncomputable def m105 (x y : Nat) (ts : List (Nat × Nat × Nat)) : Nat → Nat :=
  List.rec (motive := fun _ => Nat → Nat) (fun a => a) (fun c _ ih a => ih (Nat.land a (rpt c.1 105 (patA c.1 c.2.1 c.2.2 x y)))) ts
noncomputable def rowf (l inv M r o : Nat) : Nat := Nat.shiftRight M (Nat.mod (Nat.add (Nat.mul r inv) o) l)
/-- the repeated patterns, handed on -/
noncomputable def mkk (W x y : Nat) (ts : List ((Nat × Nat × Nat) × Nat)) : List (Nat → Nat → Nat) → (List (Nat → Nat → Nat) → Bool) → Bool :=
  List.rec (motive := fun _ => List (Nat → Nat → Nat) → (List (Nat → Nat → Nat) → Bool) → Bool) (fun acc k => k acc)
    (fun c _ ih acc => ih (rowf c.1.1 c.2 (rpt c.1.1 W (patA c.1.1 c.1.2.1 c.1.2.2 x y)) :: acc)) ts
noncomputable def mkz (W x y : Nat) (ts : List (Nat × Nat × Nat)) : List (Nat → Nat → Nat) → (List (Nat → Nat → Nat) → Bool) → Bool :=
  List.rec (motive := fun _ => List (Nat → Nat → Nat) → (List (Nat → Nat → Nat) → Bool) → Bool) (fun acc k => k acc)
    (fun c _ ih acc => ih (rowf c.1 c.2.2 (rpt c.1 W (patZ c.1 c.2.1 x y)) :: acc)) ts
noncomputable def svA (ih : Nat → Nat) (a b : Nat) : Nat := ih (Nat.land a b)
/-- the bits where all patterns hold -/
noncomputable def sv (ms : List (Nat → Nat → Nat)) (r o : Nat) : Nat → Nat :=
  List.rec (motive := fun _ => Nat → Nat) (fun a => a) (fun c _ ih a => svA ih a (c r o)) ms
noncomputable def stp (x d q : Nat) : Nat := Nat.mod (Nat.mul (Nat.pow x 64) (Nat.pow 2 (Nat.land d 63))) q
/-- 2^g modulo q -/
noncomputable def pw2 (q g : Nat) : Nat := stp (stp (stp (stp (Nat.mod (Nat.pow 2 (Nat.shiftRight g 24)) q) (Nat.shiftRight g 18) q) (Nat.shiftRight g 12) q) (Nat.shiftRight g 6) q) g q
noncomputable def leafB (p q g : Nat) : Bool := bc (Nat.beq (pw2 q g) 1) (fails (Nat.mul p q)) true
/-- p q has a small factor, or 2^g is not 1 modulo q, or p q fails -/
noncomputable def leaf (k p q g : Nat) : Bool := bc (Nat.beq (Nat.gcd (Nat.mul p q) k) 1) (leafB p q g) true
noncomputable def lf (k p dx q dy g s : Nat) : Bool := leaf k (Nat.add p (Nat.mul dx s)) (Nat.add q (Nat.mul dy s)) (Nat.add g (Nat.mul 210 s))
noncomputable def clsB (n : Nat) (a x y g : Nat) (m : Nat) : Bool :=
  ext (lf (bc (Nat.ble 2000 (Nat.add 1 (Nat.mul x g))) kk 1) (Nat.add 1 (Nat.mul x g)) (Nat.mul 210 x) (Nat.add 1 (Nat.mul y g)) (Nat.mul 210 y) g) n m a
/-- all t = r + 105 (o + s), s below 2^(13 + n) -/
noncomputable def cls (n a0 a1 v : Nat) (ms : List (Nat → Nat → Nat)) (x y o r : Nat) : Bool :=
  clsB n 0 x y (Nat.mul 2 (Nat.add r (Nat.mul 105 o))) (sv ms r o (bc (Nat.beq v 0) a0 (Nat.shiftLeft a1 (Nat.mod (Nat.add r o) 2))))
/-- chunk by chunk -/
noncomputable def lpo (n W a0 a1 v m1 : Nat) (ms : List (Nat → Nat → Nat)) (x y : Nat) (k : Nat) : Nat → Bool :=
  Nat.rec (motive := fun _ => Nat → Bool) (fun _ => false)
    (fun _ ih o => bc (Nat.ble NN (Nat.mul (Nat.mul (Nat.mul 44100 o) o) (Nat.mul x y))) true
      (ba (low (cls n a0 a1 v ms x y o) 0 106 m1) (fc (Nat.add o W) ih))) k
/-- the inverses of 105 -/
def inv105 : List Nat := [2, 1, 6, 2, 16, 21, 13, 6]
noncomputable def chkxy (n W a0 a1 S x y : Nat) : Bool :=
  bc (Nat.beq (Nat.gcd x y) 1) (mkk W (Nat.mul 105 x) (Nat.mul 105 y) ((tabs.drop 3).zip inv105) [] fun ms => mkz W (Nat.mul 105 x) (Nat.mul 105 y) (bc (Nat.ble 2 S) zts []) ms fun ms =>
    lpo n W a0 a1 (Nat.mod (Nat.sub y x) 4) (m105 x y (tabs.take 3) (Nat.sub (Nat.pow 2 105) 1)) ms x y 100000 S) true
/-- k odd x from x on, from t = 105 S on -/
noncomputable def lpx (n W a0 a1 S y : Nat) (k : Nat) : Nat → Bool :=
  Nat.rec (motive := fun _ => Nat → Bool) (fun _ => true) (fun _ ih x => ba (chkxy n W a0 a1 S x y) (fc (Nat.add x 2) ih)) k
noncomputable def rowB (n W y S x k : Nat) : Bool := lpx n W (Nat.sub (Nat.pow 2 W) 1) (Nat.div (Nat.sub (Nat.pow 2 W) 1) 3) S y k x
/-- the pairs x, y for k odd x from x on, all t from 105 S on; the width is 2^(13 + n) -/
noncomputable def row (n y S x k : Nat) : Bool := fc (Nat.pow 2 (Nat.add 13 n)) fun W => rowB n W y S x k
end Go.Proofs.YtogbdnecpdcmiabDoor.Mr
/- What the sieve of MrG says. -/
namespace Go.Proofs.YtogbdnecpdcmiabDoor.Mr

theorem lowA_sound {f : Nat → Bool} {b m : Nat} {ih : Nat → Bool} (hih : ∀ m, ih m = true → ∀ i, m.testBit i = true → f (b + i) = true)
    (h : lowA f b ih m = true) : ∀ i, m.testBit i = true → f (b + i) = true := by
  intro i hi
  unfold lowA at h
  rcases bc_cases (· = true) h with ⟨h1, _⟩ | ⟨_, h1⟩
  · rw [beq_true.1 h1] at hi; simp at hi
  · unfold lowB lowC lowD at h1
    rcases bc_cases (· = true) h1 with ⟨h2, h3⟩ | ⟨_, h3⟩
    · rw [ba_true] at h3
      generalize hv : Nat.land (Nat.shiftRight dl (Nat.mul 14 (Nat.mod (Nat.xor m (Nat.land m (Nat.sub m 1))) 8219))) 16383 = v at h2 h3
      have h4 : m ^^^ (m &&& (m - 1)) = 1 <<< v := beq_true.1 h2
      have h5 : (m ^^^ (m &&& (m - 1))).testBit i = decide (v = i) := by rw [h4, Nat.one_shiftLeft, Nat.testBit_two_pow]
      rw [Nat.testBit_xor, hi] at h5
      by_cases hvi : v = i
      · rw [← hvi]; exact h3.1
      · refine hih _ h3.2 i ?_
        show (m &&& (m - 1)).testBit i = true
        rw [decide_eq_false hvi] at h5
        cases hb : (m &&& (m - 1)).testBit i with
        | true => rfl
        | false => rw [hb] at h5; exact absurd h5 (by decide)
    · exact Bool.noConfusion h3
theorem low_sound {f : Nat → Bool} {b : Nat} (k : Nat) : ∀ m, low f b k m = true → ∀ i, m.testBit i = true → f (b + i) = true := by
  induction k with
  | zero => intro m h; exact Bool.noConfusion h
  | succ k ih =>
    intro m h
    exact lowA_sound (fun m h => lowA_sound (fun m h => lowA_sound (fun m h => lowA_sound ih h) h) h) h
theorem low_blk {f : Nat → Bool} {b k m w : Nat} (h : low f b k (Nat.land m (Nat.sub (Nat.pow 2 w) 1)) = true) : ∀ i, i < w → m.testBit i = true → f (b + i) = true := by
  intro i hi ht
  refine low_sound _ _ h i ?_
  show (m &&& (2 ^ w - 1)).testBit i = true
  rw [Nat.testBit_and, ht, Nat.testBit_two_pow_sub_one]; simpa using hi
theorem ext_zero (f : Nat → Bool) (m b : Nat) : ext f 0 m b = low f b 8192 (Nat.land m (Nat.sub (Nat.pow 2 8192) 1)) := rfl
theorem ext_sound {f : Nat → Bool} (n : Nat) : ∀ m b, ext f n m b = true → ∀ i, i < 2 ^ (13 + n) → m.testBit i = true → f (b + i) = true := by
  induction n with
  | zero =>
    intro m b h i hi ht
    rw [ext_zero] at h
    exact low_blk h i (by simpa using hi) ht
  | succ n ih =>
    intro m b h i hi ht
    have h' : extA n (ext f n) m b = true := h
    unfold extA at h'
    rcases bc_cases (· = true) h' with ⟨h1, _⟩ | ⟨_, h1⟩
    · rw [beq_true.1 h1] at ht; simp at ht
    · unfold extB at h1
      rw [ba_true] at h1
      rcases Nat.lt_or_ge i (2 ^ (13 + n)) with hlt | hge
      · exact ih _ _ h1.1 i hlt ht
      · have := ih _ _ h1.2 (i - 2 ^ (13 + n)) (by rw [show 13 + (n + 1) = (13 + n) + 1 by omega, Nat.pow_succ] at hi; omega) (by
          show (m >>> 2 ^ (13 + n)).testBit _ = true
          rw [Nat.testBit_shiftRight, show 2 ^ (13 + n) + (i - 2 ^ (13 + n)) = i by omega]; exact ht)
        have e : Nat.add b (Nat.pow 2 (Nat.add 13 n)) + (i - 2 ^ (13 + n)) = b + i := by
          show b + 2 ^ (13 + n) + (i - 2 ^ (13 + n)) = b + i; omega
        rwa [e] at this

theorem rpt_bit {l W pat i : Nat} (hl : 0 < l) (hp : pat < 2 ^ l) (hi : i < W + l) : (rpt l W pat).testBit i = pat.testBit (i % l) := by
  have e : rpt l W pat = pat * Rf l (2 + W / l) := by
    show pat * ((2 ^ (l * (2 + W / l)) - 1) / (2 ^ l - 1)) = _
    rw [Rf_div hl]
  rw [e]
  refine rep_bit hp i ?_
  have h1 := Nat.div_add_mod W l
  have h2 := Nat.mod_lt W hl
  rw [Nat.mul_add]; omega
theorem rowf_bit {l inv W pat r o s : Nat} (hl : 0 < l) (hp : pat < 2 ^ l) (hs : s < W) : (rowf l inv (rpt l W pat) r o).testBit s = pat.testBit ((r * inv + o + s) % l) := by
  show ((rpt l W pat) >>> ((r * inv + o) % l)).testBit s = _
  have h := Nat.mod_lt (r * inv + o) hl
  rw [Nat.testBit_shiftRight, rpt_bit hl hp (by omega), Nat.mod_add_mod]

theorem tab_bits {c : Nat × Nat × Nat} (hc : tabok c = true) {i t : Nat} (hi : i < c.1) (ht : t < c.1) :
    c.2.1.testBit (c.1 * i + t) = qr c.1 (1 + 2 * t * i) ∧ c.2.2.testBit (c.1 * i + t) = !(Nat.beq ((1 + 2 * t * i) % c.1) 0) := by
  have := List.all_eq_true.1 (List.all_eq_true.1 hc i (List.mem_range.2 hi)) t (List.mem_range.2 ht)
  rw [Bool.and_eq_true, beq_iff_eq, beq_iff_eq] at this; exact this
theorem lin_mod (l t x : Nat) : (1 + 2 * (t % l) * (x % l)) % l = (1 + 2 * t * x) % l := by
  have h : C l ((1 + 2 * (t % l) * (x % l) : Nat) : Int) ((1 + 2 * t * x : Nat) : Int) := by
    push_cast
    exact (C.rfl' l 1).add (((C.rfl' l 2).mul (C.nmod l t)).mul (C.nmod l x))
  exact C.nat_iff.1 h
theorem patA_lt (l tq tz x y : Nat) : patA l tq tz x y < 2 ^ l := by
  have : patA l tq tz x y = (((tz >>> (l * (x % l))) &&& (tz >>> (l * (y % l)))) &&& (((tq >>> (l * (x % l))) ^^^ (tq >>> (l * (y % l)))) ^^^ (2 ^ l - 1))) &&& (2 ^ l - 1) := rfl
  rw [this]
  have h := Nat.and_lt_two_pow (n := l) (((tz >>> (l * (x % l))) &&& (tz >>> (l * (y % l)))) &&& (((tq >>> (l * (x % l))) ^^^ (tq >>> (l * (y % l)))) ^^^ (2 ^ l - 1))) (show 2 ^ l - 1 < 2 ^ l by have := Nat.one_le_two_pow (n := l); omega)
  exact h
theorem patA_bit {c : Nat × Nat × Nat} (hc : tabok c = true) (hl : 0 < c.1) {x y t : Nat} (hx : (1 + 2 * t * x) % c.1 ≠ 0) (hy : (1 + 2 * t * y) % c.1 ≠ 0)
    (he : qr c.1 (1 + 2 * t * x) = qr c.1 (1 + 2 * t * y)) : (patA c.1 c.2.1 c.2.2 x y).testBit (t % c.1) = true := by
  have e : patA c.1 c.2.1 c.2.2 x y = (((c.2.2 >>> (c.1 * (x % c.1))) &&& (c.2.2 >>> (c.1 * (y % c.1)))) &&& (((c.2.1 >>> (c.1 * (x % c.1))) ^^^ (c.2.1 >>> (c.1 * (y % c.1)))) ^^^ (2 ^ c.1 - 1))) &&& (2 ^ c.1 - 1) := rfl
  have ht := Nat.mod_lt t hl
  have b1 := tab_bits hc (Nat.mod_lt x hl) ht
  have b2 := tab_bits hc (Nat.mod_lt y hl) ht
  have q1 : qr c.1 (1 + 2 * (t % c.1) * (x % c.1)) = qr c.1 (1 + 2 * t * x) := by rw [← qr_mod, lin_mod, qr_mod]
  have q2 : qr c.1 (1 + 2 * (t % c.1) * (y % c.1)) = qr c.1 (1 + 2 * t * y) := by rw [← qr_mod, lin_mod, qr_mod]
  rw [q1, lin_mod] at b1
  rw [q2, lin_mod] at b2
  have z1 : Nat.beq ((1 + 2 * t * x) % c.1) 0 = false := by rw [← Bool.not_eq_true, beq_true]; exact hx
  have z2 : Nat.beq ((1 + 2 * t * y) % c.1) 0 = false := by rw [← Bool.not_eq_true, beq_true]; exact hy
  rw [e]
  simp only [Nat.testBit_and, Nat.testBit_xor, Nat.testBit_shiftRight, Nat.testBit_two_pow_sub_one, b1, b2, z1, z2, he, decide_eq_true ht]
  simp
def zok (c : Nat × Nat × Nat) : Bool := (List.range c.1).all fun i => Nat.ble c.1 ((c.2.1 >>> (9 * i)) &&& 511) || Nat.beq ((1 + 2 * ((c.2.1 >>> (9 * i)) &&& 511) * i) % c.1) 0
theorem patZ_lt (l zt x y : Nat) : patZ l zt x y < 2 ^ l := by
  have h1 : 2 ^ l - 1 < 2 ^ l := by have := Nat.one_le_two_pow (n := l); omega
  have : patZ l zt x y = (2 ^ l - 1) ^^^ ((2 ^ l - 1) &&& (zat l zt x ||| zat l zt y)) := rfl
  rw [this]
  exact Nat.xor_lt_two_pow h1 (by rw [Nat.and_comm]; exact Nat.and_lt_two_pow _ h1)
theorem zat_bit {c : Nat × Nat × Nat} (hc : zok c = true) (hl : 0 < c.1) {x t : Nat} (hx : (1 + 2 * t * x) % c.1 ≠ 0) : (zat c.1 c.2.1 x).testBit (t % c.1) = false := by
  have e : zat c.1 c.2.1 x = 1 <<< ((c.2.1 >>> (9 * (x % c.1))) &&& 511) := rfl
  rw [e, Nat.one_shiftLeft, Nat.testBit_two_pow, decide_eq_false_iff_not]
  intro h
  have := List.all_eq_true.1 hc (x % c.1) (List.mem_range.2 (Nat.mod_lt x hl))
  rw [h, Bool.or_eq_true, ble_true, beq_true] at this
  rcases this with h1 | h1
  · have := Nat.mod_lt t hl; omega
  · rw [lin_mod] at h1; exact hx h1
theorem patZ_bit {c : Nat × Nat × Nat} (hc : zok c = true) (hl : 0 < c.1) {x y t : Nat} (hx : (1 + 2 * t * x) % c.1 ≠ 0) (hy : (1 + 2 * t * y) % c.1 ≠ 0) :
    (patZ c.1 c.2.1 x y).testBit (t % c.1) = true := by
  have e : patZ c.1 c.2.1 x y = (2 ^ c.1 - 1) ^^^ ((2 ^ c.1 - 1) &&& (zat c.1 c.2.1 x ||| zat c.1 c.2.1 y)) := rfl
  rw [e]
  simp only [Nat.testBit_and, Nat.testBit_xor, Nat.testBit_or, Nat.testBit_two_pow_sub_one, zat_bit hc hl hx, zat_bit hc hl hy, decide_eq_true (Nat.mod_lt t hl)]
  rfl

theorem sv_bit (ms : List (Nat → Nat → Nat)) (r o s : Nat) : ∀ a, a.testBit s = true → (∀ c ∈ ms, (c r o).testBit s = true) → (sv ms r o a).testBit s = true := by
  induction ms with
  | nil => intro a h _; exact h
  | cons c ms ih =>
    intro a h hm
    show (sv ms r o (a &&& c r o)).testBit s = true
    refine ih _ ?_ (fun d hd => hm d (List.mem_cons_of_mem _ hd))
    rw [Nat.testBit_and, h, hm c List.mem_cons_self]; rfl
theorem mkk_sound {W x y : Nat} {P : (Nat → Nat → Nat) → Prop} (ts : List ((Nat × Nat × Nat) × Nat)) (hP : ∀ c ∈ ts, P (rowf c.1.1 c.2 (rpt c.1.1 W (patA c.1.1 c.1.2.1 c.1.2.2 x y)))) :
    ∀ acc k, mkk W x y ts acc k = true → (∀ c ∈ acc, P c) → ∃ ms, (∀ c ∈ ms, P c) ∧ k ms = true := by
  induction ts with
  | nil => intro acc k h ha; exact ⟨acc, ha, h⟩
  | cons c ts ih =>
    intro acc k h ha
    refine ih (fun d hd => hP d (List.mem_cons_of_mem _ hd)) _ k h ?_
    intro d hd
    rcases List.mem_cons.1 hd with rfl | hd
    · exact hP c List.mem_cons_self
    · exact ha d hd
theorem mkz_sound {W x y : Nat} {P : (Nat → Nat → Nat) → Prop} (ts : List (Nat × Nat × Nat)) (hP : ∀ c ∈ ts, P (rowf c.1 c.2.2 (rpt c.1 W (patZ c.1 c.2.1 x y)))) :
    ∀ acc k, mkz W x y ts acc k = true → (∀ c ∈ acc, P c) → ∃ ms, (∀ c ∈ ms, P c) ∧ k ms = true := by
  induction ts with
  | nil => intro acc k h ha; exact ⟨acc, ha, h⟩
  | cons c ts ih =>
    intro acc k h ha
    refine ih (fun d hd => hP d (List.mem_cons_of_mem _ hd)) _ k h ?_
    intro d hd
    rcases List.mem_cons.1 hd with rfl | hd
    · exact hP c List.mem_cons_self
    · exact ha d hd

/-- What is known of p = 1 + 2tx and q = 1 + 2ty. -/
structure GoodA (x y t : Nat) : Prop where
  mod8 : (1 + 2 * t * x) % 8 = (1 + 2 * t * y) % 8
  odd : ∀ l ∈ odds, (1 + 2 * t * x) % l ≠ 0 ∧ (1 + 2 * t * y) % l ≠ 0 ∧ qr l (1 + 2 * t * x) = qr l (1 + 2 * t * y)
  pmp : Pm (1 + 2 * t * x)
  pmq : Pm (1 + 2 * t * y)
  two : C (1 + 2 * t * y) ((2 : Int) ^ (2 * t)) 1
  pass : ¬ fails ((1 + 2 * t * x) * (1 + 2 * t * y)) = true
  lt : (1 + 2 * t * x) * (1 + 2 * t * y) < NN

theorem stp_eq {a d q : Nat} : stp (2 ^ a % q) d q = 2 ^ (64 * a + d % 64) % q := by
  show ((2 ^ a % q) ^ 64 * 2 ^ (d &&& 63)) % q = _
  have : d &&& 63 = d % 64 := Nat.and_two_pow_sub_one_eq_mod d 6
  rw [this, Nat.mul_mod, ← Nat.pow_mod, ← Nat.mul_mod, ← Nat.pow_mul, ← Nat.pow_add, Nat.mul_comm a]
theorem pw2_eq (q g : Nat) : pw2 q g = 2 ^ g % q := by
  have e : pw2 q g = stp (stp (stp (stp (2 ^ (g >>> 24) % q) (g >>> 18) q) (g >>> 12) q) (g >>> 6) q) g q := rfl
  rw [e, stp_eq, stp_eq, stp_eq, stp_eq]
  simp only [Nat.shiftRight_eq_div_pow]
  congr 2; omega
theorem kk_prime {z : Nat} (hz : Pm z) (h : z ∣ kk) : z < 2000 := by
  rw [kk_eq] at h
  have : ∀ l : List Nat, (∀ x ∈ l, x < 2000 ∧ 0 < x) → z ∣ lprod l → z < 2000 := by
    intro l
    induction l with
    | nil => intro _ h; have := Nat.le_of_dvd (by decide) h; have := hz.1; simp only [lprod] at *; omega
    | cons x l ih =>
      intro hl h
      rcases hz.euclid h with h1 | h1
      · have := hl x List.mem_cons_self; have := Nat.le_of_dvd this.2 h1; omega
      · exact ih (fun y hy => hl y (List.mem_cons_of_mem _ hy)) h1
  exact this kks (by decide +kernel) h
theorem leaf_sound {k x y t P0 : Nat} (h : GoodA x y t) (hxy : x ≤ y) (hk : k = bc (Nat.ble 2000 P0) kk 1) (hP : P0 ≤ 1 + 2 * t * x) :
    ¬ leaf k (1 + 2 * t * x) (1 + 2 * t * y) (2 * t) = true := by
  intro hl
  unfold leaf at hl
  have hpq : 1 + 2 * t * x ≤ 1 + 2 * t * y := by have := Nat.mul_le_mul_left (2 * t) hxy; omega
  rcases bc_cases (· = true) hl with ⟨_, h2⟩ | ⟨h1, _⟩
  · unfold leafB at h2
    rcases bc_cases (· = true) h2 with ⟨_, h4⟩ | ⟨h3, _⟩
    · exact h.pass h4
    · rw [pw2_eq] at h3
      have : C (1 + 2 * t * y) ((2 ^ (2 * t) : Nat) : Int) ((1 : Nat) : Int) := by push_cast; exact h.two
      have h5 := C.nat_iff.1 this
      rw [Nat.mod_eq_of_lt (show 1 < 1 + 2 * t * y by have := h.pmq.1; omega)] at h5
      rw [beq_true.2 h5] at h3; exact Bool.noConfusion h3
  · cases hb : Nat.ble 2000 P0 with
    | false =>
      rw [hb] at hk
      have hk1 : k = 1 := hk
      have : Nat.gcd (Nat.mul (1 + 2 * t * x) (1 + 2 * t * y)) k = 1 := by rw [hk1]; exact Nat.gcd_one_right _
      rw [beq_true.2 this] at h1; exact Bool.noConfusion h1
    | true =>
      rw [hb] at hk
      have hk1 : k = kk := hk
      have hP0 := ble_true.1 hb
      have hne : Nat.gcd (Nat.mul (1 + 2 * t * x) (1 + 2 * t * y)) k ≠ 1 := fun e => by rw [beq_true.2 e] at h1; exact Bool.noConfusion h1
      have hpos : 0 < Nat.gcd (Nat.mul (1 + 2 * t * x) (1 + 2 * t * y)) k := Nat.gcd_pos_of_pos_left _ (Nat.mul_pos (by omega) (by omega))
      obtain ⟨z, hz, hzd, _⟩ := exists_prime _ (show 2 ≤ Nat.gcd (Nat.mul (1 + 2 * t * x) (1 + 2 * t * y)) k by omega)
      have z1 : z ∣ (1 + 2 * t * x) * (1 + 2 * t * y) := Nat.dvd_trans hzd (Nat.gcd_dvd_left _ _)
      have z2 := kk_prime hz (hk1 ▸ Nat.dvd_trans hzd (Nat.gcd_dvd_right _ _))
      have := hz.1
      rcases hz.euclid z1 with h6 | h6
      · rcases h.pmp.2 z h6 with h7 | h7 <;> omega
      · rcases h.pmq.2 z h6 with h7 | h7 <;> omega
theorem lf_arith (x g s r o : Nat) (hg : g = 2 * (r + 105 * o)) : 1 + x * g + 210 * x * s = 1 + 2 * (r + 105 * (o + s)) * x := by subst hg; grind
theorem clsB_sound {n a x y r o m s : Nat} (ha : a = 0) (hxy : x ≤ y) (h : clsB n a x y (Nat.mul 2 (Nat.add r (Nat.mul 105 o))) m = true) (hs : s < 2 ^ (13 + n))
    (hm : m.testBit s = true) (hG : GoodA x y (r + 105 * (o + s))) : False := by
  subst ha
  unfold clsB at h
  have h1 := ext_sound n _ _ h s hs hm
  rw [Nat.zero_add] at h1
  unfold lf at h1
  have e1 : Nat.add (Nat.add 1 (Nat.mul x (Nat.mul 2 (Nat.add r (Nat.mul 105 o))))) (Nat.mul (Nat.mul 210 x) s) = 1 + 2 * (r + 105 * (o + s)) * x := lf_arith x _ s r o rfl
  have e2 : Nat.add (Nat.add 1 (Nat.mul y (Nat.mul 2 (Nat.add r (Nat.mul 105 o))))) (Nat.mul (Nat.mul 210 y) s) = 1 + 2 * (r + 105 * (o + s)) * y := lf_arith y _ s r o rfl
  have e3 : Nat.add (Nat.mul 2 (Nat.add r (Nat.mul 105 o))) (Nat.mul 210 s) = 2 * (r + 105 * (o + s)) := by
    show 2 * (r + 105 * o) + 210 * s = _; omega
  rw [e1, e2, e3] at h1
  refine leaf_sound hG hxy rfl ?_ h1
  show 1 + x * (2 * (r + 105 * o)) ≤ _
  rw [← lf_arith x _ s r o rfl]; omega

/-- a mask function that lets the good t through -/
def Lets (W x y : Nat) (c : Nat → Nat → Nat) : Prop := ∀ r o s, s < W → GoodA x y (r + 105 * (o + s)) → (c r o).testBit s = true
theorem idx {l inv r o s : Nat} (h1 : 105 * inv % l = 1) : 105 * ((r * inv + o + s) % l) % l = (r + 105 * (o + s)) % l := by
  have h : C l ((105 * ((r * inv + o + s) % l) : Nat) : Int) ((r + 105 * (o + s) : Nat) : Int) := by
    have a := (C.rfl' l 105).mul (C.nmod l (r * inv + o + s))
    have b : C l ((105 * inv : Nat) : Int) ((1 : Nat) : Int) := C.nat_iff.2 (by
      rw [h1]
      rcases Nat.lt_or_ge l 2 with h2 | h2
      · have : l = 0 ∨ l = 1 := by omega
        rcases this with rfl | rfl
        · rfl
        · rw [Nat.mod_one] at h1; omega
      · exact (Nat.mod_eq_of_lt (by omega)).symm)
    have d := ((C.rfl' l (r : Int)).mul b).add (C.rfl' l ((105 * (o + s) : Nat) : Int))
    push_cast at a d ⊢
    exact a.trans ((C.of_eq (by grind)).trans (d.trans (C.of_eq (by grind))))
  exact C.nat_iff.1 h
theorem lin105 {l inv r o s x : Nat} (h1 : 105 * inv % l = 1) : (1 + 2 * ((r * inv + o + s) % l) * (105 * x)) % l = (1 + 2 * (r + 105 * (o + s)) * x) % l := by
  have h := idx (r := r) (o := o) (s := s) h1
  have a := C.nat_iff.2 h
  have b := (C.rfl' l 1).add (((C.rfl' l 2).mul a).mul (C.rfl' l (x : Int)))
  refine C.nat_iff.1 ?_
  push_cast at b ⊢
  exact (C.of_eq (by grind)).trans b
theorem Lets.A {W x y : Nat} {c : (Nat × Nat × Nat) × Nat} (hc : tabok c.1 = true) (hl : c.1.1 ∈ odds) (hi : 105 * c.2 % c.1.1 = 1) :
    Lets W x y (rowf c.1.1 c.2 (rpt c.1.1 W (patA c.1.1 c.1.2.1 c.1.2.2 (Nat.mul 105 x) (Nat.mul 105 y)))) := by
  intro r o s hs hG
  have hl0 : 0 < c.1.1 := by have := (odds_pm hl).2.1; omega
  rw [rowf_bit hl0 (patA_lt _ _ _ _ _) hs]
  obtain ⟨g1, g2, g3⟩ := hG.odd _ hl
  have lx := lin105 (r := r) (o := o) (s := s) (x := x) hi
  have ly := lin105 (r := r) (o := o) (s := s) (x := y) hi
  have := patA_bit hc hl0 (x := Nat.mul 105 x) (y := Nat.mul 105 y) (t := (r * c.2 + o + s) % c.1.1)
    (by show (1 + 2 * ((r * c.2 + o + s) % c.1.1) * (105 * x)) % _ ≠ 0; rw [lx]; exact g1)
    (by show (1 + 2 * ((r * c.2 + o + s) % c.1.1) * (105 * y)) % _ ≠ 0; rw [ly]; exact g2)
    (by
      show qr c.1.1 (1 + 2 * ((r * c.2 + o + s) % c.1.1) * (105 * x)) = qr c.1.1 (1 + 2 * ((r * c.2 + o + s) % c.1.1) * (105 * y))
      rw [← qr_mod, lx, qr_mod, ← qr_mod _ (1 + 2 * ((r * c.2 + o + s) % c.1.1) * (105 * y)), ly, qr_mod]; exact g3)
  rw [Nat.mod_mod] at this; exact this
theorem Lets.Z {W x y S : Nat} {c : Nat × Nat × Nat} (hc : zok c = true) (hl0 : 0 < c.1) (hi : 105 * c.2.2 % c.1 = 1) (hne : ∀ r o s, S ≤ o → GoodA x y (r + 105 * (o + s)) →
      (1 + 2 * (r + 105 * (o + s)) * x) % c.1 ≠ 0 ∧ (1 + 2 * (r + 105 * (o + s)) * y) % c.1 ≠ 0) :
    ∀ r o s, S ≤ o → s < W → GoodA x y (r + 105 * (o + s)) → (rowf c.1 c.2.2 (rpt c.1 W (patZ c.1 c.2.1 (Nat.mul 105 x) (Nat.mul 105 y))) r o).testBit s = true := by
  intro r o s hS hs hG
  rw [rowf_bit hl0 (patZ_lt _ _ _ _) hs]
  obtain ⟨g1, g2⟩ := hne r o s hS hG
  have lx := lin105 (r := r) (o := o) (s := s) (x := x) hi
  have ly := lin105 (r := r) (o := o) (s := s) (x := y) hi
  have := patZ_bit hc hl0 (x := Nat.mul 105 x) (y := Nat.mul 105 y) (t := (r * c.2.2 + o + s) % c.1)
    (by show (1 + 2 * ((r * c.2.2 + o + s) % c.1) * (105 * x)) % _ ≠ 0; rw [lx]; exact g1)
    (by show (1 + 2 * ((r * c.2.2 + o + s) % c.1) * (105 * y)) % _ ≠ 0; rw [ly]; exact g2)
  rw [Nat.mod_mod] at this; exact this
end Go.Proofs.YtogbdnecpdcmiabDoor.Mr
/- The sieve of MrG is sound: a row that is checked leaves no good t. -/
namespace Go.Proofs.YtogbdnecpdcmiabDoor.Mr

theorem zts_ok : ∀ c ∈ zts, zok c = true ∧ 2 ≤ c.1 ∧ c.1 < 421 ∧ 105 * c.2.2 % c.1 = 1 := by decide +kernel
theorem tabs_all : ∀ c ∈ (tabs.drop 3).zip inv105, tabok c.1 = true ∧ c.1.1 ∈ odds ∧ 105 * c.2 % c.1.1 = 1 := by decide +kernel
theorem tabs_low : ∀ c ∈ tabs.take 3, tabok c = true ∧ c.1 ∈ odds ∧ 105 % c.1 = 0 := by decide +kernel

theorem ones_bit {W s : Nat} (h : s < W) : (2 ^ W - 1).testBit s = true := by rw [Nat.testBit_two_pow_sub_one]; exact decide_eq_true h
theorem third_bit {W s : Nat} (hW : W % 2 = 0) (h : s < W) (hs : s % 2 = 0) : ((2 ^ W - 1) / 3).testBit s = true := by
  obtain ⟨k, rfl⟩ : ∃ k, W = 2 * k := ⟨W / 2, by omega⟩
  have e : (2 ^ (2 * k) - 1) / 3 = 1 * Rf 2 k := by rw [Nat.one_mul]; exact Rf_div (l := 2) (by decide)
  rw [e, rep_bit (by decide) s h, hs]; rfl
theorem acc_bit {W x y r o s : Nat} (hW : W % 2 = 0) (hs : s < W) (hxy : x < y) (hx : x % 2 = 1) (hy : y % 2 = 1) (hG : GoodA x y (r + 105 * (o + s))) :
    (bc (Nat.beq (Nat.mod (Nat.sub y x) 4) 0) (2 ^ W - 1) (Nat.shiftLeft ((2 ^ W - 1) / 3) (Nat.mod (Nat.add r o) 2))).testBit s = true := by
  cases hv : Nat.beq (Nat.mod (Nat.sub y x) 4) 0 with
  | true => exact ones_bit hs
  | false =>
    have hv' : (y - x) % 4 ≠ 0 := fun h => by
      have h' : Nat.beq (Nat.mod (Nat.sub y x) 4) 0 = true := beq_true.2 h
      rw [h'] at hv; exact Bool.noConfusion hv
    have hev : (r + o + s) % 2 = 0 := by
      have h8 := hG.mod8
      generalize ht : r + 105 * (o + s) = t at h8
      obtain ⟨d, rfl⟩ : ∃ d, y = x + d := ⟨y - x, by omega⟩
      have e : 1 + 2 * t * (x + d) = (1 + 2 * t * x) + 2 * (t * d) := by grind
      rw [e] at h8
      have h4 : (t * d) % 4 = 0 := by omega
      have hd : d % 4 = 2 := by omega
      rcases Nat.mod_two_eq_zero_or_one t with h2 | h2
      · omega
      · exfalso
        have : (t * d) % 4 = (t % 4) * (d % 4) % 4 := Nat.mul_mod _ _ _
        rw [hd] at this
        have : t % 4 = 1 ∨ t % 4 = 3 := by omega
        rcases this with h | h <;> rw [h] at this <;> omega
    show (((2 ^ W - 1) / 3) <<< ((r + o) % 2)).testBit s = true
    rw [Nat.testBit_shiftLeft, third_bit hW (by omega) (by omega)]
    simp; omega
theorem m105_bit {x y t : Nat} (hG : GoodA x y t) (ts : List (Nat × Nat × Nat)) (hts : ∀ c ∈ ts, tabok c = true ∧ c.1 ∈ odds ∧ 105 % c.1 = 0) :
    ∀ a, a.testBit (t % 105) = true → (m105 x y ts a).testBit (t % 105) = true := by
  induction ts with
  | nil => intro a h; exact h
  | cons c ts ih =>
    intro a h
    show (m105 x y ts (a &&& rpt c.1 105 (patA c.1 c.2.1 c.2.2 x y))).testBit _ = true
    refine ih (fun d hd => hts d (List.mem_cons_of_mem _ hd)) _ ?_
    obtain ⟨h1, h2, h3⟩ := hts c List.mem_cons_self
    have hl0 : 0 < c.1 := by have := (odds_pm h2).2.1; omega
    obtain ⟨g1, g2, g3⟩ := hG.odd _ h2
    rw [Nat.testBit_and, h, rpt_bit hl0 (patA_lt _ _ _ _ _) (by have := Nat.mod_lt t (show 0 < 105 by decide); omega), Nat.mod_mod_of_dvd _ (Nat.dvd_of_mod_eq_zero h3), patA_bit h1 hl0 g1 g2 g3]
    rfl

/-- a mask function that lets the good t from 105 S on through -/
def LetsS (S W x y : Nat) (c : Nat → Nat → Nat) : Prop := ∀ r o s, S ≤ o → s < W → GoodA x y (r + 105 * (o + s)) → (c r o).testBit s = true

theorem lpo_sound {n S x y m1 v : Nat} {ms : List (Nat → Nat → Nat)} (hxy : x < y) (hx : x % 2 = 1) (hy : y % 2 = 1) (hv : v = Nat.mod (Nat.sub y x) 4)
    (hms : ∀ c ∈ ms, LetsS S (2 ^ (13 + n)) x y c) (hm1 : ∀ t, GoodA x y t → m1.testBit (t % 105) = true) (k : Nat) :
    ∀ o, S ≤ o → lpo n (2 ^ (13 + n)) (2 ^ (2 ^ (13 + n)) - 1) ((2 ^ (2 ^ (13 + n)) - 1) / 3) v m1 ms x y k o = true → ∀ m, o ≤ m → ∀ r, r < 105 → ¬ GoodA x y (r + 105 * m) := by
  induction k with
  | zero => intro o _ h; exact Bool.noConfusion h
  | succ k ih =>
    intro o hS h m hm r hr hG
    have h' : bc (Nat.ble NN (Nat.mul (Nat.mul (Nat.mul 44100 o) o) (Nat.mul x y))) true
      (ba (low (cls n (2 ^ (2 ^ (13 + n)) - 1) ((2 ^ (2 ^ (13 + n)) - 1) / 3) v ms x y o) 0 106 m1) (fc (Nat.add o (2 ^ (13 + n))) (lpo n (2 ^ (13 + n)) (2 ^ (2 ^ (13 + n)) - 1) ((2 ^ (2 ^ (13 + n)) - 1) / 3) v m1 ms x y k))) = true := h
    rcases bc_cases (· = true) h' with ⟨h1, _⟩ | ⟨_, h1⟩
    · have h2 : NN ≤ 44100 * o * o * (x * y) := ble_true.1 h1
      have h3 := hG.lt
      have h4 : 210 * o ≤ 2 * (r + 105 * m) := by omega
      have h5 : (210 * o) * x ≤ 1 + 2 * (r + 105 * m) * x := by have := Nat.mul_le_mul_right x h4; omega
      have h6 : (210 * o) * y ≤ 1 + 2 * (r + 105 * m) * y := by have := Nat.mul_le_mul_right y h4; omega
      have h7 := Nat.mul_le_mul h5 h6
      have e : 210 * o * x * (210 * o * y) = 44100 * o * o * (x * y) := by grind
      omega
    · rw [ba_true, fc_eq] at h1
      rcases Nat.lt_or_ge m (o + 2 ^ (13 + n)) with h2 | h2
      · obtain ⟨s, rfl⟩ : ∃ s, m = o + s := ⟨m - o, by omega⟩
        have hs : s < 2 ^ (13 + n) := by omega
        have hr' : (r + 105 * (o + s)) % 105 = r := by omega
        have hb := hm1 _ hG
        rw [hr'] at hb
        have hc := low_sound _ _ h1.1 r hb
        rw [Nat.zero_add] at hc
        refine clsB_sound rfl (Nat.le_of_lt hxy) hc hs ?_ hG
        refine sv_bit ms r o s _ ?_ (fun c hc => hms c hc r o s hS hs hG)
        rw [hv]
        exact acc_bit (by rw [show 13 + n = (12 + n) + 1 by omega, Nat.pow_succ]; omega) hs hxy hx hy hG
      · exact ih _ (Nat.le_trans hS (Nat.le_add_right _ _)) h1.2 m h2 r hr hG
theorem chkxy_sound {n S x y : Nat} (hx0 : 0 < x) (hxy : x < y) (hx : x % 2 = 1) (hy : y % 2 = 1) (hg : Nat.gcd x y = 1)
    (h : chkxy n (2 ^ (13 + n)) (2 ^ (2 ^ (13 + n)) - 1) ((2 ^ (2 ^ (13 + n)) - 1) / 3) S x y = true) : ∀ t, 105 * S ≤ t → ¬ GoodA x y t := by
  intro t ht hG
  unfold chkxy at h
  have hg' : Nat.beq (Nat.gcd x y) 1 = true := beq_true.2 hg
  rw [hg'] at h
  have h0 : mkk (2 ^ (13 + n)) (Nat.mul 105 x) (Nat.mul 105 y) ((tabs.drop 3).zip inv105) [] (fun ms => mkz (2 ^ (13 + n)) (Nat.mul 105 x) (Nat.mul 105 y) (bc (Nat.ble 2 S) zts []) ms fun ms =>
    lpo n (2 ^ (13 + n)) (2 ^ (2 ^ (13 + n)) - 1) ((2 ^ (2 ^ (13 + n)) - 1) / 3) (Nat.mod (Nat.sub y x) 4) (m105 x y (tabs.take 3) (Nat.sub (Nat.pow 2 105) 1)) ms x y 100000 S) = true := h
  obtain ⟨ms1, p1, h1⟩ := mkk_sound (P := LetsS S (2 ^ (13 + n)) x y) _ (fun c hc => by
    obtain ⟨a, b, d⟩ := tabs_all c hc
    intro r o s _ hs hG
    exact Lets.A a b d r o s hs hG) [] _ h0 (by simp)
  obtain ⟨ms2, p2, h2⟩ := mkz_sound (P := LetsS S (2 ^ (13 + n)) x y) _ (fun c hc => by
    cases hS : Nat.ble 2 S with
    | false => rw [hS] at hc; simp [bc] at hc
    | true =>
      rw [hS] at hc
      obtain ⟨a, b, d, e⟩ := zts_ok c hc
      have hS2 := ble_true.1 hS
      refine Lets.Z (S := S) a (by omega) e ?_
      intro r o s hSo hG
      have ht2 : 210 ≤ r + 105 * (o + s) := by omega
      have hp : 421 ≤ 1 + 2 * (r + 105 * (o + s)) * x := by
        have : 420 * 1 ≤ 2 * (r + 105 * (o + s)) * x := Nat.mul_le_mul (by omega) (by omega)
        omega
      have hq : 421 ≤ 1 + 2 * (r + 105 * (o + s)) * y := by
        have : 420 * 1 ≤ 2 * (r + 105 * (o + s)) * y := Nat.mul_le_mul (by omega) (by omega)
        omega
      constructor
      · intro h0
        rcases hG.pmp.2 _ (Nat.dvd_of_mod_eq_zero h0) with h7 | h7 <;> omega
      · intro h0
        rcases hG.pmq.2 _ (Nat.dvd_of_mod_eq_zero h0) with h7 | h7 <;> omega) ms1 _ h1 p1
  have hm1 : ∀ t, GoodA x y t → (m105 x y (tabs.take 3) (Nat.sub (Nat.pow 2 105) 1)).testBit (t % 105) = true := fun t hG =>
    m105_bit hG _ tabs_low _ (ones_bit (W := 105) (Nat.mod_lt _ (by decide)))
  have := lpo_sound hxy hx hy rfl p2 hm1 100000 S (Nat.le_refl _) h2 (t / 105) (by omega) (t % 105) (Nat.mod_lt _ (by decide))
  exact this (by rw [Nat.mod_add_div]; exact hG)
theorem row_sound {n y S x0 k : Nat} (hy : y % 2 = 1) (hx0 : x0 % 2 = 1) (h : row n y S x0 k = true) :
    ∀ i, i < k → x0 + 2 * i < y → Nat.gcd (x0 + 2 * i) y = 1 → ∀ t, 105 * S ≤ t → ¬ GoodA (x0 + 2 * i) y t := by
  unfold row at h
  rw [fc_eq] at h
  have h' : lpx n (2 ^ (13 + n)) (2 ^ (2 ^ (13 + n)) - 1) ((2 ^ (2 ^ (13 + n)) - 1) / 3) S y k x0 = true := h
  clear h
  induction k generalizing x0 with
  | zero => intro i hi; omega
  | succ k ih =>
    intro i hi hxy hg
    have h2 : ba (chkxy n (2 ^ (13 + n)) (2 ^ (2 ^ (13 + n)) - 1) ((2 ^ (2 ^ (13 + n)) - 1) / 3) S x0 y) (fc (Nat.add x0 2) (lpx n (2 ^ (13 + n)) (2 ^ (2 ^ (13 + n)) - 1) ((2 ^ (2 ^ (13 + n)) - 1) / 3) S y k)) = true := h'
    rw [ba_true, fc_eq] at h2
    rcases i with _ | i
    · exact chkxy_sound (by omega) hxy hx0 hy hg h2.1
    · have e : x0 + 2 * (i + 1) = (x0 + 2) + 2 * i := by omega
      rw [e] at hxy hg ⊢
      exact ih (x0 := x0 + 2) (by omega) h2.2 i (by omega) hxy hg
end Go.Proofs.YtogbdnecpdcmiabDoor.Mr
/- The order of the bases for primes from 81,721,690,674 on. -/
namespace Go.Proofs.YtogbdnecpdcmiabDoor.Mr
/-- weights in eighths of a binary logarithm -/
def w8 : List (Nat × Nat) := [(37, 42), (31, 40), (29, 39), (23, 37), (19, 34), (17, 33), (13, 30), (11, 28), (7, 23), (5, 19), (3, 13), (2, 8)]
theorem w8_ok : Wok 8 w8 := ⟨by decide, by decide⟩
set_option maxRecDepth 100000 in
theorem w8_cnt : (cnt w8 141 141 == 12319281) = true := by decide +kernel
theorem Ix.lens {q g y : Nat} (h : Ix q g y) (hq : 81721690674 ≤ q) : 24638562 ≤ g := by
  have h1 : cnt w8 141 141 = 12319281 := by have := w8_cnt; rwa [beq_iff_eq] at this
  have h2 := lenstra (L := 141) w8_ok (by decide) (few_prime h.pm h.g0) h.g0 h.ev h.pow (by
    have : 2 ^ (2 * 141 + 8) < 81721690674 ^ 8 := by decide +kernel
    exact Nat.lt_of_lt_of_le this (Nat.pow_le_pow_left hq _))
  omega
end Go.Proofs.YtogbdnecpdcmiabDoor.Mr
/- No prime divides a strong pseudoprime below 2^61 twice. -/
namespace Go.Proofs.YtogbdnecpdcmiabDoor.Mr

/-- all bases have the exponent k -/
def Ex (m k : Nat) : Prop := ∀ l ∈ bases, C m ((l : Int) ^ k) 1
theorem Ex.gcd {m : Nat} : ∀ j k, Ex m j → Ex m k → Ex m (Nat.gcd j k) := by
  intro j k
  induction j, k using Nat.gcd.induction with
  | H0 k => intro _ h; rw [Nat.gcd_zero_left]; exact h
  | H1 j k hj ih =>
    intro h1 h2
    rw [Nat.gcd_rec]
    refine ih (fun l hl => ?_) h1
    have e : k = j * (k / j) + k % j := (Nat.div_add_mod k j).symm
    have h3 := h2 l hl
    rw [e, Int.pow_add, Int.pow_mul] at h3
    have h4 := ((h1 l hl).pow (k / j)).mul (C.rfl' m ((l : Int) ^ (k % j)))
    rw [Int.one_pow, Int.one_mul] at h4
    exact h4.symm.trans h3
theorem Ex.mul {m k : Nat} (h : Ex m k) (c : Nat) : Ex m (k * c) := fun l hl => by
  have := (h l hl).pow c; rw [Int.one_pow, ← Int.pow_mul] at this; exact this
theorem Strong.pow {n s d a : Nat} (he : n - 1 = 2 ^ s * d) (h : Strong n s d a) : C n ((a : Int) ^ (n - 1)) 1 := by
  rcases h with h | ⟨i, hi, h⟩
  · rw [he, Nat.mul_comm, Int.pow_mul]; have := h.pow (2 ^ s); rwa [Int.one_pow] at this
  · obtain ⟨c, hc⟩ : ∃ c, s = i + 1 + c := ⟨s - i - 1, by omega⟩
    have e : n - 1 = (2 ^ i * d) * (2 * 2 ^ c) := by rw [he, hc, Nat.pow_add, Nat.pow_succ]; grind
    rw [e, Int.pow_mul]
    have := h.pow (2 * 2 ^ c)
    rwa [neg_one_even] at this
theorem Hyp.ex {n s d : Nat} (H : Hyp n s d) {m : Nat} (hm : m ∣ n) : Ex m (n - 1) := fun l hl => C.of_dvd hm ((H.strong l hl).pow H.eq)
theorem bases_lt {l : Nat} (h : l ∈ bases) : 2 ≤ l ∧ l ≤ 37 := by
  have : ∀ l ∈ bases, 2 ≤ l ∧ l ≤ 37 := by decide
  exact this l h
theorem Ex.fermat {p : Nat} (hp : Pm p) (h41 : 41 ≤ p) (h2 : p % 2 = 1) : Ex p (p - 1) := fun l hl => by
  have := bases_lt hl
  exact Mr.fermat hp h2 (fun h => by have := Nat.le_of_dvd (by omega) h; omega)
/-- weights in quarters of a binary logarithm -/
def w4 : List (Nat × Nat) := [(37, 21), (31, 20), (29, 20), (23, 19), (19, 17), (17, 17), (13, 15), (11, 14), (7, 12), (5, 10), (3, 7), (2, 4)]
theorem w4_ok : Wok 4 w4 := ⟨by decide, by decide⟩
set_option maxRecDepth 100000 in
theorem w4_cnt : (cnt w4 19 19 == 381 && cnt w4 36 36 == 27225 && cnt w4 60 60 == 2170587 && cnt w4 86 86 == 76609973 && cnt w4 106 106 == 703848751 && cnt w4 119 119 == 2486976719) = true := by decide +kernel
theorem square_ex {n s d p : Nat} (H : Hyp n s d) (hp : Pm p) (h : p * p ∣ n) : Ex (p * p) (p - 1) := by
  have hpn : p ∣ n := Nat.dvd_trans ⟨p, rfl⟩ h
  have h41 := H.small p hp hpn
  have h2 := odd_of_dvd hpn H.two
  have e1 : Ex (p * p) (p * (p - 1)) := fun l hl => by
    obtain ⟨k, hk⟩ := Ex.fermat hp h41 h2 l hl
    have e : (l : Int) ^ (p - 1) = 1 + p * k := by omega
    obtain ⟨m, hm⟩ : ∃ m, p = m + 1 := ⟨p - 1, by omega⟩
    rw [Nat.mul_comm p (p - 1), Int.pow_mul, e]
    have h3 := lift (p := p) (m := m) (s := 1) (k := k)
    rw [← hm, Int.one_pow, Int.one_pow] at h3
    refine h3.trans ⟨k, ?_⟩
    push_cast; grind
  have e2 := Ex.gcd _ _ (H.ex h) e1
  have hc : Nat.Coprime p (n - 1) := by
    have h3 := hp.cop (a := n - 1) (fun hd => by
      have h4 : p ∣ n - (n - 1) := Nat.dvd_sub hpn hd
      have h5 := H.big
      rw [show n - (n - 1) = 1 by omega] at h4
      have := Nat.le_of_dvd (by decide) h4; omega)
    exact h3
  have e3 : Nat.gcd (n - 1) (p * (p - 1)) = Nat.gcd (n - 1) (p - 1) := hc.gcd_mul_left_cancel_right _
  rw [e3] at e2
  obtain ⟨c, hc⟩ := Nat.gcd_dvd_right (n - 1) (p - 1)
  rw [hc]; exact e2.mul c
theorem no_square {n s d p : Nat} (H : Hyp n s d) (hp : Pm p) (hlt : n < 2 ^ 61) : ¬ p * p ∣ n := by
  intro h
  have hpn : p ∣ n := Nat.dvd_trans ⟨p, rfl⟩ h
  have h41 := H.small p hp hpn
  have h2 := odd_of_dvd hpn H.two
  have hle := Nat.le_of_dvd (by have := H.big; omega) h
  have hmax : p < 1518500250 := by
    rcases Nat.lt_or_ge p 1518500250 with h | h
    · exact h
    · have := Nat.mul_le_mul h h; omega
  have key : ∀ L N P, cnt w4 L L = N → P ≤ p → 2 ^ (2 * L + 4) < P ^ 8 → 2 * N ≤ p - 1 := by
    intro L N P hN hP hL
    rw [← hN]
    refine lenstra w4_ok (by decide) (few_square hp (by omega)) (by omega) (by omega) (square_ex H hp h) ?_
    refine Nat.lt_of_lt_of_le hL ?_
    rw [← Nat.pow_two, ← Nat.pow_mul]
    exact Nat.pow_le_pow_left hP _
  have hw := w4_cnt
  simp only [Bool.and_eq_true, beq_iff_eq] at hw
  obtain ⟨⟨⟨⟨⟨a1, a2⟩, a3⟩, a4⟩, a5⟩, a6⟩ := hw
  have k1 := key 19 381 41 a1 (by omega) (by decide)
  have k2 := key 36 27225 763 a2 (by omega) (by decide)
  have k3 := key 60 2170587 54451 a3 (by omega) (by decide)
  have k4 := key 86 76609973 4341175 a4 (by omega) (by decide)
  have k5 := key 106 703848751 153219947 a5 (by omega) (by decide)
  have k6 := key 119 2486976719 1407697503 a6 (by omega) (by decide)
  omega
end Go.Proofs.YtogbdnecpdcmiabDoor.Mr
/- Products of two primes with the same exponent of two. -/
namespace Go.Proofs.YtogbdnecpdcmiabDoor.Mr

theorem qlr_all {y : Nat} (l : List (Nat × Nat × Nat × Nat)) : ∀ P, (∀ e ∈ l, e.2.1 ≤ y) → qlr y l P = ((l.map (fun e => e.1)).getLast?).getD P := by
  induction l with
  | nil => intro P _; rfl
  | cons e l ih =>
    intro P h
    have h1 : Nat.ble e.2.1 y = true := ble_true.2 (h e List.mem_cons_self)
    show bc (Nat.ble e.2.1 y) (qlr y l e.1) P = _
    rw [h1]
    show qlr y l e.1 = _
    rw [ih e.1 (fun d hd => h d (List.mem_cons_of_mem _ hd))]
    cases l with
    | nil => rfl
    | cons d l =>
      rw [List.map_cons, List.map_cons, List.map_cons, List.getLast?_cons_cons]
      rw [List.getLast?_eq_some_getLast (l := d.1 :: List.map (fun e => e.1) l) (by simp)]; rfl
theorem ql_end {y : Nat} (h : 2039 ≤ y) : ql y = 95000000000 := by
  have h1 : tq.all (fun e => Nat.ble e.2.1 2039) = true := by decide +kernel
  have h2 : ((tq.map (fun e => e.1)).getLast?).getD 41 = 95000000000 := by decide +kernel
  unfold ql
  rw [qlr_all tq 41 (fun e he => Nat.le_trans (ble_true.1 (List.all_eq_true.1 h1 e he)) h), h2]
/-- the least exponent for the index y -/
noncomputable def gl (y : Nat) : Nat := Nat.div (Nat.sub (ql y) 1) y
theorem Ix_gl {q g y : Nat} (h : Ix q g y) (h41 : 41 ≤ q) (hy : 0 < y) : gl y ≤ g := by
  have h1 := h.ql h41
  have h2 := h.eq
  show (ql y - 1) / y ≤ g
  rw [Nat.div_le_iff_le_mul_add_pred hy]
  have : g * y = y * g := Nat.mul_comm _ _
  omega
/-- no y from y on for k steps has a g that is small enough -/
noncomputable def noy (k : Nat) : Nat → Bool :=
  Nat.rec (motive := fun _ => Nat → Bool) (fun _ => true) (fun _ ih y => ba (Nat.ble NN (Nat.mul (Nat.mul (gl y) (gl y)) y)) (fc (Nat.succ y) ih)) k
theorem noy_sound (k : Nat) : ∀ y, noy k y = true → ∀ i, i < k → NN ≤ gl (y + i) * gl (y + i) * (y + i) := by
  induction k with
  | zero => intro y _ i hi; omega
  | succ k ih =>
    intro y h i hi
    have h' : ba (Nat.ble NN (Nat.mul (Nat.mul (gl y) (gl y)) y)) (fc (Nat.succ y) (noy k)) = true := h
    rw [ba_true, fc_eq, ble_true] at h'
    rcases i with _ | i
    · exact h'.1
    · have := ih (y + 1) h'.2 i (by omega)
      rwa [show y + 1 + i = y + (i + 1) by omega] at this
set_option maxRecDepth 100000 in
theorem noy_all : noy 3295 619 = true := by decide +kernel
/-- A pair with n below the bound has y < 619. -/
theorem y_lt {q g y x : Nat} (h : Ix q g y) (h41 : 41 ≤ q) (hx : 0 < x) (hn : g * g * (x * y) < NN) : y < 619 := by
  rcases Nat.lt_or_ge y 619 with h1 | h1
  · exact h1
  · exfalso
    have h3 : g * g * y ≤ g * g * (x * y) := Nat.mul_le_mul_left _ (by have := Nat.mul_le_mul_right y hx; omega)
    rcases Nat.lt_or_ge y 3914 with h2 | h2
    · have h4 := noy_sound 3295 619 noy_all (y - 619) (by omega)
      rw [show 619 + (y - 619) = y by omega] at h4
      have h5 := Ix_gl h h41 (by omega)
      have := Nat.mul_le_mul_right y (Nat.mul_le_mul h5 h5)
      omega
    · have h4 := h.ql h41
      rw [ql_end (by omega)] at h4
      have h5 := h.lens (by omega)
      have h6 := Nat.mul_le_mul (Nat.mul_le_mul h5 h5) h2
      have : NN = 2305843009213693952 := rfl
      omega
end Go.Proofs.YtogbdnecpdcmiabDoor.Mr
/- What the rows of the sieve cover: (y, S, x): for the odd y all odd x below, all t from 105 S on: made by a program (genA.py). -/
namespace Go.Proofs.YtogbdnecpdcmiabDoor.Mr
def covt : List (Nat × Nat × Nat) := [(3, 0, 3), (5, 462, 5), (7, 1121, 7), (9, 1861, 9), (11, 2572, 11), (13, 3469, 13), (15, 4521, 15), (17, 5659, 17),
  (19, 6776, 19), (21, 7740, 21), (23, 8922, 23), (25, 10362, 25), (27, 11428, 27), (29, 13432, 29), (31, 14966, 31), (33, 15797, 33),
  (35, 17739, 35), (37, 18854, 37), (39, 21304, 39), (41, 22770, 41), (43, 24394, 43), (45, 26191, 45), (47, 28176, 47), (49, 28648, 49),
  (51, 30926, 51), (53, 33438, 53), (55, 34155, 55), (57, 34934, 57), (59, 37921, 59), (61, 38879, 61), (63, 39903, 63), (65, 43456, 65),
  (67, 44688, 67), (69, 45996, 69), (71, 47383, 71), (73, 48850, 73), (75, 50400, 75), (77, 52036, 77), (79, 53762, 79), (81, 55581, 81),
  (83, 57496, 83), (85, 59512, 85), (87, 61632, 87), (89, 63862, 89), (91, 66206, 91), (93, 68669, 93), (95, 67223, 95), (97, 69788, 97),
  (99, 72481, 99), (101, 75308, 93), (103, 73846, 95), (105, 76785, 85), (107, 79871, 77), (109, 83110, 71), (111, 81613, 71), (113, 84978, 65),
  (115, 88510, 59), (117, 86997, 61), (119, 90667, 55), (121, 89169, 55), (123, 92982, 51), (125, 96984, 45), (127, 95457, 47), (129, 99615, 41),
  (131, 98095, 43), (133, 102417, 39), (135, 100899, 39), (137, 105392, 35), (139, 103875, 35), (141, 108546, 33), (143, 107028, 33), (145, 111885, 29),
  (147, 110363, 31), (149, 115414, 27), (151, 113886, 27), (153, 119141, 25), (155, 117603, 25), (157, 123072, 23), (159, 121524, 23), (161, 120014, 23),
  (163, 125654, 21), (165, 124131, 21), (167, 130003, 19), (169, 128464, 19), (171, 134580, 17), (173, 133024, 19), (175, 131503, 19), (177, 137819, 17),
  (179, 136279, 17), (181, 134773, 17), (183, 141298, 15), (185, 139770, 15), (187, 146572, 15), (189, 145021, 15), (191, 143503, 15), (193, 150536, 13),
  (195, 148992, 13), (197, 147480, 13), (199, 154758, 11), (201, 153218, 13), (203, 151708, 13), (205, 159242, 11), (207, 157703, 11), (209, 156194, 11),
  (211, 154713, 11), (213, 162456, 11), (215, 160945, 11), (217, 159462, 11), (219, 167486, 9), (221, 165970, 9), (223, 164482, 9), (225, 163020, 9),
  (227, 171278, 9), (229, 169782, 9), (231, 168313, 9), (233, 176880, 9), (235, 175374, 9), (237, 173895, 9), (239, 172439, 9), (241, 181269, 7),
  (243, 179777, 7), (245, 178309, 7), (247, 176866, 7), (249, 185972, 7), (251, 184490, 7), (253, 183031, 7), (255, 181596, 7), (257, 190994, 7),
  (259, 189519, 7), (261, 188067, 7), (263, 186636, 7), (265, 196341, 7), (267, 194871, 7), (269, 193422, 7), (271, 191994, 7), (273, 190588, 7),
  (275, 200554, 5), (277, 199106, 5), (279, 197679, 5), (281, 196272, 5), (283, 206578, 5), (285, 205128, 5), (287, 203698, 5), (289, 202289, 5),
  (291, 200898, 5), (293, 211499, 5), (295, 210065, 5), (297, 208650, 5), (299, 207255, 5), (301, 205878, 5), (303, 216790, 5), (305, 215368, 5),
  (307, 213965, 5), (309, 212580, 5), (311, 211213, 5), (313, 222455, 5), (315, 221043, 5), (317, 219648, 5), (319, 218271, 5), (321, 216911, 5),
  (323, 215568, 5), (325, 227096, 5), (327, 225707, 5), (329, 224335, 5), (331, 222980, 5), (333, 221640, 5), (335, 220317, 5), (337, 232150, 3),
  (339, 230781, 3), (341, 229427, 3), (343, 228089, 3), (345, 226767, 3), (347, 238988, 3), (349, 237618, 3), (351, 236264, 3), (353, 234926, 3),
  (355, 233602, 3), (357, 232293, 3), (359, 230999, 3), (361, 229719, 3), (363, 242161, 3), (365, 240834, 3), (367, 239522, 3), (369, 238223, 3),
  (371, 236939, 3), (373, 235669, 3), (375, 234412, 3), (377, 247158, 3), (379, 245854, 3), (381, 244564, 3), (383, 243286, 3), (385, 242023, 3),
  (387, 240772, 3), (389, 239534, 3), (391, 252607, 3), (393, 251322, 3), (395, 250049, 3), (397, 248790, 3), (399, 247542, 3), (401, 246308, 3),
  (403, 245085, 3), (405, 243875, 3), (407, 257237, 3), (409, 255980, 3), (411, 254734, 3), (413, 253500, 3), (415, 252279, 3), (417, 251069, 3),
  (419, 249870, 3), (421, 248683, 3), (423, 262358, 3), (425, 261123, 3), (427, 259900, 3), (429, 258688, 3), (431, 257488, 3), (433, 256299, 3),
  (435, 255120, 3), (437, 253953, 3), (439, 267964, 3), (441, 266748, 3), (443, 265544, 3), (445, 264351, 3), (447, 263168, 3), (449, 261996, 3),
  (451, 260834, 3), (453, 259682, 3), (455, 258541, 3), (457, 272854, 3), (459, 271665, 3), (461, 270486, 3), (463, 269318, 3), (465, 268160, 3),
  (467, 267011, 3), (469, 265872, 3), (471, 264743, 3), (473, 263624, 3), (475, 262514, 3), (477, 277098, 3), (479, 275941, 3), (481, 274794, 3),
  (483, 273656, 3), (485, 272527, 3), (487, 271408, 3), (489, 270298, 3), (491, 269197, 3), (493, 268105, 3), (495, 267022, 3), (497, 281904, 3),
  (499, 280774, 3), (501, 279653, 3), (503, 278542, 3), (505, 277438, 3), (507, 276344, 3), (509, 275258, 3), (511, 274181, 3), (513, 273112, 3),
  (515, 272051, 3), (517, 287259, 3), (519, 286152, 3), (521, 285053, 3), (523, 283963, 3), (525, 282881, 3), (527, 281808, 3), (529, 280742, 3),
  (531, 279685, 3), (533, 278636, 3), (535, 277594, 3), (537, 276560, 3), (539, 275534, 3), (541, 290986, 3), (543, 289914, 3), (545, 288851, 3),
  (547, 287794, 3), (549, 286746, 3), (551, 285705, 3), (553, 284672, 3), (555, 283646, 3), (557, 282628, 3), (559, 281616, 3), (561, 280612, 3),
  (563, 279616, 3), (565, 295343, 3), (567, 294302, 3), (569, 293267, 3), (571, 292240, 3), (573, 291220, 3), (575, 290207, 3), (577, 289201, 3),
  (579, 288202, 3), (581, 287210, 3), (583, 286225, 3), (585, 285246, 3), (587, 284274, 3), (589, 283309, 3), (591, 299291, 1), (593, 298282, 1),
  (595, 297279, 1), (597, 296283, 1), (599, 295294, 3), (601, 294311, 3), (603, 293335, 3), (605, 292365, 3), (607, 291402, 3), (609, 290445, 3),
  (611, 289494, 3), (613, 288550, 3), (615, 287612, 3), (617, 286679, 3)]
end Go.Proofs.YtogbdnecpdcmiabDoor.Mr
/- Assembly for products of two primes with the same exponent of two. -/
namespace Go.Proofs.YtogbdnecpdcmiabDoor.Mr

/-- all odd x below xe are done for y, from t = 105 S on -/
def CovY (y S xe : Nat) : Prop := ∀ x, x % 2 = 1 → x < xe → x < y → Nat.gcd x y = 1 → ∀ t, 105 * S ≤ t → ¬ GoodA x y t
theorem CovY.one (y S : Nat) : CovY y S 1 := fun x h1 h2 => by omega
theorem CovY.step {n y S x0 k : Nat} (h : CovY y S x0) (hr : row n y S x0 k = true) (hy : y % 2 = 1) (hx : x0 % 2 = 1) : CovY y S (x0 + 2 * k) := by
  intro x h1 h2 h3 h4
  rcases Nat.lt_or_ge x x0 with h5 | h5
  · exact h x h1 h5 h3 h4
  · have e : x = x0 + 2 * ((x - x0) / 2) := by omega
    rw [e] at h3 h4 ⊢
    exact row_sound hy hx hr ((x - x0) / 2) (by omega) h3 h4
/-- all of a list -/
def Covs : List (Nat × Nat × Nat) → Prop
  | [] => True
  | e :: l => CovY e.1 e.2.1 e.2.2 ∧ Covs l
theorem Covs.append {l m : List (Nat × Nat × Nat)} (h1 : Covs l) (h2 : Covs m) : Covs (l ++ m) := by
  induction l with
  | nil => exact h2
  | cons e l ih => exact ⟨h1.1, ih h1.2⟩
theorem Covs.mem {l : List (Nat × Nat × Nat)} (h : Covs l) {e : Nat × Nat × Nat} (he : e ∈ l) : CovY e.1 e.2.1 e.2.2 := by
  induction l with
  | nil => simp at he
  | cons d l ih =>
    rcases List.mem_cons.1 he with rfl | he
    · exact h.1
    · exact ih h.2 he
/-- the table reaches far enough -/
noncomputable def okcov (l : List (Nat × Nat × Nat)) : Nat → Bool :=
  List.rec (motive := fun _ => Nat → Bool) (fun y => Nat.ble 619 y)
    (fun e _ ih y => ba (ba (Nat.beq e.1 y) (Nat.ble (Nat.mul 210 e.2.1) (gl y))) (ba (bc (Nat.ble y e.2.2) true (Nat.ble NN (Nat.mul (Nat.mul (gl y) (gl y)) (Nat.mul e.2.2 y)))) (fc (Nat.add y 2) ih))) l
set_option maxRecDepth 100000 in
theorem covt_ok : okcov covt 3 = true := by decide +kernel
theorem okcov_sound (l : List (Nat × Nat × Nat)) : ∀ y0, okcov l y0 = true → ∀ y, y0 ≤ y → y < 619 → y % 2 = y0 % 2 →
    ∃ e ∈ l, e.1 = y ∧ 210 * e.2.1 ≤ gl y ∧ (y ≤ e.2.2 ∨ NN ≤ gl y * gl y * (e.2.2 * y)) := by
  induction l with
  | nil => intro y0 h y h1 h2; have := ble_true.1 h; omega
  | cons e l ih =>
    intro y0 h y h1 h2 h3
    have h' : ba (ba (Nat.beq e.1 y0) (Nat.ble (Nat.mul 210 e.2.1) (gl y0))) (ba (bc (Nat.ble y0 e.2.2) true (Nat.ble NN (Nat.mul (Nat.mul (gl y0) (gl y0)) (Nat.mul e.2.2 y0)))) (fc (Nat.add y0 2) (okcov l))) = true := h
    rw [ba_true, ba_true, ba_true, fc_eq] at h'
    obtain ⟨⟨a1, a2⟩, a3, a4⟩ := h'
    rcases Nat.eq_or_lt_of_le h1 with rfl | h1
    · refine ⟨e, List.mem_cons_self, beq_true.1 a1, ble_true.1 a2, ?_⟩
      rcases bc_cases (· = true) a3 with ⟨b, _⟩ | ⟨_, b⟩
      · exact Or.inl (ble_true.1 b)
      · exact Or.inr (ble_true.1 b)
    · obtain ⟨d, hd, hd'⟩ := ih (y0 + 2) a4 y (by omega) h2 (by omega)
      exact ⟨d, List.mem_cons_of_mem _ hd, hd'⟩

theorem two_part_unique {u t v w : Nat} (h : 2 ^ u * t = 2 ^ v * w) (ht : t % 2 = 1) (hw : w % 2 = 1) : u = v := by
  rcases Nat.lt_trichotomy u v with h1 | h1 | h1
  · obtain ⟨c, rfl⟩ : ∃ c, v = u + (c + 1) := ⟨v - u - 1, by omega⟩
    rw [Nat.pow_add, Nat.mul_assoc] at h
    have := Nat.eq_of_mul_eq_mul_left (Nat.pow_pos (by decide)) h
    rw [Nat.pow_succ, show 2 ^ c * 2 * w = 2 * (2 ^ c * w) by grind] at this; omega
  · exact h1
  · obtain ⟨c, rfl⟩ : ∃ c, u = v + (c + 1) := ⟨u - v - 1, by omega⟩
    rw [Nat.pow_add, Nat.mul_assoc] at h
    have := Nat.eq_of_mul_eq_mul_left (Nat.pow_pos (by decide)) h
    rw [Nat.pow_succ, show 2 ^ c * 2 * t = 2 * (2 ^ c * t) by grind] at this; omega

/-- what n = p q gives: the common exponent and the indices -/
theorem two_primes {n s d p q : Nat} (H : Hyp n s d) (hp : Pm p) (hq : Pm q) (hn : n = p * q) :
    ∃ g x y, 0 < x ∧ 0 < y ∧ Nat.gcd x y = 1 ∧ Ix p g x ∧ Ix q g y := by
  have hpn : p ∣ n := ⟨q, hn⟩
  have hqn : q ∣ n := ⟨p, by rw [hn, Nat.mul_comm]⟩
  have hp41 := H.small p hp hpn
  have hq41 := H.small q hq hqn
  have hp2 := odd_of_dvd hpn H.two
  have hq2 := odd_of_dvd hqn H.two
  have e1 : n - 1 = (p - 1) * q + (q - 1) := by
    obtain ⟨a, rfl⟩ : ∃ a, p = a + 1 := ⟨p - 1, by omega⟩
    rw [hn, Nat.add_sub_cancel, Nat.add_mul]; omega
  have e2 : n - 1 = (q - 1) * p + (p - 1) := by
    obtain ⟨a, rfl⟩ : ∃ a, q = a + 1 := ⟨q - 1, by omega⟩
    rw [hn, Nat.add_sub_cancel, Nat.mul_comm p, Nat.add_mul]; omega
  have g1 : Nat.gcd (p - 1) (n - 1) = Nat.gcd (p - 1) (q - 1) := by rw [e1, Nat.gcd_mul_left_add_right]
  have g2 : Nat.gcd (q - 1) (n - 1) = Nat.gcd (p - 1) (q - 1) := by rw [e2, Nat.gcd_mul_left_add_right, Nat.gcd_comm]
  have x1 := Ex.gcd _ _ (Ex.fermat hp hp41 hp2) (H.ex hpn)
  have x2 := Ex.gcd _ _ (Ex.fermat hq hq41 hq2) (H.ex hqn)
  rw [g1] at x1; rw [g2] at x2
  have hg0 : 0 < Nat.gcd (p - 1) (q - 1) := Nat.gcd_pos_of_pos_left _ (by omega)
  have hev : Nat.gcd (p - 1) (q - 1) % 2 = 0 := Nat.mod_eq_zero_of_dvd (Nat.dvd_gcd (Nat.dvd_of_mod_eq_zero (by omega)) (Nat.dvd_of_mod_eq_zero (by omega)))
  obtain ⟨x, hx⟩ := Nat.gcd_dvd_left (p - 1) (q - 1)
  obtain ⟨y, hy⟩ := Nat.gcd_dvd_right (p - 1) (q - 1)
  refine ⟨Nat.gcd (p - 1) (q - 1), x, y, ?_, ?_, ?_, ⟨hp, hg0, hev, x1, by omega⟩, ⟨hq, hg0, hev, x2, by omega⟩⟩
  · exact Nat.pos_of_ne_zero (by rintro rfl; omega)
  · exact Nat.pos_of_ne_zero (by rintro rfl; omega)
  · have := Nat.gcd_mul_left (Nat.gcd (p - 1) (q - 1)) x y
    rw [← hx, ← hy] at this
    exact Nat.eq_of_mul_eq_mul_left hg0 (by omega)

/-- Both indices are odd: impossible. -/
theorem caseA (hcov : Covs covt) {n s d p q g x y : Nat} (H : Hyp n s d) (hn : n = p * q) (hlt : n < NN) (hp : Ix p g x) (hq : Ix q g y)
    (hx0 : 0 < x) (hxy : x < y) (hc : Nat.gcd x y = 1) (hx : x % 2 = 1) (hy : y % 2 = 1) : False := by
  have hpn : p ∣ n := ⟨q, hn⟩
  have hqn : q ∣ n := ⟨p, by rw [hn, Nat.mul_comm]⟩
  have hp41 := H.small p hp.pm hpn
  have hq41 := H.small q hq.pm hqn
  have hp2 := odd_of_dvd hpn H.two
  obtain ⟨t, ht⟩ : ∃ t, g = 2 * t := ⟨g / 2, by have := hp.ev; omega⟩
  have ep : p = 1 + 2 * t * x := by rw [← ht]; exact hp.eq
  have eq : q = 1 + 2 * t * y := by rw [← ht]; exact hq.eq
  have hgg : g * g * (x * y) < NN := by
    have h1 : g * x ≤ p := by rw [hp.eq]; omega
    have h2 : g * y ≤ q := by rw [hq.eq]; omega
    have := Nat.mul_le_mul h1 h2
    have e : g * x * (g * y) = g * g * (x * y) := by grind
    omega
  have hy619 := y_lt hq hq41 hx0 hgg
  obtain ⟨e, he, e1, e2, e3⟩ := okcov_sound covt 3 covt_ok y (by omega) hy619 (by omega)
  have hgl := Ix_gl hq hq41 (by omega)
  have hcy := hcov.mem he
  rw [e1] at hcy
  have hxe : x < e.2.2 := by
    rcases e3 with e3 | e3
    · omega
    · rcases Nat.lt_or_ge x e.2.2 with h | h
      · exact h
      · exfalso
        have h1 := Nat.mul_le_mul hgl hgl
        have h2 := Nat.mul_le_mul_right y h
        have := Nat.mul_le_mul h1 h2; omega
  refine hcy x hx hxe hxy hc t (by omega) ?_
  -- the signatures agree
  obtain ⟨u, w, hu, hw⟩ := two_part (p - 1) (by omega)
  obtain ⟨v, z, hv, hz⟩ := two_part (q - 1) (by omega)
  have huv : u = v := by
    obtain ⟨a, b, ha, hb⟩ := two_part g hp.g0
    have h1 : 2 ^ u * w = 2 ^ a * (b * x) := by rw [← hu, hp.eq, ha]; grind
    have h2 : 2 ^ v * z = 2 ^ a * (b * y) := by rw [← hv, hq.eq, ha]; grind
    have o1 : (b * x) % 2 = 1 := by rw [Nat.mul_mod, hb, hx]
    have o2 : (b * y) % 2 = 1 := by rw [Nat.mul_mod, hb, hy]
    rw [two_part_unique h1 hw o1, two_part_unique h2 hz o2]
  have m1 := match_prime H hp.pm hq.pm hpn hqn hu hw hv hz (by omega)
  have m2 := match_prime H hq.pm hp.pm hqn hpn hv hz hu hw (by omega)
  have hfin : p % 8 = q % 8 ∧ ∀ l ∈ odds, p % l ≠ 0 ∧ q % l ≠ 0 ∧ qr l p = qr l q := by
    have n1 : ∀ l ∈ odds, p % l ≠ 0 ∧ q % l ≠ 0 := fun l hl => ⟨H.not_odds hp.pm hpn hl, H.not_odds hq.pm hqn hl⟩
    rcases m1 with ⟨a, b⟩ | ⟨a, b⟩
    · exact ⟨a.symm, fun l hl => ⟨(n1 l hl).1, (n1 l hl).2, (b l hl).2.symm⟩⟩
    · rcases m2 with ⟨a', b'⟩ | ⟨a', b'⟩
      · exact ⟨a', fun l hl => ⟨(n1 l hl).1, (n1 l hl).2, (b' l hl).2⟩⟩
      · exact ⟨by omega, fun l hl => ⟨(n1 l hl).1, (n1 l hl).2, by rw [(b l hl).2, (b' l hl).2]⟩⟩
  have h64 : NN < 2 ^ 64 := by decide
  refine ⟨?_, ?_, ?_, ?_, ?_, ?_, ?_⟩
  · rw [← ep, ← eq]; exact hfin.1
  · rw [← ep, ← eq]; exact hfin.2
  · rw [← ep]; exact hp.pm
  · rw [← eq]; exact hq.pm
  · rw [← eq, ← ht]; exact hq.pow 2 (by decide)
  · rw [← ep, ← eq, ← hn]; exact fails_sound H (by omega)
  · rw [← ep, ← eq, ← hn]; exact hlt
end Go.Proofs.YtogbdnecpdcmiabDoor.Mr
/- The least even exponent of the bases modulo a prime. -/
namespace Go.Proofs.YtogbdnecpdcmiabDoor.Mr

noncomputable def stq (a x d w : Nat) : Nat := Nat.mod (Nat.mul (Nat.pow x 64) (Nat.pow a (Nat.land d 63))) w
/-- a^k modulo w -/
noncomputable def pwa (a w k : Nat) : Nat :=
  stq a (stq a (stq a (stq a (stq a (Nat.mod (Nat.pow a (Nat.shiftRight k 30)) w) (Nat.shiftRight k 24) w) (Nat.shiftRight k 18) w) (Nat.shiftRight k 12) w) (Nat.shiftRight k 6) w) k w
/-- all bases of the list have the exponent k modulo w -/
noncomputable def exb (w k : Nat) (l : List Nat) : Bool := List.rec (motive := fun _ => Bool) true (fun a _ ih => bc (Nat.beq (pwa a w k) 1) ih false) l
noncomputable def redA (w l : Nat) (ih : Nat → Nat) (g h : Nat) : Nat :=
  bc (Nat.beq (Nat.mod g l) 0) (bc (Nat.beq (Nat.mod h 2) 0) (bc (exb w h [2, 3, 5, 7, 11, 13, 17, 19, 23, 29, 31, 37]) (ih h) g) g) g
/-- divides l out while all bases keep the exponent -/
noncomputable def red (w l k : Nat) : Nat → Nat := Nat.rec (motive := fun _ => Nat → Nat) (fun _ => 0) (fun _ ih g => redA w l ih g (Nat.div g l)) k
noncomputable def reds (w : Nat) (ls : List Nat) : Nat → Nat := List.rec (motive := fun _ => Nat → Nat) (fun g => g) (fun l _ ih g => ih (bc (Nat.beq (Nat.mod g l) 0) (red w l 64 g) g)) ls
noncomputable def grp (w : Nat) (ls : Nat × List Nat) (g : Nat) : Nat := bc (Nat.beq (Nat.gcd (Nat.sub w 1) ls.1) 1) g (reds w ls.2 g)
noncomputable def lamC (w T : Nat) (ih : Nat → Nat) (g : Nat) : Nat := bc (Nat.ble (Nat.succ w) T) g (ih g)
noncomputable def grps (w : Nat) (ss : List (Nat × List Nat)) : Nat → Nat := List.rec (motive := fun _ => Nat → Nat) (fun g => g) (fun s _ ih g => ih (grp w s g)) ss
noncomputable def sup (w P : Nat) (ss : List (Nat × List Nat)) (g : Nat) : Nat := bc (Nat.beq (Nat.gcd (Nat.sub w 1) P) 1) g (grps w ss g)
noncomputable def lamG (w : Nat) (gs : List (Nat × List (Nat × List Nat) × Nat × Nat)) : Nat → Nat :=
  List.rec (motive := fun _ => Nat → Nat) (fun _ => 0) (fun G _ ih g => lamC w G.2.2.2 ih (sup w G.1 G.2.1 g)) gs
/-- groups of primes, the next prime, and the bound for numbers whose index is below it -/
def groups : List (Nat × List (Nat × List Nat) × Nat × Nat) := [(30, [(30, [2, 3, 5])], 7, 1649281),
  (77, [(77, [7, 11])], 13, 9472595),
  (4199, [(4199, [13, 17, 19])], 23, 43094432),
  (765049, [(765049, [23, 29, 31, 37])], 41, 196053047),
  (82861, [(82861, [41, 43, 47])], 53, 372167208),
  (3749562977351496827, [(907383479, [53, 59, 61, 67, 71]), (4132280413, [73, 79, 83, 89, 97])], 101, 1597293510),
  (72255473008151934648648475807453, [(13710311357, [101, 103, 107, 109, 113]), (47205940259, [127, 131, 137, 139, 149]), (111641786731, [151, 157, 163, 167, 173])], 179, 5122736658),
  (147955583902504769198232221740150314346240961429, [(235281894389, [179, 181, 191, 193, 197]), (486745263701, [199, 211, 223, 227, 229]), (865720515469, [233, 239, 241, 251, 257]), (1492324978769, [263, 269, 271, 277, 281])], 283, 12276936499),
  (22280263591111607612337952912163348887171260032097862651334483, [(785518504414223, [283, 293, 307, 311, 313, 317]), (1711914026665907, [331, 337, 347, 349, 353, 359]), (3068689788020071, [367, 373, 379, 383, 389, 397]), (5399194415623193, [401, 409, 419, 421, 431, 433])], 439, 24703608297),
  (7937834947863565981871710783459291850398329434755000636834220049142748202794401, [(3977677644629389741, [439, 443, 449, 457, 461, 463, 467]), (7623773816036188619, [479, 487, 491, 499, 503, 509, 521]), (15768785477876916689, [523, 541, 547, 557, 563, 569, 571]), (26904137120607501863, [577, 587, 593, 599, 601, 607, 613]), (617, [617])], 619, 39373798513)]
noncomputable def lam (w : Nat) : Nat := lamG w groups (Nat.sub w 1)

theorem stq_eq {a b d w : Nat} : stq a (a ^ b % w) d w = a ^ (64 * b + d % 64) % w := by
  show ((a ^ b % w) ^ 64 * a ^ (d &&& 63)) % w = _
  have : d &&& 63 = d % 64 := Nat.and_two_pow_sub_one_eq_mod d 6
  rw [this, Nat.mul_mod, ← Nat.pow_mod, ← Nat.mul_mod, ← Nat.pow_mul, ← Nat.pow_add, Nat.mul_comm b]
theorem pwa_eq (a w k : Nat) : pwa a w k = a ^ k % w := by
  have e : pwa a w k = stq a (stq a (stq a (stq a (stq a (a ^ (k >>> 30) % w) (k >>> 24) w) (k >>> 18) w) (k >>> 12) w) (k >>> 6) w) k w := rfl
  rw [e, stq_eq, stq_eq, stq_eq, stq_eq, stq_eq]
  simp only [Nat.shiftRight_eq_div_pow]
  congr 2; omega
theorem exb_iff {w k : Nat} (hw : 2 ≤ w) (l : List Nat) : exb w k l = true ↔ ∀ a ∈ l, C w ((a : Int) ^ k) 1 := by
  induction l with
  | nil => exact ⟨fun _ a h => by simp at h, fun _ => rfl⟩
  | cons a l ih =>
    show bc (Nat.beq (pwa a w k) 1) (exb w k l) false = true ↔ _
    have h1 : Nat.beq (pwa a w k) 1 = true ↔ C w ((a : Int) ^ k) 1 := by
      rw [beq_true, pwa_eq]
      have : C w ((a : Int) ^ k) 1 ↔ C w ((a ^ k : Nat) : Int) ((1 : Nat) : Int) := by push_cast; exact Iff.rfl
      rw [this, C.nat_iff, Nat.mod_eq_of_lt (show 1 < w by omega)]
    constructor
    · intro h
      rcases bc_cases (· = true) h with ⟨h2, h3⟩ | ⟨_, h3⟩
      · intro b hb
        rcases List.mem_cons.1 hb with rfl | hb
        · exact h1.1 h2
        · exact ih.1 h3 b hb
      · exact Bool.noConfusion h3
    · intro h
      rw [bc_t (h1.2 (h a List.mem_cons_self))]
      exact ih.2 (fun b hb => h b (List.mem_cons_of_mem _ hb))
theorem exb_ex {w k : Nat} (hw : 2 ≤ w) : exb w k [2, 3, 5, 7, 11, 13, 17, 19, 23, 29, 31, 37] = true ↔ Ex w k := exb_iff hw _

/-- L is the least even exponent. -/
structure Lam (w L : Nat) : Prop where
  pos : 0 < L
  ev : L % 2 = 0
  ex : Ex w L
  dvd : ∀ k, k % 2 = 0 → Ex w k → L ∣ k
theorem exists_lam {w : Nat} (hw : Pm w) (h41 : 41 ≤ w) (h2 : w % 2 = 1) : ∃ L, Lam w L := by
  obtain ⟨L, ⟨a, b, c⟩, d⟩ := exists_least (fun k => 0 < k ∧ k % 2 = 0 ∧ Ex w k) ⟨w - 1, by omega, by omega, Ex.fermat hw h41 h2⟩
  refine ⟨L, a, b, c, fun k hk he => ?_⟩
  have h1 := Ex.gcd _ _ c he
  have h3 : Nat.gcd L k % 2 = 0 := Nat.mod_eq_zero_of_dvd (Nat.dvd_gcd (Nat.dvd_of_mod_eq_zero b) (Nat.dvd_of_mod_eq_zero hk))
  have h4 := d (Nat.gcd L k) ⟨Nat.gcd_pos_of_pos_left _ a, h3, h1⟩
  have h5 := Nat.le_of_dvd a (Nat.gcd_dvd_left L k)
  have : Nat.gcd L k = L := by omega
  rw [← this]; exact Nat.gcd_dvd_right L k

/-- what the steps keep: a multiple of L, an exponent, a divisor of w - 1, without the primes of the list -/
structure Inv (w L g : Nat) (done : Nat → Prop) : Prop where
  dvd : L ∣ g
  ex : Ex w g
  up : g ∣ w - 1
  free : ∀ l, done l → Pm l → ∀ c, g = L * c → ¬ l ∣ c
theorem red_inv {w L l : Nat} {done : Nat → Prop} (hw : 2 ≤ w) (hL : Lam w L) (k : Nat) : ∀ g, Inv w L g done → red w l k g = 0 ∨ Inv w L (red w l k g) (fun m => done m ∨ m = l) := by
  induction k with
  | zero => intro g _; exact Or.inl rfl
  | succ k ih =>
    intro g hg
    show redA w l (red w l k) g (g / l) = 0 ∨ Inv w L (redA w l (red w l k) g (g / l)) _
    have stop : (Pm l → ∀ c, g = L * c → ¬ l ∣ c) → Inv w L g (fun m => done m ∨ m = l) := fun h =>
      ⟨hg.dvd, hg.ex, hg.up, fun m hm hpm => by
        rcases hm with hm | rfl
        · exact hg.free m hm hpm
        · exact h hpm⟩
    have bad : Pm l → ∀ c, g = L * c → l ∣ c → g % l = 0 ∧ (g / l) % 2 = 0 ∧ Ex w (g / l) := by
      intro hl c hc ⟨e, he⟩
      have hl0 : 0 < l := by have := hl.1; omega
      have e1 : g = l * (L * e) := by rw [hc, he]; grind
      have e2 : g / l = L * e := by rw [e1, Nat.mul_div_cancel_left _ hl0]
      refine ⟨by rw [e1, Nat.mul_mod_right], by rw [e2, Nat.mul_mod, hL.ev]; simp, by rw [e2]; exact hL.ex.mul e⟩
    unfold redA
    cases h1 : Nat.beq (Nat.mod g l) 0 with
    | false =>
      right; rw [bc_f rfl]
      exact stop (fun hl c hc hd => by have := (bad hl c hc hd).1; have h2 := beq_true.2 this; rw [show Nat.beq (Nat.mod g l) 0 = true from h2] at h1; exact Bool.noConfusion h1)
    | true =>
      rw [bc_t rfl]
      cases h2 : Nat.beq (Nat.mod (g / l) 2) 0 with
      | false =>
        right; rw [bc_f rfl]
        exact stop (fun hl c hc hd => by have := (bad hl c hc hd).2.1; have h3 := beq_true.2 this; rw [show Nat.beq (Nat.mod (g / l) 2) 0 = true from h3] at h2; exact Bool.noConfusion h2)
      | true =>
        rw [bc_t rfl]
        cases h3 : exb w (g / l) [2, 3, 5, 7, 11, 13, 17, 19, 23, 29, 31, 37] with
        | false =>
          right; rw [bc_f rfl]
          exact stop (fun hl c hc hd => by have := (exb_ex hw).2 (bad hl c hc hd).2.2; rw [this] at h3; exact Bool.noConfusion h3)
        | true =>
          rw [bc_t rfl]
          have hex := (exb_ex hw).1 h3
          have hmod : g % l = 0 := beq_true.1 h1
          have hdl : g = l * (g / l) := by have := Nat.div_add_mod g l; omega
          have hld := hL.dvd (g / l) (beq_true.1 h2) hex
          refine ih (g / l) ⟨hld, hex, Nat.dvd_trans ⟨l, by rw [Nat.mul_comm]; exact hdl⟩ hg.up, ?_⟩
          intro m hm hpm c hc hd
          obtain ⟨e, he⟩ := hd
          exact hg.free m hm hpm (l * c) (by rw [hdl, hc]; grind) ⟨l * e, by rw [he]; grind⟩
theorem red_zero (w l k : Nat) : red w l k 0 = 0 := by
  induction k with
  | zero => rfl
  | succ k ih =>
    show redA w l (red w l k) 0 (0 / l) = 0
    rw [Nat.zero_div]
    unfold redA
    cases Nat.beq (Nat.mod 0 l) 0 <;> cases Nat.beq (Nat.mod 0 2) 0 <;> cases exb w 0 [2, 3, 5, 7, 11, 13, 17, 19, 23, 29, 31, 37] <;> simp [bc, ih]
theorem reds_zero (w : Nat) (ls : List Nat) : reds w ls 0 = 0 := by
  induction ls with
  | nil => rfl
  | cons l ls ih =>
    show reds w ls (bc (Nat.beq (Nat.mod 0 l) 0) (red w l 64 0) 0) = 0
    rw [red_zero]; cases Nat.beq (Nat.mod 0 l) 0 <;> exact ih
theorem reds_inv {w L : Nat} (hw : 2 ≤ w) (hL : Lam w L) (ls : List Nat) : ∀ (done : Nat → Prop) g, Inv w L g done → reds w ls g = 0 ∨ Inv w L (reds w ls g) (fun m => done m ∨ m ∈ ls) := by
  induction ls with
  | nil => intro done g h; exact Or.inr ⟨h.dvd, h.ex, h.up, fun l hl => h.free l (by simpa using hl)⟩
  | cons l ls ih =>
    intro done g h
    show reds w ls (bc (Nat.beq (Nat.mod g l) 0) (red w l 64 g) g) = 0 ∨ Inv w L (reds w ls (bc (Nat.beq (Nat.mod g l) 0) (red w l 64 g) g)) _
    have hstep : bc (Nat.beq (Nat.mod g l) 0) (red w l 64 g) g = 0 ∨ Inv w L (bc (Nat.beq (Nat.mod g l) 0) (red w l 64 g) g) (fun m => done m ∨ m = l) := by
      cases hm : Nat.beq (Nat.mod g l) 0 with
      | true => exact red_inv (l := l) hw hL 64 g h
      | false =>
        right
        refine ⟨h.dvd, h.ex, h.up, fun m hm' hpm c hc hd => ?_⟩
        rcases hm' with hm' | rfl
        · exact h.free m hm' hpm c hc hd
        · have hc' : g = L * c := hc
          have : g % m = 0 := Nat.mod_eq_zero_of_dvd (Nat.dvd_trans hd ⟨L, by rw [hc', Nat.mul_comm]⟩)
          have h2 := beq_true.2 this
          rw [show Nat.beq (Nat.mod g m) 0 = true from h2] at hm; exact Bool.noConfusion hm
    rcases hstep with h1 | h1
    · left; rw [h1]; exact reds_zero w ls
    · rcases ih _ _ h1 with h2 | h2
      · exact Or.inl h2
      · right
        exact ⟨h2.dvd, h2.ex, h2.up, fun m hm => h2.free m (by
          rcases hm with hm | hm
          · exact Or.inl (Or.inl hm)
          · rcases List.mem_cons.1 hm with rfl | hm
            · exact Or.inl (Or.inr rfl)
            · exact Or.inr hm)⟩
/-- all primes of a group -/
def flat (ss : List (Nat × List Nat)) : List Nat := (ss.map Prod.snd).flatten
theorem dvd_lprod {l : Nat} {ls : List Nat} (h : l ∈ ls) : l ∣ lprod ls := by
  induction ls with
  | nil => simp at h
  | cons x ls ih =>
    rcases List.mem_cons.1 h with rfl | h
    · exact ⟨lprod ls, rfl⟩
    · exact Nat.dvd_trans (ih h) ⟨x, by simp only [lprod]; rw [Nat.mul_comm]⟩
theorem skip_inv {w L P g : Nat} {done : Nat → Prop} {ls : List Nat} (hP : P = lprod ls) (h : Inv w L g done) (h1 : Nat.gcd (w - 1) P = 1) : Inv w L g (fun m => done m ∨ m ∈ ls) := by
  refine ⟨h.dvd, h.ex, h.up, fun m hm hpm c hc hd => ?_⟩
  rcases hm with hm | hm
  · exact h.free m hm hpm c hc hd
  · have h2 : m ∣ w - 1 := Nat.dvd_trans (Nat.dvd_trans hd ⟨L, by rw [hc, Nat.mul_comm]⟩) h.up
    have h3 := Nat.dvd_gcd h2 (hP ▸ dvd_lprod hm)
    rw [h1] at h3
    have := Nat.le_of_dvd (by decide) h3; have := hpm.1; omega
theorem grp_inv {w L : Nat} (hw : 2 ≤ w) (hL : Lam w L) (ls : Nat × List Nat) (hP : ls.1 = lprod ls.2) {done : Nat → Prop} {g : Nat} (h : Inv w L g done) : grp w ls g = 0 ∨ Inv w L (grp w ls g) (fun m => done m ∨ m ∈ ls.2) := by
  unfold grp
  cases hg : Nat.beq (Nat.gcd (Nat.sub w 1) ls.1) 1 with
  | false => rw [bc_f rfl]; exact reds_inv hw hL ls.2 done g h
  | true => right; rw [bc_t rfl]; exact skip_inv hP h (beq_true.1 hg)
theorem grp_zero (w : Nat) (ls : Nat × List Nat) : grp w ls 0 = 0 := by
  unfold grp; rw [reds_zero]; cases Nat.beq (Nat.gcd (Nat.sub w 1) ls.1) 1 <;> rfl
theorem grps_zero (w : Nat) (ss : List (Nat × List Nat)) : grps w ss 0 = 0 := by
  induction ss with
  | nil => rfl
  | cons s ss ih => show grps w ss (grp w s 0) = 0; rw [grp_zero]; exact ih
theorem sup_zero (w P : Nat) (ss : List (Nat × List Nat)) : sup w P ss 0 = 0 := by
  unfold sup; rw [grps_zero]; cases Nat.beq (Nat.gcd (Nat.sub w 1) P) 1 <;> rfl
theorem grps_inv {w L : Nat} (hw : 2 ≤ w) (hL : Lam w L) (ss : List (Nat × List Nat)) (hss : ∀ s ∈ ss, s.1 = lprod s.2) : ∀ (done : Nat → Prop) g, Inv w L g done → grps w ss g = 0 ∨ Inv w L (grps w ss g) (fun m => done m ∨ m ∈ flat ss) := by
  induction ss with
  | nil => intro done g h; exact Or.inr ⟨h.dvd, h.ex, h.up, fun l hl => h.free l (by simpa [flat] using hl)⟩
  | cons s ss ih =>
    intro done g h
    show grps w ss (grp w s g) = 0 ∨ Inv w L (grps w ss (grp w s g)) _
    rcases grp_inv hw hL s (hss s List.mem_cons_self) h with h1 | h1
    · left; rw [h1]; exact grps_zero w ss
    · rcases ih (fun x hx => hss x (List.mem_cons_of_mem _ hx)) _ _ h1 with h2 | h2
      · exact Or.inl h2
      · right
        refine ⟨h2.dvd, h2.ex, h2.up, fun m hm => h2.free m ?_⟩
        have e : flat (s :: ss) = s.2 ++ flat ss := rfl
        rw [e, List.mem_append] at hm
        rcases hm with hm | hm | hm
        · exact Or.inl (Or.inl hm)
        · exact Or.inl (Or.inr hm)
        · exact Or.inr hm
theorem sup_inv {w L P : Nat} (hw : 2 ≤ w) (hL : Lam w L) (ss : List (Nat × List Nat)) (hP : P = lprod (flat ss)) (hss : ∀ s ∈ ss, s.1 = lprod s.2) {done : Nat → Prop} {g : Nat} (h : Inv w L g done) : sup w P ss g = 0 ∨ Inv w L (sup w P ss g) (fun m => done m ∨ m ∈ flat ss) := by
  unfold sup
  cases hg : Nat.beq (Nat.gcd (Nat.sub w 1) P) 1 with
  | false => rw [bc_f rfl]; exact grps_inv hw hL ss hss done g h
  | true => right; rw [bc_t rfl]; exact skip_inv hP h (beq_true.1 hg)
/-- the table of bounds grows -/
noncomputable def incr (l : List (Nat × Nat × Nat × Nat)) : Nat → Bool := List.rec (motive := fun _ => Nat → Bool) (fun _ => true) (fun e _ ih P => ba (Nat.ble P e.1) (ih e.1)) l
theorem tq_incr : incr tq 41 = true := by decide +kernel
theorem qlr_ge {y : Nat} (l : List (Nat × Nat × Nat × Nat)) : ∀ P, incr l P = true → P ≤ qlr y l P := by
  induction l with
  | nil => intro P _; exact Nat.le_refl _
  | cons e l ih =>
    intro P h
    have h' : ba (Nat.ble P e.1) (incr l e.1) = true := h
    rw [ba_true, ble_true] at h'
    show P ≤ bc (Nat.ble e.2.1 y) (qlr y l e.1) P
    cases Nat.ble e.2.1 y with
    | false => exact Nat.le_refl _
    | true => exact Nat.le_trans h'.1 (ih e.1 h'.2)
theorem qlr_mono {y z : Nat} (hyz : y ≤ z) (l : List (Nat × Nat × Nat × Nat)) : ∀ P, incr l P = true → qlr y l P ≤ qlr z l P := by
  induction l with
  | nil => intro P _; exact Nat.le_refl _
  | cons e l ih =>
    intro P h
    have h' : ba (Nat.ble P e.1) (incr l e.1) = true := h
    rw [ba_true, ble_true] at h'
    show bc (Nat.ble e.2.1 y) (qlr y l e.1) P ≤ _
    cases hy : Nat.ble e.2.1 y with
    | false => exact qlr_ge (e :: l) P h
    | true =>
      show qlr y l e.1 ≤ bc (Nat.ble e.2.1 z) (qlr z l e.1) P
      rw [bc_t (ble_true.2 (Nat.le_trans (ble_true.1 hy) hyz))]
      exact ih e.1 h'.2
theorem ql_mono {y z : Nat} (h : y ≤ z) : ql y ≤ ql z := qlr_mono h tq 41 tq_incr

/-- the groups are what they should be: all primes from the last bound on, below the second number, are in the group -/
noncomputable def okg (gs : List (Nat × List (Nat × List Nat) × Nat × Nat)) : Nat → Bool :=
  List.rec (motive := fun _ => Nat → Bool) (fun _ => true)
    (fun G _ ih lo => ba (ba (Nat.ble G.2.2.2 (ql G.2.2.1)) (G.1 == lprod (flat G.2.1) && G.2.1.all fun s => s.1 == lprod s.2)) (ba ((List.range (G.2.2.1 - lo)).all fun l => (flat G.2.1).contains (lo + l) || Nat.ble (lo + l) 1 || (List.range 25).any fun d => Nat.ble (d + 3) (lo + l) && Nat.beq ((lo + l) % (d + 2)) 0) (ih G.2.2.1))) gs
set_option maxRecDepth 100000 in
theorem groups_ok : okg groups 0 = true := by decide +kernel
theorem lamG_zero (w : Nat) (gs : List (Nat × List (Nat × List Nat) × Nat × Nat)) : ∀ g, g = 0 → lamG w gs g = 0 := by
  induction gs with
  | nil => intro g _; rfl
  | cons G gs ih =>
    intro g hg
    show lamC w G.2.2.2 (lamG w gs) (sup w G.1 G.2.1 g) = 0
    have : sup w G.1 G.2.1 g = 0 := by
      rw [hg]; exact sup_zero w G.1 G.2.1
    rw [this]; unfold lamC
    cases Nat.ble (Nat.succ w) G.2.2.2
    · exact ih 0 rfl
    · rfl
theorem lamG_sound {w L : Nat} (hw : Pm w) (h41 : 41 ≤ w) (hL : Lam w L) (gs : List (Nat × List (Nat × List Nat) × Nat × Nat)) : ∀ (lo : Nat) g, okg gs lo = true → Inv w L g (fun m => m < lo) → lamG w gs g = 0 ∨ lamG w gs g = L := by
  induction gs with
  | nil => intro lo g _ _; exact Or.inl rfl
  | cons G gs ih =>
    intro lo g ho hg
    have ho' : ba (ba (Nat.ble G.2.2.2 (ql G.2.2.1)) (G.1 == lprod (flat G.2.1) && G.2.1.all fun s => s.1 == lprod s.2)) (ba ((List.range (G.2.2.1 - lo)).all fun l => (flat G.2.1).contains (lo + l) || Nat.ble (lo + l) 1 || (List.range 25).any fun d => Nat.ble (d + 3) (lo + l) && Nat.beq ((lo + l) % (d + 2)) 0) (okg gs G.2.2.1)) = true := ho
    rw [ba_true, ba_true, ba_true, Bool.and_eq_true, beq_iff_eq] at ho'
    obtain ⟨⟨o1, oP, oS'⟩, o2, o3⟩ := ho'
    have oS : ∀ s ∈ G.2.1, s.1 = lprod s.2 := fun s hs => by have := List.all_eq_true.1 oS' s hs; rwa [beq_iff_eq] at this
    show lamC w G.2.2.2 (lamG w gs) (sup w G.1 G.2.1 g) = 0 ∨ lamC w G.2.2.2 (lamG w gs) (sup w G.1 G.2.1 g) = L
    rcases sup_inv (by omega) hL G.2.1 oP oS hg with h1 | h1
    · left; rw [h1]; unfold lamC
      cases Nat.ble (Nat.succ w) G.2.2.2
      · exact lamG_zero w gs 0 rfl
      · rfl
    · have h1' : Inv w L (sup w G.1 G.2.1 g) (fun m => m < G.2.2.1) := ⟨h1.dvd, h1.ex, h1.up, fun m hm hpm => h1.free m (by
        rcases Nat.lt_or_ge m lo with h | h
        · exact Or.inl h
        · right
          have := List.all_eq_true.1 o2 (m - lo) (List.mem_range.2 (by omega))
          rw [show lo + (m - lo) = m by omega, Bool.or_eq_true, Bool.or_eq_true] at this
          rcases this with (h6 | h6) | h6
          · exact List.contains_iff_mem.1 h6
          · have := ble_true.1 h6; have := hpm.1; omega
          · obtain ⟨d, _, hd'⟩ := List.any_eq_true.1 h6
            rw [Bool.and_eq_true, ble_true, beq_true] at hd'
            rcases hpm.2 (d + 2) (Nat.dvd_of_mod_eq_zero hd'.2) with h7 | h7 <;> omega) hpm⟩
      unfold lamC
      cases hT : Nat.ble (Nat.succ w) G.2.2.2 with
      | false => exact ih _ _ o3 h1'
      | true =>
        right
        show sup w G.1 G.2.1 g = L
        obtain ⟨c, hc⟩ := h1'.dvd
        obtain ⟨e, he⟩ := h1'.up
        have hpos : 0 < w - 1 := by omega
        have hc0 : 0 < c := Nat.pos_of_ne_zero (by rintro rfl; rw [hc] at he; simp at he; omega)
        have he0 : 0 < e := Nat.pos_of_ne_zero (by rintro rfl; simp at he; omega)
        have hix : Ix w L (c * e) := ⟨hw, hL.pos, hL.ev, hL.ex, by rw [← Nat.mul_assoc, ← hc, ← he]; omega⟩
        have hq := hix.ql h41
        have hy : c * e < G.2.2.1 := by
          rcases Nat.lt_or_ge (c * e) G.2.2.1 with h | h
          · exact h
          · have h3 := ql_mono h; have h4 := ble_true.1 o1; have h5 := ble_true.1 hT; omega
        have hcl : c ≤ c * e := by have := Nat.mul_le_mul_left c he0; omega
        rcases Nat.lt_or_ge c 2 with h | h
        · have : c = 1 := by omega
          rw [hc, this, Nat.mul_one]
        · exfalso
          obtain ⟨l, hl, hlc, _⟩ := exists_prime c h
          have hll := Nat.le_of_dvd hc0 hlc
          exact h1'.free l (by omega) hl c hc hlc
theorem lam_sound {w : Nat} (hw : Pm w) (h41 : 41 ≤ w) (h2 : w % 2 = 1) (h0 : 0 < lam w) : Lam w (lam w) := by
  obtain ⟨L, hL⟩ := exists_lam hw h41 h2
  have hi : Inv w L (w - 1) (fun m => m < 0) := ⟨hL.dvd _ (by omega) (Ex.fermat hw h41 h2), Ex.fermat hw h41 h2, Nat.dvd_refl _, fun m hm => by omega⟩
  rcases lamG_sound hw h41 hL groups 0 _ groups_ok hi with h | h
  · have : lam w = 0 := h; omega
  · have : lam w = L := h; rw [this]; exact hL
end Go.Proofs.YtogbdnecpdcmiabDoor.Mr
/- Products of two primes with different exponents of two: the one with the greater exponent, w = 1 + 8t, has the trivial signature. -/
namespace Go.Proofs.YtogbdnecpdcmiabDoor.Mr

noncomputable def patQ (l tq c : Nat) : Nat := Nat.land (Nat.shiftRight tq (Nat.mul l (Nat.mod c l))) (Nat.sub (Nat.pow 2 l) 1)
noncomputable def q105 (ts : List (Nat × Nat × Nat)) : Nat → Nat :=
  List.rec (motive := fun _ => Nat → Nat) (fun a => a) (fun c _ ih a => ih (Nat.land a (rpt c.1 105 (patQ c.1 c.2.1 4)))) ts
noncomputable def mkq (W : Nat) (ts : List ((Nat × Nat × Nat) × Nat)) : List (Nat → Nat → Nat) → (List (Nat → Nat → Nat) → Bool) → Bool :=
  List.rec (motive := fun _ => List (Nat → Nat → Nat) → (List (Nat → Nat → Nat) → Bool) → Bool) (fun acc k => k acc)
    (fun c _ ih acc => ih (rowf c.1.1 c.2 (rpt c.1.1 W (patQ c.1.1 c.1.2.1 420)) :: acc)) ts
/-- w z has a small factor in z, or fails -/
noncomputable def leafz (w z : Nat) : Bool := bc (ba (Nat.ble 2000 z) (Nat.ble 2 (Nat.gcd z kk))) true (fails (Nat.mul w z))
/-- z = 1 + g x for k odd x from x on -/
noncomputable def lpz (w g k : Nat) : Nat → Bool :=
  Nat.rec (motive := fun _ => Nat → Bool) (fun _ => true)
    (fun _ ih x => bc (Nat.ble NN (Nat.mul w (Nat.succ (Nat.mul g x)))) true (ba (leafz w (Nat.succ (Nat.mul g x))) (fc (Nat.add x 2) ih))) k
/-- (a, b, T): for indices from a on a prime is at least T -/
def ivs : List (Nat × Nat × Nat) := [(1, 7, 0), (7, 13, 1649281), (13, 23, 9472595), (23, 41, 43094432), (41, 53, 196053047), (53, 101, 372167208), (101, 151, 1597293510), (151, 251, 3611327206), (251, 401, 9724483607), (401, 619, 20741625888), (619, 2039, 39373798513)]
noncomputable def lpi (w g : Nat) (l : List (Nat × Nat × Nat)) : Bool :=
  List.rec (motive := fun _ => Bool) true (fun e _ ih => ba (bc (Nat.ble (Nat.succ (Nat.mul g e.2.1)) e.2.2) true (lpz w g (Nat.sub e.2.1 e.1) e.1)) ih) l
/-- no z at all if w (1 + g) is too great -/
noncomputable def lpj (w g : Nat) : Bool := bc (Nat.ble NN (Nat.mul w (Nat.succ g))) true (lpi w g ivs)
/-- the even divisors y of i -/
noncomputable def lpy (w i k : Nat) : Nat → Bool :=
  Nat.rec (motive := fun _ => Nat → Bool) (fun _ => false)
    (fun _ ih y => bc (Nat.ble (Nat.succ i) y) true (ba (bc (Nat.beq (Nat.mod i y) 0) (lpj w (Nat.div (Nat.sub w 1) y)) true) (fc (Nat.add y 2) ih))) k
noncomputable def leafw2 (w L : Nat) : Bool := ba (Nat.ble 1 L) (lpy w (Nat.div (Nat.sub w 1) L) 400 2)
noncomputable def leafw (w : Nat) : Bool := bc (Nat.ble 2000 w) (bc (Nat.beq (Nat.gcd w kk) 1) (leafw2 w (lamG w groups (Nat.div (Nat.sub w 1) 2))) true) true
noncomputable def lfw (w s : Nat) : Bool := leafw (Nat.add w (Nat.mul 840 s))
noncomputable def clq (n a0 : Nat) (ms : List (Nat → Nat → Nat)) (o r : Nat) : Bool :=
  ext (lfw (Nat.add 1 (Nat.mul 8 (Nat.add r (Nat.mul 105 o))))) n (sv ms r o a0) 0
/-- k chunks from o on -/
noncomputable def lpq (n W a0 m1 : Nat) (ms : List (Nat → Nat → Nat)) (k : Nat) : Nat → Bool :=
  Nat.rec (motive := fun _ => Nat → Bool) (fun _ => true) (fun _ ih o => ba (low (clq n a0 ms o) 0 106 m1) (fc (Nat.add o W) ih)) k
noncomputable def rowqB (n W o k : Nat) : Bool :=
  mkq W ((tabs.drop 3).zip inv105) [] fun ms => mkz W 420 420 zts ms fun ms => lpq n W (Nat.sub (Nat.pow 2 W) 1) (q105 (tabs.take 3) (Nat.sub (Nat.pow 2 105) 1)) ms k o
/-- all w = 1 + 8 (r + 105 m), m from o on, below o + k 2^(13 + n) -/
noncomputable def rowq (n o k : Nat) : Bool := fc (Nat.pow 2 (Nat.add 13 n)) fun W => rowqB n W o k
end Go.Proofs.YtogbdnecpdcmiabDoor.Mr
/- What the sieve of MrJ says. -/
namespace Go.Proofs.YtogbdnecpdcmiabDoor.Mr

/-- What is known of w and its partner z. -/
structure GoodW (w : Nat) : Prop where
  pm : Pm w
  mod8 : w % 8 = 1
  odd : ∀ l ∈ odds, w % l ≠ 0 ∧ qr l w = true
  part : ∃ z g x y, Ix w g y ∧ Ix z g x ∧ 41 ≤ z ∧ 0 < x ∧ 0 < y ∧ x % 2 = 1 ∧ y % 2 = 0 ∧ w * z < NN ∧ ¬ fails (w * z) = true

theorem kk_dvd {w z : Nat} (hw : Pm w) (hz : 2 ≤ Nat.gcd w kk) (_ : z = 0) : w < 2000 := by
  obtain ⟨l, hl, hd, _⟩ := exists_prime _ hz
  have h1 : l ∣ w := Nat.dvd_trans hd (Nat.gcd_dvd_left _ _)
  have h2 := kk_prime hl (Nat.dvd_trans hd (Nat.gcd_dvd_right _ _))
  have := hl.1
  rcases hw.2 l h1 with h3 | h3 <;> omega
theorem leafz_sound {w z : Nat} (hz : Pm z) (h : leafz w z = true) : fails (w * z) = true := by
  unfold leafz at h
  rcases bc_cases (· = true) h with ⟨h1, _⟩ | ⟨_, h1⟩
  · exfalso
    rw [ba_true, ble_true, ble_true] at h1
    have := kk_dvd hz h1.2 rfl; omega
  · exact h1
theorem lpz_sound {w g : Nat} (k : Nat) : ∀ a, lpz w g k a = true → ∀ j, j < k → w * (1 + g * (a + 2 * j)) < NN → Pm (1 + g * (a + 2 * j)) → fails (w * (1 + g * (a + 2 * j))) = true := by
  induction k with
  | zero => intro a _ j hj; omega
  | succ k ih =>
    intro a h j hj hlt hp
    have h' : bc (Nat.ble NN (Nat.mul w (Nat.succ (Nat.mul g a)))) true (ba (leafz w (Nat.succ (Nat.mul g a))) (fc (Nat.add a 2) (lpz w g k))) = true := h
    have e : Nat.succ (Nat.mul g a) = 1 + g * a := by show g * a + 1 = _; omega
    rw [e] at h'
    rcases bc_cases (· = true) h' with ⟨h1, _⟩ | ⟨_, h1⟩
    · exfalso
      have h2 : NN ≤ w * (1 + g * a) := ble_true.1 h1
      have h3 : g * a ≤ g * (a + 2 * j) := Nat.mul_le_mul_left _ (by omega)
      have := Nat.mul_le_mul_left w (show 1 + g * a ≤ 1 + g * (a + 2 * j) by omega)
      omega
    · rw [ba_true, fc_eq] at h1
      rcases j with _ | j
      · exact leafz_sound hp h1.1
      · have e2 : a + 2 * (j + 1) = (a + 2) + 2 * j := by omega
        rw [e2] at hlt hp ⊢
        exact ih (a + 2) h1.2 j (by omega) hlt hp
/-- the intervals: odd first numbers, right bounds, no gaps -/
noncomputable def okiv (l : List (Nat × Nat × Nat)) : Nat → Bool :=
  List.rec (motive := fun _ => Nat → Bool) (fun a => Nat.ble 2039 a) (fun e _ ih a => ba (ba (Nat.beq e.1 a) (Nat.beq (Nat.mod a 2) 1)) (ba (bc (Nat.beq e.2.2 0) true (Nat.ble e.2.2 (ql a))) (ih e.2.1))) l
set_option maxRecDepth 100000 in
theorem ivs_ok : okiv ivs 1 = true := by decide +kernel
theorem lpi_sound {w g x : Nat} (hz : Ix (1 + g * x) g x) (h41 : 41 ≤ 1 + g * x) (hx : x % 2 = 1) (hx2 : x < 2039) (hlt : w * (1 + g * x) < NN) (l : List (Nat × Nat × Nat)) :
    ∀ a, okiv l a = true → lpi w g l = true → a ≤ x → fails (w * (1 + g * x)) = true := by
  induction l with
  | nil => intro a ho _ ha; have : 2039 ≤ a := ble_true.1 ho; omega
  | cons e l ih =>
    intro a ho h ha
    have ho' : ba (ba (Nat.beq e.1 a) (Nat.beq (Nat.mod a 2) 1)) (ba (bc (Nat.beq e.2.2 0) true (Nat.ble e.2.2 (ql a))) (okiv l e.2.1)) = true := ho
    have h' : ba (bc (Nat.ble (Nat.succ (Nat.mul g e.2.1)) e.2.2) true (lpz w g (Nat.sub e.2.1 e.1) e.1)) (lpi w g l) = true := h
    rw [ba_true, ba_true, ba_true, beq_true, beq_true] at ho'
    rw [ba_true] at h'
    obtain ⟨⟨o1, o2⟩, o3, o4⟩ := ho'
    rcases Nat.lt_or_ge x e.2.1 with hb | hb
    · rcases bc_cases (· = true) h'.1 with ⟨h1, _⟩ | ⟨_, h1⟩
      · exfalso
        have h2 : g * e.2.1 + 1 ≤ e.2.2 := ble_true.1 h1
        rcases bc_cases (· = true) o3 with ⟨h3, _⟩ | ⟨_, h3⟩
        · have := beq_true.1 h3; omega
        · have h4 := ble_true.1 h3
          have h5 := ql_mono ha
          have h6 := hz.ql h41
          have h7 := Nat.mul_lt_mul_of_pos_left hb hz.g0
          omega
      · rw [o1] at h1
        have o2' : a % 2 = 1 := o2
        have e1 : x = a + 2 * ((x - a) / 2) := by omega
        have := lpz_sound _ _ h1 ((x - a) / 2) (by show _ < e.2.1 - a; omega) (by rw [← e1]; exact hlt) (by rw [← e1]; exact hz.pm)
        rwa [← e1] at this
    · exact ih e.2.1 o4 h'.2 hb
theorem lpy_sound {w i : Nat} (k : Nat) : ∀ a, lpy w i k a = true → ∀ y, a ≤ y → y % 2 = a % 2 → y ≤ i → i % y = 0 → lpj w ((w - 1) / y) = true := by
  induction k with
  | zero => intro a h; exact Bool.noConfusion h
  | succ k ih =>
    intro a h y h1 h2 h3 h4
    have h' : bc (Nat.ble (Nat.succ i) a) true (ba (bc (Nat.beq (Nat.mod i a) 0) (lpj w (Nat.div (Nat.sub w 1) a)) true) (fc (Nat.add a 2) (lpy w i k))) = true := h
    rcases bc_cases (· = true) h' with ⟨h5, _⟩ | ⟨_, h5⟩
    · have := ble_true.1 h5; omega
    · rw [ba_true, fc_eq] at h5
      rcases Nat.eq_or_lt_of_le h1 with rfl | h6
      · rcases bc_cases (· = true) h5.1 with ⟨_, h7⟩ | ⟨h7, _⟩
        · exact h7
        · have : Nat.beq (Nat.mod i a) 0 = true := beq_true.2 h4
          rw [this] at h7; exact Bool.noConfusion h7
      · exact ih (a + 2) h5.2 y (by omega) (by omega) h3 h4
theorem half_ex {w : Nat} (hw : Pm w) (h8 : w % 8 = 1) (h41 : 41 ≤ w) (ho : ∀ l ∈ odds, w % l ≠ 0 ∧ qr l w = true) : Ex w ((w - 1) / 2) := by
  intro l hl
  have hll := bases_lt hl
  have hnd : ¬ w ∣ l := fun h => by have := Nat.le_of_dvd (by omega) h; omega
  have hs := sign hw (h := (w - 1) / 2) (by omega) hnd
  have hF : F l (w % (4 * l)) = 0 := by
    rcases List.mem_cons.1 hl with rfl | hl'
    · rw [F_two (by omega)]; omega
    · rw [F_qr hl' (by omega) (ho l hl').1, if_pos (by omega)]; exact (ho l hl').2
  rw [hF, Int.pow_zero] at hs; exact hs
theorem leafw_sound {w : Nat} (hG : GoodW w) (h2000 : 2000 ≤ w) : ¬ leafw w = true := by
  intro h
  unfold leafw at h
  rw [bc_t (ble_true.2 h2000)] at h
  rcases bc_cases (· = true) h with ⟨_, h1⟩ | ⟨h1, _⟩
  · unfold leafw2 at h1
    rw [ba_true, ble_true] at h1
    obtain ⟨L, hL⟩ := exists_lam hG.pm (by omega) (by have := hG.mod8; omega)
    have h8 := hG.mod8
    have hhalf := half_ex hG.pm h8 (by omega) hG.odd
    have hi : Inv w L ((w - 1) / 2) (fun m => m < 0) := ⟨hL.dvd _ (by omega) hhalf, hhalf, ⟨2, by omega⟩, fun m hm => by omega⟩
    have hlam : lamG w groups (Nat.div (Nat.sub w 1) 2) = L := by
      rcases lamG_sound hG.pm (by omega) hL groups 0 _ groups_ok hi with h2 | h2
      · have h3 : lamG w groups (Nat.div (Nat.sub w 1) 2) = 0 := h2
        rw [h3] at h1; omega
      · exact h2
    rw [hlam] at h1
    obtain ⟨z, g, x, y, iw, iz, hz41, _, hy0, hx, hy, hlt, hf⟩ := hG.part
    obtain ⟨c, hc⟩ := hL.dvd g iw.ev iw.pow
    have hwi : w - 1 = L * (c * y) := by have := iw.eq; rw [← Nat.mul_assoc, ← hc]; omega
    have hdi : Nat.div (Nat.sub w 1) L = c * y := by
      show (w - 1) / L = _; rw [hwi, Nat.mul_div_cancel_left _ hL.pos]
    rw [hdi] at h1
    have hc0 : 0 < c := Nat.pos_of_ne_zero (by rintro rfl; have := iw.g0; omega)
    have hyi : y ≤ c * y := by have := Nat.mul_le_mul_right y hc0; omega
    have h3 := lpy_sound 400 2 h1.2 y (by omega) (by omega) hyi (Nat.mul_mod_left c y)
    have hgy : (w - 1) / y = g := by rw [iw.eq, Nat.add_sub_cancel_left, Nat.mul_div_cancel _ hy0]
    rw [hgy] at h3
    have hz : z = 1 + g * x := iz.eq
    subst hz
    have hx2 : x < 2039 := by
      rcases Nat.lt_or_ge x 2039 with h5 | h5
      · exact h5
      · exfalso
        have h6 := iz.ql hz41
        rw [ql_end h5] at h6
        have h7 := iz.lens (by omega)
        have h8' : 2 * 24638562 ≤ g * y := by
          have := Nat.mul_le_mul h7 (show 2 ≤ y by omega); omega
        have h9 := iw.eq
        have := Nat.mul_le_mul (show 49277124 ≤ w by omega) h6
        have : NN = 2305843009213693952 := rfl
        omega
    unfold lpj at h3
    rcases bc_cases (· = true) h3 with ⟨h5, _⟩ | ⟨_, h5⟩
    · have h6 : NN ≤ w * (g + 1) := ble_true.1 h5
      have h7 : g * 1 ≤ g * x := Nat.mul_le_mul_left _ (by omega)
      have := Nat.mul_le_mul_left w (show g + 1 ≤ 1 + g * x by omega)
      omega
    · exact hf (lpi_sound iz hz41 hx hx2 hlt ivs 1 ivs_ok h5 (by omega))
  · have h3 : Nat.gcd w kk ≠ 1 := fun e => by rw [beq_true.2 e] at h1; exact Bool.noConfusion h1
    have h4 : 0 < Nat.gcd w kk := Nat.gcd_pos_of_pos_left _ (by omega)
    have := kk_dvd hG.pm (show 2 ≤ Nat.gcd w kk by omega) rfl
    omega

theorem patQ_lt (l tq c : Nat) : patQ l tq c < 2 ^ l := by
  have h1 : 2 ^ l - 1 < 2 ^ l := by have := Nat.one_le_two_pow (n := l); omega
  exact Nat.and_lt_two_pow _ h1
theorem patQ_bit {c : Nat × Nat × Nat} (hc : tabok c = true) (hl : 0 < c.1) {x t : Nat} (he : qr c.1 (1 + 2 * t * x) = true) : (patQ c.1 c.2.1 x).testBit (t % c.1) = true := by
  have e : patQ c.1 c.2.1 x = (c.2.1 >>> (c.1 * (x % c.1))) &&& (2 ^ c.1 - 1) := rfl
  have ht := Nat.mod_lt t hl
  have b1 := tab_bits hc (Nat.mod_lt x hl) ht
  have q1 : qr c.1 (1 + 2 * (t % c.1) * (x % c.1)) = qr c.1 (1 + 2 * t * x) := by rw [← qr_mod, lin_mod, qr_mod]
  rw [e, Nat.testBit_and, Nat.testBit_shiftRight, Nat.testBit_two_pow_sub_one, b1.1, q1, he, decide_eq_true ht]; rfl
/-- a mask function that lets the good w through -/
def LetsW (W : Nat) (c : Nat → Nat → Nat) : Prop := ∀ r o s, s < W → 2000 ≤ 1 + 2 * (r + 105 * (o + s)) * 4 → GoodW (1 + 2 * (r + 105 * (o + s)) * 4) → (c r o).testBit s = true
theorem q105_bit {t : Nat} (hG : GoodW (1 + 2 * t * 4)) (ts : List (Nat × Nat × Nat)) (hts : ∀ c ∈ ts, tabok c = true ∧ c.1 ∈ odds ∧ 105 % c.1 = 0) :
    ∀ a, a.testBit (t % 105) = true → (q105 ts a).testBit (t % 105) = true := by
  induction ts with
  | nil => intro a h; exact h
  | cons c ts ih =>
    intro a h
    show (q105 ts (a &&& rpt c.1 105 (patQ c.1 c.2.1 4))).testBit _ = true
    refine ih (fun d hd => hts d (List.mem_cons_of_mem _ hd)) _ ?_
    obtain ⟨h1, h2, h3⟩ := hts c List.mem_cons_self
    have hl0 : 0 < c.1 := by have := (odds_pm h2).2.1; omega
    rw [Nat.testBit_and, h, rpt_bit hl0 (patQ_lt _ _ _) (by have := Nat.mod_lt t (show 0 < 105 by decide); omega), Nat.mod_mod_of_dvd _ (Nat.dvd_of_mod_eq_zero h3), patQ_bit h1 hl0 (hG.odd _ h2).2]
    rfl
theorem mkq_sound {W : Nat} {P : (Nat → Nat → Nat) → Prop} (ts : List ((Nat × Nat × Nat) × Nat)) (hP : ∀ c ∈ ts, P (rowf c.1.1 c.2 (rpt c.1.1 W (patQ c.1.1 c.1.2.1 420)))) :
    ∀ acc k, mkq W ts acc k = true → (∀ c ∈ acc, P c) → ∃ ms, (∀ c ∈ ms, P c) ∧ k ms = true := by
  induction ts with
  | nil => intro acc k h ha; exact ⟨acc, ha, h⟩
  | cons c ts ih =>
    intro acc k h ha
    refine ih (fun d hd => hP d (List.mem_cons_of_mem _ hd)) _ k h ?_
    intro d hd
    rcases List.mem_cons.1 hd with rfl | hd
    · exact hP c List.mem_cons_self
    · exact ha d hd
theorem lpq_sound {n m1 : Nat} {ms : List (Nat → Nat → Nat)} (hms : ∀ c ∈ ms, LetsW (2 ^ (13 + n)) c) (hm1 : ∀ t, GoodW (1 + 2 * t * 4) → m1.testBit (t % 105) = true) (k : Nat) :
    ∀ o, lpq n (2 ^ (13 + n)) (2 ^ (2 ^ (13 + n)) - 1) m1 ms k o = true → ∀ m, o ≤ m → m < o + k * 2 ^ (13 + n) → ∀ r, r < 105 → 2000 ≤ 1 + 2 * (r + 105 * m) * 4 → ¬ GoodW (1 + 2 * (r + 105 * m) * 4) := by
  induction k with
  | zero => intro o _ m h1 h2; omega
  | succ k ih =>
    intro o h m hm hm2 r hr h2000 hG
    have h' : ba (low (clq n (2 ^ (2 ^ (13 + n)) - 1) ms o) 0 106 m1) (fc (Nat.add o (2 ^ (13 + n))) (lpq n (2 ^ (13 + n)) (2 ^ (2 ^ (13 + n)) - 1) m1 ms k)) = true := h
    rw [ba_true, fc_eq] at h'
    rcases Nat.lt_or_ge m (o + 2 ^ (13 + n)) with h2 | h2
    · obtain ⟨s, rfl⟩ : ∃ s, m = o + s := ⟨m - o, by omega⟩
      have hs : s < 2 ^ (13 + n) := by omega
      have hr' : (r + 105 * (o + s)) % 105 = r := by omega
      have hb := hm1 _ hG
      rw [hr'] at hb
      have hc := low_sound _ _ h'.1 r hb
      rw [Nat.zero_add] at hc
      unfold clq at hc
      have h3 := ext_sound n _ _ hc s hs (sv_bit ms r o s _ (ones_bit hs) (fun c hc => hms c hc r o s hs h2000 hG))
      rw [Nat.zero_add] at h3
      unfold lfw at h3
      have e : Nat.add (Nat.add 1 (Nat.mul 8 (Nat.add r (Nat.mul 105 o)))) (Nat.mul 840 s) = 1 + 2 * (r + 105 * (o + s)) * 4 := by
        show 1 + 8 * (r + 105 * o) + 840 * s = _; omega
      rw [e] at h3
      exact leafw_sound hG h2000 h3
    · exact ih _ h'.2 m h2 (by show m < (o + 2 ^ (13 + n)) + k * 2 ^ (13 + n); rw [Nat.succ_mul] at hm2; omega) r hr h2000 hG
/-- the rows from a to b are done -/
def Wdone (a b : Nat) : Prop := ∀ m, a ≤ m → m < b → ∀ r, r < 105 → 2000 ≤ 1 + 2 * (r + 105 * m) * 4 → ¬ GoodW (1 + 2 * (r + 105 * m) * 4)
theorem rowq_sound {n o k : Nat} (h : rowq n o k = true) : Wdone o (o + k * 2 ^ (13 + n)) := by
  intro m h1 h2 r hr h2000 hG
  unfold rowq at h
  rw [fc_eq] at h
  have h0 : mkq (2 ^ (13 + n)) ((tabs.drop 3).zip inv105) [] (fun ms => mkz (2 ^ (13 + n)) 420 420 zts ms fun ms => lpq n (2 ^ (13 + n)) (2 ^ (2 ^ (13 + n)) - 1) (q105 (tabs.take 3) (Nat.sub (Nat.pow 2 105) 1)) ms k o) = true := h
  have lets : ∀ c ∈ (tabs.drop 3).zip inv105, LetsW (2 ^ (13 + n)) (rowf c.1.1 c.2 (rpt c.1.1 (2 ^ (13 + n)) (patQ c.1.1 c.1.2.1 420))) := by
    intro c hc r o s hs _ hG
    obtain ⟨a, b, d⟩ := tabs_all c hc
    have hl0 : 0 < c.1.1 := by have := (odds_pm b).2.1; omega
    rw [rowf_bit hl0 (patQ_lt _ _ _) hs]
    have lx := lin105 (r := r) (o := o) (s := s) (x := 4) d
    have := patQ_bit a hl0 (x := 420) (t := (r * c.2 + o + s) % c.1.1) (by rw [← qr_mod, lx, qr_mod]; exact (hG.odd _ b).2)
    rw [Nat.mod_mod] at this; exact this
  have letz : ∀ c ∈ zts, LetsW (2 ^ (13 + n)) (rowf c.1 c.2.2 (rpt c.1 (2 ^ (13 + n)) (patZ c.1 c.2.1 420 420))) := by
    intro c hc r o s hs h2 hG
    obtain ⟨a, b, d, e⟩ := zts_ok c hc
    have hl0 : 0 < c.1 := by omega
    rw [rowf_bit hl0 (patZ_lt _ _ _ _) hs]
    have hne : (1 + 2 * (r + 105 * (o + s)) * 4) % c.1 ≠ 0 := fun h0 => by
      rcases hG.pm.2 _ (Nat.dvd_of_mod_eq_zero h0) with h7 | h7 <;> omega
    have lx := lin105 (r := r) (o := o) (s := s) (x := 4) e
    have hz : (1 + 2 * ((r * c.2.2 + o + s) % c.1) * 420) % c.1 ≠ 0 := by
      show (1 + 2 * ((r * c.2.2 + o + s) % c.1) * (105 * 4)) % c.1 ≠ 0; rw [lx]; exact hne
    have := patZ_bit a hl0 (x := 420) (y := 420) (t := (r * c.2.2 + o + s) % c.1) hz hz
    rw [Nat.mod_mod] at this; exact this
  obtain ⟨ms1, p1, h3⟩ := mkq_sound (P := LetsW (2 ^ (13 + n))) _ lets [] _ h0 (by simp)
  obtain ⟨ms2, p2, h4⟩ := mkz_sound (P := LetsW (2 ^ (13 + n))) _ letz ms1 _ h3 p1
  have hm1 : ∀ t, GoodW (1 + 2 * t * 4) → (q105 (tabs.take 3) (Nat.sub (Nat.pow 2 105) 1)).testBit (t % 105) = true := fun t hG =>
    q105_bit hG _ tabs_low _ (ones_bit (W := 105) (Nat.mod_lt _ (by decide)))
  exact lpq_sound p2 hm1 k o h4 m h1 h2 r hr h2000 hG
theorem Wdone.app {a b c : Nat} (h1 : Wdone a b) (h2 : Wdone b c) : Wdone a c := by
  intro m ha hc
  rcases Nat.lt_or_ge m b with h | h
  · exact h1 m ha h
  · exact h2 m h hc

/-- no small w -/
theorem w_small : (List.range 250).all (fun t => t == 0 || odds.any (fun l => qr l (1 + 8 * t) == false) || (List.range 45).any (fun d => (1 + 8 * t) % (d + 2) == 0 && Nat.ble (d + 3) (1 + 8 * t))) = true := by decide +kernel
theorem GoodW.ge {w : Nat} (hG : GoodW w) : 2000 ≤ w := by
  rcases Nat.lt_or_ge w 2000 with h | h
  · exfalso
    have h8 := hG.mod8
    have h2 := hG.pm.1
    have := List.all_eq_true.1 w_small (w / 8) (List.mem_range.2 (by omega))
    rw [show 1 + 8 * (w / 8) = w by omega] at this
    simp only [Bool.or_eq_true, beq_iff_eq] at this
    rcases this with (h3 | h3) | h3
    · omega
    · obtain ⟨l, hl, hl2⟩ := List.any_eq_true.1 h3
      rw [beq_iff_eq, (hG.odd l hl).2] at hl2; exact Bool.noConfusion hl2
    · obtain ⟨d, _, hd⟩ := List.any_eq_true.1 h3
      rw [Bool.and_eq_true, beq_iff_eq, ble_true] at hd
      rcases hG.pm.2 _ (Nat.dvd_of_mod_eq_zero hd.1) with h4 | h4 <;> omega
  · exact h
/-- One index is even: impossible. -/
theorem Wdone.st {a b : Nat} (h : Wdone a b) (k : rowq 1 b 1 = true) : Wdone a (b + 16384) := h.app (rowq_sound k)
theorem caseB (hW : Wdone 0 45000000) {n s d w z g x y : Nat} (H : Hyp n s d) (hn : n = w * z) (hlt : n < NN) (hw : Ix w g y) (hz : Ix z g x)
    (hx0 : 0 < x) (hy0 : 0 < y) (hx : x % 2 = 1) (hy : y % 2 = 0) : False := by
  have hwn : w ∣ n := ⟨z, hn⟩
  have hzn : z ∣ n := ⟨w, by rw [hn, Nat.mul_comm]⟩
  have hw41 := H.small w hw.pm hwn
  have hz41 := H.small z hz.pm hzn
  -- the signature of w is trivial
  obtain ⟨u, t, hu, ht⟩ := two_part (w - 1) (by omega)
  obtain ⟨v, t', hv, ht'⟩ := two_part (z - 1) (by omega)
  have huv : v < u := by
    obtain ⟨a, b, ha, hb⟩ := two_part g hz.g0
    have h1 : 2 ^ v * t' = 2 ^ a * (b * x) := by rw [← hv, hz.eq, ha]; grind
    have o1 : (b * x) % 2 = 1 := by rw [Nat.mul_mod, hb, hx]
    have e1 := two_part_unique h1 ht' o1
    obtain ⟨c, e, hc, he⟩ := two_part y hy0
    have hc0 : c ≠ 0 := by rintro rfl; omega
    have h2 : 2 ^ u * t = 2 ^ (a + c) * (b * e) := by rw [← hu, hw.eq, ha, hc, Nat.pow_add]; grind
    have o2 : (b * e) % 2 = 1 := by rw [Nat.mul_mod, hb, he]
    have := two_part_unique h2 ht o2
    omega
  have hsig : w % 8 = 1 ∧ ∀ l ∈ odds, w % l ≠ 0 ∧ qr l w = true := by
    have hS : ∀ a ∈ bases, F a (w % (4 * a)) = 0 := by
      intro a ha
      obtain ⟨e, he⟩ := sig H.odd (H.strong a ha)
      have h1 := (he z (z / 2) v t' hz.pm hzn (by have := odd_of_dvd hzn H.two; omega) hv ht').2
      have h2 := (he w (w / 2) u t hw.pm hwn (by have := odd_of_dvd hwn H.two; omega) hu ht).2
      have := F_lt a (w % (4 * a)); omega
    have hw2 := odd_of_dvd hwn H.two
    have h4 : w % 4 = 1 := by
      obtain ⟨c, rfl⟩ : ∃ c, u = c + 2 := ⟨u - 2, by
        have : v ≠ 0 := by
          rintro rfl
          have := odd_of_dvd hzn H.two; omega
        omega⟩
      rw [show 2 ^ (c + 2) * t = 4 * (2 ^ c * t) by rw [Nat.pow_succ, Nat.pow_succ]; grind] at hu
      omega
    constructor
    · have := hS 2 (by decide)
      rw [F_two hw2] at this; omega
    · intro l hl
      refine ⟨H.not_odds hw.pm hwn hl, ?_⟩
      have := hS l (List.mem_cons_of_mem _ hl)
      rw [F_qr hl hw2 (H.not_odds hw.pm hwn hl), if_pos h4] at this; exact this
  have h64 : NN < 2 ^ 64 := by decide
  have hG : GoodW w := ⟨hw.pm, hsig.1, hsig.2, z, g, x, y, hw, hz, hz41, hx0, hy0, hx, hy, by omega, by rw [← hn]; exact fails_sound H (by omega)⟩
  have hgg : g * g * (x * y) < NN := by
    have h1 : g * x ≤ z := by rw [hz.eq]; omega
    have h2 : g * y ≤ w := by rw [hw.eq]; omega
    have := Nat.mul_le_mul h2 h1
    have e : g * y * (g * x) = g * g * (x * y) := by grind
    omega
  have hy619 := y_lt hw hw41 hx0 hgg
  have hwlt : w < 37800000000 := by
    rcases Nat.lt_or_ge w 37800000000 with h | h
    · exact h
    · exfalso
      have h1 : 37799999999 ≤ g * 618 := by
        have : g * y ≤ g * 618 := Nat.mul_le_mul_left _ (by omega)
        have := hw.eq; omega
      have h2 : 61165048 ≤ g := by omega
      have h3 : 61165048 ≤ z := by
        have : g * 1 ≤ g * x := Nat.mul_le_mul_left _ hx0
        have := hz.eq; omega
      have := Nat.mul_le_mul h h3
      have : NN = 2305843009213693952 := rfl
      omega
  have hge := hG.ge
  have e : w = 1 + 2 * ((w / 8) % 105 + 105 * (w / 8 / 105)) * 4 := by rw [Nat.mod_add_div]; have := hsig.1; omega
  refine hW (w / 8 / 105) (Nat.zero_le _) (by omega) ((w / 8) % 105) (Nat.mod_lt _ (by decide)) (by omega) ?_
  rw [← e]; exact hG
end Go.Proofs.YtogbdnecpdcmiabDoor.Mr

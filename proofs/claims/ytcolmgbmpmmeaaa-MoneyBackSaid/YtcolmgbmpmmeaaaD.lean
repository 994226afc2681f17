/- Plain laws of math/bits: the product of two words, and the quotient by a divisor below 2^32. -/
import Derived.Test.YtcolmgbmpmmeaaaM
import Derived.Laws.MathBits
set_option linter.unusedVariables false
namespace Go.Proofs.Ytcolmgbmpmmeaaa.B
open Go.RowKit Go.Proofs.Ytcolmgbmpmmeaaa.P Go.Proofs.YtcolmgbmpmmeaaaW.PrintWords

theorem and32 {z : Int} (h0 : 0 ≤ z) (h1 : z < 18446744073709551616) : Go.bits .and .u64 z 4294967295 = z % 4294967296 := and_low32 z h0 h1
theorem half_le {a b : Int} (ha0 : 0 ≤ a) (ha : a ≤ 4294967295) (hb0 : 0 ≤ b) (hb : b ≤ 4294967295) : 0 ≤ a * b ∧ a * b ≤ 18446744065119617025 :=
  ⟨Int.mul_nonneg ha0 hb0, Int.le_trans (Int.mul_le_mul ha hb hb0 (by omega)) (by omega)⟩
theorem split_halves (p q r s : Int) : (4294967296 * p + q) * (4294967296 * r + s) = 18446744073709551616 * (p * r) + 4294967296 * (p * s) + 4294967296 * (q * r) + q * s := by
  grind
theorem mul64 (a b : Int) (ha0 : 0 ≤ a) (ha : a < 18446744073709551616) (hb0 : 0 ≤ b) (hb : b < 18446744073709551616) :
    bits_Mul64.f a b = some (a * b / 18446744073709551616, a * b % 18446744073709551616) := by
  have e : a * b = 18446744073709551616 * ((a / 4294967296) * (b / 4294967296)) + 4294967296 * ((a / 4294967296) * (b % 4294967296)) + 4294967296 * ((a % 4294967296) * (b / 4294967296)) + (a % 4294967296) * (b % 4294967296) := by
    rw [← split_halves, Int.mul_ediv_add_emod, Int.mul_ediv_add_emod]
  have h1 := half_le (a := a / 4294967296) (b := b / 4294967296) (by omega) (by omega) (by omega) (by omega)
  have h2 := half_le (a := a / 4294967296) (b := b % 4294967296) (by omega) (by omega) (by omega) (by omega)
  have h3 := half_le (a := a % 4294967296) (b := b / 4294967296) (by omega) (by omega) (by omega) (by omega)
  have h4 := half_le (a := a % 4294967296) (b := b % 4294967296) (by omega) (by omega) (by omega) (by omega)
  unfold bits_Mul64.f
  rw [and32 ha0 ha, and32 hb0 hb, e]
  simp only [u64mod]
  generalize (a / 4294967296) * (b / 4294967296) = A at *
  generalize (a / 4294967296) * (b % 4294967296) = B at *
  generalize (a % 4294967296) * (b / 4294967296) = C at *
  generalize (a % 4294967296) * (b % 4294967296) = D at *
  rw [and32 (by omega) (by omega)]
  congr 2
  omega

/-- What math/bits' table tells of a byte. -/
theorem len_tab : ∃ T : ByteArray, (∀ k x acc, bits_Len64.j0 (k + 1) x acc = if x ≥ 65536 then (if (x / 65536) ≥ 256 then (if 0 ≤ (((x / 65536) / 256) % 256) then (if (((x / 65536) / 256) % 256) < 256 then (some (wrap64 ((wrap64 ((wrap64 (acc + 16)) + 8)) + (wrap64 (bt T (((x / 65536) / 256) % 256)))))) else none) else none) else (if 0 ≤ ((x / 65536) % 256) then (if ((x / 65536) % 256) < 256 then (some (wrap64 ((wrap64 (acc + 16)) + (wrap64 (bt T ((x / 65536) % 256)))))) else none) else none)) else (if x ≥ 256 then (if 0 ≤ ((x / 256) % 256) then (if ((x / 256) % 256) < 256 then (some (wrap64 ((wrap64 (acc + 8)) + (wrap64 (bt T ((x / 256) % 256)))))) else none) else none) else (if 0 ≤ (x % 256) then (if (x % 256) < 256 then (some (wrap64 (acc + (wrap64 (bt T (x % 256)))))) else none) else none))) ∧
    (∀ n : Fin 256, 0 ≤ bt T (n.val : Int) ∧ bt T (n.val : Int) ≤ 8 ∧ n.val < 2 ^ (bt T (n.val : Int)).toNat ∧ (0 < n.val → 2 ^ (bt T (n.val : Int)).toNat ≤ 2 * n.val)) := by
  refine ⟨_, fun k x acc => rfl, ?_⟩
  decide +kernel
theorem len_byte {T : ByteArray} (hT : ∀ n : Fin 256, 0 ≤ bt T (n.val : Int) ∧ bt T (n.val : Int) ≤ 8 ∧ n.val < 2 ^ (bt T (n.val : Int)).toNat ∧ (0 < n.val → 2 ^ (bt T (n.val : Int)).toNat ≤ 2 * n.val)) (i : Int) (h0 : 0 < i) (h1 : i < 256) :
    ∃ b : Nat, bt T i = (b : Int) ∧ b ≤ 8 ∧ i < 2 ^ b ∧ (2 : Int) ^ b ≤ 2 * i := by
  obtain ⟨n, rfl⟩ := Int.eq_ofNat_of_zero_le (Int.le_of_lt h0)
  obtain ⟨p, q, r, s⟩ := hT ⟨n, by omega⟩
  simp only at p q r s
  refine ⟨(bt T (n : Int)).toNat, by omega, by omega, ?_, ?_⟩
  · exact_mod_cast r
  · exact_mod_cast s (by omega)
theorem pow_up (b c : Nat) (x : Int) (h : x < 2 ^ b) (h' : (2 : Int) ^ b ≤ 2 * x) (y : Int) (hy : y / 2 ^ c = x) : y < 2 ^ (b + c) ∧ (2 : Int) ^ (b + c) ≤ 2 * y := by
  have hc : (0 : Int) < 2 ^ c := Int.pow_pos (by omega)
  have e := Int.mul_ediv_add_emod y (2 ^ c)
  have m0 := Int.emod_nonneg y (Int.ne_of_gt hc)
  have m1 := Int.emod_lt_of_pos y hc
  rw [hy] at e
  rw [Int.pow_add]
  generalize (2 : Int) ^ c = C at *
  generalize (2 : Int) ^ b = B at *
  have h1 : (x + 1) * C ≤ B * C := Int.mul_le_mul_of_nonneg_right (by omega) (by omega)
  have h2 : B * C ≤ (2 * x) * C := Int.mul_le_mul_of_nonneg_right h' (by omega)
  rw [Int.add_mul, Int.mul_comm x C] at h1
  rw [Int.mul_assoc, Int.mul_comm x C] at h2
  omega
/-- How many bits a number below 2^32 has. -/
theorem len64_ev (y : Int) (h0 : 0 < y) (h1 : y < 4294967296) :
    ∃ L : Nat, 1 ≤ L ∧ L ≤ 32 ∧ y < 2 ^ L ∧ (2 : Int) ^ L ≤ 2 * y ∧ Ev (fun k => bits_Len64.f k y) (L : Int) := by
  obtain ⟨T, hj, hT⟩ := len_tab
  have key : ∃ (b c : Nat) (x : Int), c ≤ 24 ∧ 0 < x ∧ x < 256 ∧ y / 2 ^ c = x ∧ bt T x = (b : Int) ∧ b ≤ 8 ∧ x < 2 ^ b ∧ (2 : Int) ^ b ≤ 2 * x ∧ ∀ k, bits_Len64.j0 (k + 1) y 0 = some ((b + c : Nat) : Int) := by
    by_cases c1 : y ≥ 65536
    · by_cases c2 : y / 65536 ≥ 256
      · obtain ⟨b, hb, hb8, p, q⟩ := len_byte hT (y / 65536 / 256) (by omega) (by omega)
        refine ⟨b, 24, y / 65536 / 256, by omega, by omega, by omega, by omega, hb, hb8, p, q, fun k => ?_⟩
        rw [hj, if_pos c1, if_pos c2, Int.emod_eq_of_lt (by omega) (by omega : y / 65536 / 256 < 256), if_pos (by omega), if_pos (by omega), hb, w64 (n := 0 + 16) (by omega) (by omega), w64 (n := 0 + 16 + 8) (by omega) (by omega), w64 (n := (b : Int)) (by omega) (by omega), w64 (by omega) (by omega)]
        congr 1; omega
      · obtain ⟨b, hb, hb8, p, q⟩ := len_byte hT (y / 65536) (by omega) (by omega)
        refine ⟨b, 16, y / 65536, by omega, by omega, by omega, by omega, hb, hb8, p, q, fun k => ?_⟩
        rw [hj, if_pos c1, if_neg c2, Int.emod_eq_of_lt (by omega) (by omega : y / 65536 < 256), if_pos (by omega), if_pos (by omega), hb, w64 (n := 0 + 16) (by omega) (by omega), w64 (n := (b : Int)) (by omega) (by omega), w64 (by omega) (by omega)]
        congr 1; omega
    · by_cases c2 : y ≥ 256
      · obtain ⟨b, hb, hb8, p, q⟩ := len_byte hT (y / 256) (by omega) (by omega)
        refine ⟨b, 8, y / 256, by omega, by omega, by omega, by omega, hb, hb8, p, q, fun k => ?_⟩
        rw [hj, if_neg c1, if_pos c2, Int.emod_eq_of_lt (by omega) (by omega : y / 256 < 256), if_pos (by omega), if_pos (by omega), hb, w64 (n := 0 + 8) (by omega) (by omega), w64 (n := (b : Int)) (by omega) (by omega), w64 (by omega) (by omega)]
        congr 1; omega
      · obtain ⟨b, hb, hb8, p, q⟩ := len_byte hT y (by omega) (by omega)
        refine ⟨b, 0, y, by omega, by omega, by omega, by omega, hb, hb8, p, q, fun k => ?_⟩
        rw [hj, if_neg c1, if_neg c2, Int.emod_eq_of_lt (by omega) (by omega : y < 256), if_pos (by omega), if_pos (by omega), hb, w64 (n := (b : Int)) (by omega) (by omega), w64 (by omega) (by omega)]
        congr 1; omega
  obtain ⟨b, c, x, hc, hx0, hx1, hy, hb, hb8, p, q, hk⟩ := key
  have hpow := pow_up b c x p q y hy
  have hb1 : 1 ≤ b := by
    cases b with
    | zero => simp at p; omega
    | succ b => omega
  refine ⟨b + c, by omega, by omega, hpow.1, hpow.2, ?_⟩
  unfold bits_Len64.f
  exact ev_neg (by omega) (Ev.step hk (Ev.now _))

theorem lz_ev (y : Int) (h0 : 0 < y) (h1 : y < 4294967296) :
    ∃ L : Nat, 1 ≤ L ∧ L ≤ 32 ∧ y < 2 ^ L ∧ (2 : Int) ^ L ≤ 2 * y ∧ Ev (fun k => bits_LeadingZeros64.f k y) (64 - (L : Int)) := by
  obtain ⟨L, h1, h2, h3, h4, h5⟩ := len64_ev y h0 h1
  refine ⟨L, h1, h2, h3, h4, ?_⟩
  unfold bits_LeadingZeros64.f
  exact Ev.bind h5 (ev_some (w64 (by omega) (by omega)))
theorem tdiv_pos {a b : Int} (h : 0 ≤ a) : Int.tdiv a b = a / b := Int.tdiv_eq_ediv_of_nonneg h
/-- The two steps of a long division, by a divisor whose lower half is nothing. -/
theorem div_steps (k : Nat) (Y u s un1 un0 : Int) (hY0 : 0 < Y) (hY1 : Y < 4294967296) (hu0 : 0 ≤ u) (hu1 : u < Y * 4294967296) (h10 : 0 ≤ un1) (h11 : un1 < 4294967296) (h00 : 0 ≤ un0) (h01 : un0 < 4294967296) (hs : 0 ≤ s) :
    ∃ r, bits_Div64.l0 (k + 5) (Y * 4294967296) s Y 0 u un1 un0 (u / Y) (u % Y) = some (u / Y * 4294967296 + ((u % Y) * 4294967296 + un1) / Y, r) := by
  have q0 : 0 ≤ u / Y := Int.ediv_nonneg hu0 (by omega)
  have q1 : u / Y < 4294967296 := Int.ediv_lt_of_lt_mul hY0 (by rw [Int.mul_comm]; exact hu1)
  have r0 : 0 ≤ u % Y := Int.emod_nonneg u (by omega)
  have r1 : u % Y < Y := Int.emod_lt_of_pos u hY0
  have e := Int.mul_ediv_add_emod u Y
  have q1Y : u / Y * Y ≤ u := by rw [Int.mul_comm]; omega
  have v0 : 0 ≤ (u % Y) * 4294967296 + un1 := by omega
  have s0 : 0 ≤ ((u % Y) * 4294967296 + un1) / Y := Int.ediv_nonneg v0 (by omega)
  have s1 : ((u % Y) * 4294967296 + un1) / Y < 4294967296 := Int.ediv_lt_of_lt_mul hY0 (by omega)
  have w0 : IntKind.u64.wrap (u / Y * 0) = 0 := by rw [Int.mul_zero]; rfl
  have w1 : IntKind.u64.wrap (((u % Y) * 4294967296 + un1) / Y * 0) = 0 := by rw [Int.mul_zero]; rfl
  have wn : ∀ n, ¬ ((0 : Int) > IntKind.u64.wrap n) := fun n => by rw [u64mod]; omega
  have un21 : IntKind.u64.wrap (IntKind.u64.wrap (IntKind.u64.wrap (u * 4294967296) + un1) - IntKind.u64.wrap (u / Y * (Y * 4294967296))) = (u % Y) * 4294967296 + un1 := by
    simp only [u64mod]
    rw [← Int.mul_assoc, Int.mul_comm (u / Y) Y]
    generalize hM : Y * (u / Y) = M at *
    generalize u % Y = R at *
    omega
  rw [show k + 5 = (k + 4) + 1 from rfl, bits_Div64.l0, if_neg (by omega), w0, decide_eq_false (wn _)]
  rw [show k + 4 = (k + 3) + 1 from rfl, bits_Div64.j1, if_neg (by simp)]
  rw [show k + 3 = (k + 2) + 1 from rfl, bits_Div64.j2, if_neg (by omega)]
  simp only [un21]
  rw [tdiv_pos v0, u64w s0 (by omega)]
  rw [show k + 2 = (k + 1) + 1 from rfl, bits_Div64.l1, if_neg (by omega), w1, decide_eq_false (wn _)]
  rw [bits_Div64.j4, if_neg (by simp), if_pos hs]
  rw [u64w (n := u / Y * 4294967296) (by omega) (by omega), u64w (by omega) (by omega)]
  exact ⟨_, rfl⟩
theorem shl_u64 {x : Int} {n : Nat} (h0 : 0 ≤ x * 2 ^ n) (h1 : x * 2 ^ n < 18446744073709551616) (hn : n ≤ 64) : shl .u64 x (n : Int) = x * 2 ^ n := by
  unfold shl
  rw [Int.toNat_natCast, show IntKind.bits .u64 = 64 from rfl, Nat.min_eq_left hn, u64w h0 h1]
theorem shl_u64' {x : Int} {n : Nat} (hn : n ≤ 64) : shl .u64 x (n : Int) = (x * 2 ^ n) % 18446744073709551616 := by
  unfold shl
  rw [Int.toNat_natCast, show IntKind.bits .u64 = 64 from rfl, Nat.min_eq_left hn, u64mod]
theorem shr_u64 {x : Int} {n : Nat} (hn : n ≤ 64) : shr .u64 x (n : Int) = x / 2 ^ n := by
  unfold shr
  rw [Int.toNat_natCast, show IntKind.bits .u64 = 64 from rfl, Nat.min_eq_left hn]
theorem wraps_u64 (n : Int) (h₀ : 0 ≤ n) (h₁ : n < 2 ^ 64) : IntKind.u64.wrap n = n := u64w h₀ (by omega)
/-- The quotient of a double word by a divisor below 2^32, if it is one word. -/
theorem div64_ev (hi lo y : Int) (hh0 : 0 ≤ hi) (hh1 : hi < y) (hl0 : 0 ≤ lo) (hl1 : lo < 18446744073709551616) (hy1 : y < 4294967296) :
    ∃ r, Ev (fun k => bits_Div64.f k hi lo y) ((hi * 18446744073709551616 + lo) / y, r) := by
  have hy0 : 0 < y := by omega
  unfold bits_Div64.f
  by_cases hz : hi = 0
  · subst hz
    refine ⟨Int.tmod lo y, ev_neg (by omega) (ev_neg (by omega) (ev_pos rfl (ev_some ?_)))⟩
    rw [tdiv_pos hl0, u64w (Int.ediv_nonneg hl0 (by omega)) (Int.lt_of_le_of_lt (Int.ediv_le_self _ hl0) hl1), Int.zero_mul, Int.zero_add]
  · obtain ⟨L, L1, L2, p0, p1, hlz⟩ := lz_ev y hy0 hy1
    have es : (64 - (L : Int)) = ((64 - L : Nat) : Int) := by omega
    have ws : IntKind.u64.wrap (64 - (L : Int)) = ((64 - L : Nat) : Int) := by rw [u64w (by omega) (by omega)]; omega
    have ws2 : IntKind.u64.wrap (64 - ((64 - L : Nat) : Int)) = (L : Int) := by rw [u64w (by omega) (by omega)]; omega
    -- the powers under names
    have ec : (2 : Int) ^ (64 - L) = 2 ^ (32 - L) * 4294967296 := by rw [show 64 - L = (32 - L) + 32 from by omega, Int.pow_add]; rfl
    have ep : (2 : Int) ^ (32 - L) * 2 ^ L = 4294967296 := by rw [← Int.pow_add, show 32 - L + L = 32 from by omega]; rfl
    have hP : (0 : Int) < 2 ^ (32 - L) := Int.pow_pos (by omega)
    have hB : (0 : Int) < 2 ^ L := Int.pow_pos (by omega)
    have Yhi : y * 2 ^ (32 - L) < 4294967296 := by
      have := Int.mul_lt_mul_of_pos_right p0 hP
      rw [Int.mul_comm (2 ^ L)] at this
      omega
    have Ypos : 0 < y * 2 ^ (32 - L) := Int.mul_pos hy0 hP
    have ey : shl .u64 y ((64 - L : Nat) : Int) = y * 2 ^ (32 - L) * 4294967296 := by
      rw [shl_u64 (by rw [ec, ← Int.mul_assoc]; omega) (by rw [ec, ← Int.mul_assoc]; omega) (by omega), ec, Int.mul_assoc]
    have hiP : hi * 2 ^ (32 - L) + 2 ^ (32 - L) ≤ y * 2 ^ (32 - L) := by
      have := Int.mul_le_mul_of_nonneg_right (show hi + 1 ≤ y by omega) (Int.le_of_lt hP)
      rw [Int.add_mul, Int.one_mul] at this
      exact this
    have hiP0 : 0 ≤ hi * 2 ^ (32 - L) := Int.mul_nonneg hh0 (by omega)
    have eh : shl .u64 hi ((64 - L : Nat) : Int) = hi * 2 ^ (32 - L) * 4294967296 := by
      rw [shl_u64 (by rw [ec, ← Int.mul_assoc]; omega) (by rw [ec, ← Int.mul_assoc]; omega) (by omega), ec, Int.mul_assoc]
    have er : shr .u64 lo (L : Int) = lo / 2 ^ L := shr_u64 (by omega)
    have el : shl .u64 lo ((64 - L : Nat) : Int) = (lo * 2 ^ (64 - L)) % 18446744073709551616 := shl_u64' (by omega)
    have q0 : 0 ≤ lo / 2 ^ L := Int.ediv_nonneg hl0 (by omega)
    have q1 : lo / 2 ^ L < 2 ^ (64 - L) := by
      apply Int.ediv_lt_of_lt_mul hB
      rw [← Int.pow_add, show 64 - L + L = 64 from by omega]
      exact hl1
    have eo : Go.bits .or .u64 (hi * 2 ^ (32 - L) * 4294967296) (lo / 2 ^ L) = hi * 2 ^ (32 - L) * 4294967296 + lo / 2 ^ L := by
      refine bits_join .u64 64 (by decide) wraps_u64 (64 - L) _ _ (by omega) ?_ (by omega) q0 q1 ?_
      · rw [Int.mul_assoc, ← ec]; exact Int.mul_emod_left _ _
      · rw [ec] at q1; omega
    have emask : Go.bits .and .u64 (y * 2 ^ (32 - L) * 4294967296) 4294967295 = 0 := by rw [and32 (by omega) (by omega)]; omega
    have lm0 : 0 ≤ (lo * 2 ^ (64 - L)) % 18446744073709551616 := Int.emod_nonneg _ (by omega)
    have lm1 : (lo * 2 ^ (64 - L)) % 18446744073709551616 < 18446744073709551616 := Int.emod_lt_of_pos _ (by omega)
    -- what the whole is
    have elo : lo * 2 ^ (64 - L) = lo / 2 ^ L * 18446744073709551616 + (lo * 2 ^ (64 - L)) % 18446744073709551616 := by
      have a1 := Int.mul_ediv_add_emod lo (2 ^ L)
      have a2 := Int.emod_nonneg lo (Int.ne_of_gt hB)
      have a3 := Int.emod_lt_of_pos lo hB
      have c0 : (0 : Int) < 2 ^ (64 - L) := Int.pow_pos (by omega)
      have cp : (2 : Int) ^ L * 2 ^ (64 - L) = 18446744073709551616 := by rw [← Int.pow_add, show L + (64 - L) = 64 from by omega]; rfl
      have e2 : lo * 2 ^ (64 - L) = lo / 2 ^ L * 18446744073709551616 + lo % 2 ^ L * 2 ^ (64 - L) := by
        conv => lhs; rw [← a1]
        rw [Int.add_mul, Int.mul_comm (2 ^ L), Int.mul_assoc, cp]
      have b0 : 0 ≤ lo % 2 ^ L * 2 ^ (64 - L) := Int.mul_nonneg a2 (by omega)
      have b1 : lo % 2 ^ L * 2 ^ (64 - L) < 18446744073709551616 := by rw [← cp]; exact Int.mul_lt_mul_of_pos_right a3 c0
      rw [e2]
      omega
    generalize hlow : (lo * 2 ^ (64 - L)) % 18446744073709551616 = low at *
    have hu1 : hi * 2 ^ (32 - L) * 4294967296 + lo / 2 ^ L < y * 2 ^ (32 - L) * 4294967296 := by rw [ec] at q1; omega
    obtain ⟨r, hr⟩ : ∃ r : Int, ∀ k, bits_Div64.l0 (k + 5) (y * 2 ^ (32 - L) * 4294967296) ((64 - L : Nat) : Int) (y * 2 ^ (32 - L)) 0 (hi * 2 ^ (32 - L) * 4294967296 + lo / 2 ^ L) (low / 4294967296) (low % 4294967296) ((hi * 2 ^ (32 - L) * 4294967296 + lo / 2 ^ L) / (y * 2 ^ (32 - L))) ((hi * 2 ^ (32 - L) * 4294967296 + lo / 2 ^ L) % (y * 2 ^ (32 - L))) =
        some ((hi * 2 ^ (32 - L) * 4294967296 + lo / 2 ^ L) / (y * 2 ^ (32 - L)) * 4294967296 + (((hi * 2 ^ (32 - L) * 4294967296 + lo / 2 ^ L) % (y * 2 ^ (32 - L))) * 4294967296 + low / 4294967296) / (y * 2 ^ (32 - L)), r) := by
      have h := fun k => div_steps k (y * 2 ^ (32 - L)) (hi * 2 ^ (32 - L) * 4294967296 + lo / 2 ^ L) ((64 - L : Nat) : Int) (low / 4294967296) (low % 4294967296) Ypos Yhi (by omega) hu1 (by omega) (by omega) (by omega) (by omega) (by omega)
      obtain ⟨r, h0⟩ := h 0
      refine ⟨r, fun k => ?_⟩
      obtain ⟨r', hk⟩ := h k
      have hm := at_rounds (g := fun k => bits_Div64.l0 k (y * 2 ^ (32 - L) * 4294967296) ((64 - L : Nat) : Int) (y * 2 ^ (32 - L)) 0 (hi * 2 ^ (32 - L) * 4294967296 + lo / 2 ^ L) (low / 4294967296) (low % 4294967296) ((hi * 2 ^ (32 - L) * 4294967296 + lo / 2 ^ L) / (y * 2 ^ (32 - L))) ((hi * 2 ^ (32 - L) * 4294967296 + lo / 2 ^ L) % (y * 2 ^ (32 - L)))) (fun k => (bits_Div64.mono_l k).2.2.2.1 _ _ _ _ _ _ _ _ _) (show 0 + 5 ≤ k + 5 by omega) h0
      exact hm
    refine ⟨r, ev_neg (by omega) (ev_neg (by omega) (ev_neg hz (Ev.bind hlz ?_)))⟩
    simp only [ws, ws2, ey, eh, er, eo, el, emask]
    have hq0 : 0 ≤ (hi * 2 ^ (32 - L) * 4294967296 + lo / 2 ^ L) / (y * 2 ^ (32 - L)) := Int.ediv_nonneg (by omega) (by omega)
    have hq1 : (hi * 2 ^ (32 - L) * 4294967296 + lo / 2 ^ L) / (y * 2 ^ (32 - L)) < 4294967296 := Int.ediv_lt_of_lt_mul Ypos (by omega)
    rw [Int.mul_ediv_cancel _ (by omega : (4294967296 : Int) ≠ 0), and32 lm0 lm1, tdiv_pos (by omega), u64w hq0 (by omega)]
    have hem : IntKind.u64.wrap (hi * 2 ^ (32 - L) * 4294967296 + lo / 2 ^ L - IntKind.u64.wrap ((hi * 2 ^ (32 - L) * 4294967296 + lo / 2 ^ L) / (y * 2 ^ (32 - L)) * (y * 2 ^ (32 - L)))) = (hi * 2 ^ (32 - L) * 4294967296 + lo / 2 ^ L) % (y * 2 ^ (32 - L)) := by
      have e := Int.mul_ediv_add_emod (hi * 2 ^ (32 - L) * 4294967296 + lo / 2 ^ L) (y * 2 ^ (32 - L))
      have m0 := Int.emod_nonneg (hi * 2 ^ (32 - L) * 4294967296 + lo / 2 ^ L) (Int.ne_of_gt Ypos)
      have m1 := Int.emod_lt_of_pos (hi * 2 ^ (32 - L) * 4294967296 + lo / 2 ^ L) Ypos
      rw [Int.mul_comm _ (y * 2 ^ (32 - L))]
      have hpp : 0 ≤ y * 2 ^ (32 - L) * ((hi * 2 ^ (32 - L) * 4294967296 + lo / 2 ^ L) / (y * 2 ^ (32 - L))) := Int.mul_nonneg (by omega) hq0
      generalize y * 2 ^ (32 - L) * ((hi * 2 ^ (32 - L) * 4294967296 + lo / 2 ^ L) / (y * 2 ^ (32 - L))) = M at *
      simp only [u64mod]
      omega
    rw [hem]
    refine ev_pos (by omega) (ev_pos (by omega) (ev_neg (by omega) ?_))
    refine ev_eq (ev_from 5 hr) ?_
    · congr 1
      -- the quotient
      have e := Int.mul_ediv_add_emod (hi * 2 ^ (32 - L) * 4294967296 + lo / 2 ^ L) (y * 2 ^ (32 - L))
      generalize hQ : (hi * 2 ^ (32 - L) * 4294967296 + lo / 2 ^ L) / (y * 2 ^ (32 - L)) = Q at *
      generalize hR : (hi * 2 ^ (32 - L) * 4294967296 + lo / 2 ^ L) % (y * 2 ^ (32 - L)) = R at *
      have e2 := Int.mul_ediv_add_emod (R * 4294967296 + low / 4294967296) (y * 2 ^ (32 - L))
      have m0 := Int.emod_nonneg (R * 4294967296 + low / 4294967296) (Int.ne_of_gt Ypos)
      have m1 := Int.emod_lt_of_pos (R * 4294967296 + low / 4294967296) Ypos
      generalize (R * 4294967296 + low / 4294967296) / (y * 2 ^ (32 - L)) = S at *
      generalize (R * 4294967296 + low / 4294967296) % (y * 2 ^ (32 - L)) = Z at *
      have c0 : (0 : Int) < 2 ^ (64 - L) := Int.pow_pos (by omega)
      have tot : (hi * 18446744073709551616 + lo) * 2 ^ (64 - L) = (hi * 2 ^ (32 - L) * 4294967296 + lo / 2 ^ L) * 18446744073709551616 + low := by
        rw [Int.add_mul, elo, ec]
        generalize (2 : Int) ^ (32 - L) = P
        generalize lo / 2 ^ L = q
        grind
      have yc : y * 2 ^ (64 - L) = y * 2 ^ (32 - L) * 4294967296 := by rw [ec, Int.mul_assoc]
      rw [← Int.mul_ediv_mul_of_pos_left _ _ c0, tot, yc]
      generalize y * 2 ^ (32 - L) = Y at *
      generalize hi * 2 ^ (32 - L) * 4294967296 + lo / 2 ^ L = U at *
      have ex : Y * 4294967296 * (Q * 4294967296 + S) = (Y * Q) * 18446744073709551616 + (Y * S) * 4294967296 := by grind
      exact ((Int.ediv_emod_unique (r := Z * 4294967296 + low % 4294967296) (by omega)).mpr ⟨by rw [ex]; omega, by omega, by omega⟩).1.symm

theorem part_ev (a n whole : Int) (ha0 : 0 ≤ a) (ha1 : a ≤ 4611686018427387904) (hn0 : 0 ≤ n) (hn : n ≤ whole) (hw0 : 0 < whole) (hw1 : whole < 4294967296) :
    Ev (fun k => money_part.f k a n whole) (a * n / whole) := by
  have hp0 : 0 ≤ a * n := Int.mul_nonneg ha0 hn0
  have hp1 : a * n ≤ 4611686018427387904 * whole := Int.mul_le_mul ha1 hn hn0 (by omega)
  have hhi : a * n / 18446744073709551616 < whole := by omega
  obtain ⟨r, hr⟩ := div64_ev (a * n / 18446744073709551616) (a * n % 18446744073709551616) whole (by omega) hhi (by omega) (by omega) hw1
  rw [Int.mul_comm _ 18446744073709551616, Int.mul_ediv_add_emod] at hr
  unfold money_part.f
  rw [mul64 a n (by omega) (by omega) (by omega) (by omega)]
  simp only [Option.bind_some]
  exact Ev.bind hr (Ev.now _)
/-- A share by so many of a million. -/
def mshare (a n : Int) : Int × Int := if n > 1000000 then (0, 1) else if a ≤ 4611686018427387904 then (a * n / 1000000, 0) else (0, 1)
theorem share_ev (a n : Int) (ha0 : 0 ≤ a) (hn0 : 0 ≤ n) : Ev (fun k => money_Share.f k a n) (mshare a n) := by
  unfold money_Share.f mshare
  by_cases h : n > 1000000
  · rw [if_pos h]; exact ev_pos h (Ev.now _)
  · rw [if_neg h]
    refine ev_neg h (Ev.bind (check_ev [a] (by simp)) ?_)
    rw [mchk_one]
    by_cases h2 : a ≤ 4611686018427387904
    · rw [if_pos h2, if_pos h2]
      exact ev_pos rfl (Ev.bind (part_ev a n 1000000 ha0 h2 hn0 (by omega) (by omega) (by omega)) (Ev.now _))
    · rw [if_neg h2, if_neg h2]
      exact ev_neg (by omega) (Ev.now _)
theorem mshare_ok {a n : Int} (h : (mshare a n).2 = 0) : n ≤ 1000000 ∧ a ≤ 4611686018427387904 ∧ mshare a n = (a * n / 1000000, 0) := by
  unfold mshare at h ⊢
  by_cases h1 : n > 1000000
  · rw [if_pos h1] at h; simp at h
  · rw [if_neg h1] at h ⊢
    by_cases h2 : a ≤ 4611686018427387904
    · rw [if_pos h2]; exact ⟨by omega, h2, rfl⟩
    · rw [if_neg h2] at h; simp at h
theorem mshare_no {a n : Int} (h : (mshare a n).2 ≠ 0) : mshare a n = (0, 1) := by
  unfold mshare at h ⊢
  by_cases h1 : n > 1000000
  · rw [if_pos h1]
  · rw [if_neg h1] at h ⊢
    by_cases h2 : a ≤ 4611686018427387904
    · rw [if_pos h2] at h; simp at h
    · rw [if_neg h2]
theorem mshare_le {a n : Int} (ha : 0 ≤ a) (hn : n ≤ 1000000) (hn0 : 0 ≤ n) : 0 ≤ a * n / 1000000 ∧ a * n / 1000000 ≤ a := by
  have h0 : 0 ≤ a * n := Int.mul_nonneg ha hn0
  have h1 : a * n ≤ a * 1000000 := Int.mul_le_mul_of_nonneg_left hn ha
  omega
theorem mshare_nn (a n : Int) (ha : 0 ≤ a) (hn0 : 0 ≤ n) : 0 ≤ (mshare a n).1 := by
  by_cases h : (mshare a n).2 = 0
  · obtain ⟨h1, h2, h3⟩ := mshare_ok h
    rw [h3]; exact (mshare_le ha h1 hn0).1
  · rw [mshare_no h]; simp
def mfee (b n a : Int) : Int × Int := if (mshare a n).2 = 0 then madd2 b (mshare a n).1 else (0, (mshare a n).2)
theorem fee_ev (b n a : Int) (hb : 0 ≤ b) (hn0 : 0 ≤ n) (ha : 0 ≤ a) : Ev (fun k => money_Fee.f k b n a) (mfee b n a) := by
  unfold money_Fee.f mfee
  refine Ev.bind (share_ev a n ha hn0) ?_
  by_cases h : (mshare a n).2 = 0
  · rw [if_pos h]
    exact ev_pos h (Ev.bind (add2_ev b _ hb (mshare_nn a n ha hn0)) (Ev.now _))
  · rw [if_neg h]
    exact ev_neg h (Ev.now _)

/-- One amount without another. -/
def msub (a b : Int) : Int × Int := if a ≤ 4611686018427387904 ∧ b ≤ 4611686018427387904 then (if a < b then (0, 9) else (a - b, 0)) else (0, 1)
theorem sub64_ge {a b : Int} (ha : 0 ≤ a) (hb : 0 ≤ b) (ha1 : a < 18446744073709551616) (h : b ≤ a) : sub64d a b = a - b ∧ sub64b a b = 0 := by
  unfold sub64d sub64b
  constructor
  · omega
  · rw [if_neg (by omega)]
theorem sub64_lt {a b : Int} (ha : 0 ≤ a) (h : a < b) : sub64b a b = 1 := by
  unfold sub64b
  rw [if_pos (by omega)]
theorem sub_ev (a b : Int) (ha : 0 ≤ a) (hb : 0 ≤ b) : Ev (fun k => money_Sub.f k a b) (msub a b) := by
  unfold money_Sub.f msub
  refine Ev.bind (check_ev [a, b] (by simp)) ?_
  rw [mchk_cons, mchk_one]
  by_cases h12 : a ≤ 4611686018427387904 ∧ b ≤ 4611686018427387904
  · rw [if_pos h12.1, if_pos h12.2, if_pos h12]
    refine ev_pos rfl ?_
    by_cases h3 : a < b
    · rw [if_pos h3]; exact ev_pos (by rw [sub64_lt ha h3]; omega) (Ev.now _)
    · obtain ⟨e1, e2⟩ := sub64_ge ha hb (by omega) (Int.not_lt.mp h3)
      rw [if_neg h3]; exact ev_neg (by rw [e2]; omega) (ev_some (by rw [e1]))
  · rw [if_neg h12]
    refine ev_neg ?_ (Ev.now _)
    by_cases h1 : a ≤ 4611686018427387904
    · rw [if_pos h1, if_neg (fun h => h12 ⟨h1, h⟩)]; omega
    · rw [if_neg h1]; omega
end Go.Proofs.Ytcolmgbmpmmeaaa.B

/-
  The sum CRC-32 in plain Lean, bit by bit: its one step is linear and one to one; four steps by a table; a text's sum as a run over its bits; bursts. No program is in sight.
  Conditions: none.
-/
namespace Go.Proofs.YtnlolhlbpdmljaaGreatDoor

def poly : BitVec 32 := 0xedb88320#32
/-- One bit's step. -/
def f (x : BitVec 32) : BitVec 32 := (x >>> 1) ^^^ (if x.getLsbD 0 then poly else 0#32)
/-- n steps. -/
def fn : Nat → BitVec 32 → BitVec 32
  | 0, x => x
  | n + 1, x => f (fn n x)

theorem f_zero : f 0#32 = 0#32 := by decide
theorem fn_zero (n : Nat) : fn n 0#32 = 0#32 := by
  induction n with
  | zero => rfl
  | succ n ih => rw [fn, ih, f_zero]

theorem f_xor (x y : BitVec 32) : f (x ^^^ y) = f x ^^^ f y := by
  unfold f
  rw [BitVec.ushiftRight_xor_distrib, BitVec.getLsbD_xor]
  cases x.getLsbD 0 <;> cases y.getLsbD 0 <;> simp <;> (try (ac_rfl))
  rw [BitVec.xor_assoc, ← BitVec.xor_assoc poly, BitVec.xor_comm poly, BitVec.xor_assoc, BitVec.xor_self]
  simp
theorem fn_xor (n : Nat) (x y : BitVec 32) : fn n (x ^^^ y) = fn n x ^^^ fn n y := by
  induction n with
  | zero => rfl
  | succ n ih => rw [fn, fn, fn, ih, f_xor]
theorem fn_add (m n : Nat) (x : BitVec 32) : fn (m + n) x = fn m (fn n x) := by
  induction m with
  | zero => rw [Nat.zero_add]; rfl
  | succ m ih => rw [show m + 1 + n = (m + n) + 1 by omega, fn, fn, ih]
theorem fn_succ' (n : Nat) (x : BitVec 32) : fn (n + 1) x = fn n (f x) := fn_add n 1 x

/-- What gives zero is zero. -/
theorem f_eq_zero {x : BitVec 32} (h : f x = 0#32) : x = 0#32 := by
  have h31 := congrArg (·.getLsbD 31) h
  simp only [f, BitVec.getLsbD_xor, BitVec.getLsbD_ushiftRight] at h31
  have h0 : x.getLsbD 0 = false := by
    cases hx : x.getLsbD 0 with
    | false => rfl
    | true =>
      rw [hx] at h31
      simp at h31
      exact absurd h31 (by decide)
  apply BitVec.eq_of_getLsbD_eq
  intro i hi
  rw [BitVec.getLsbD_zero]
  cases i with
  | zero => exact h0
  | succ i =>
    have h1 := congrArg (·.getLsbD i) h
    simp only [f, h0, BitVec.getLsbD_xor, BitVec.getLsbD_ushiftRight] at h1
    simpa [Nat.add_comm] using h1
theorem fn_eq_zero {n : Nat} {x : BitVec 32} (h : fn n x = 0#32) : x = 0#32 := by
  induction n with
  | zero => exact h
  | succ n ih => exact ih (f_eq_zero h)
theorem xor_eq_zero {x y : BitVec 32} (h : x ^^^ y = 0#32) : x = y := by
  have := congrArg (· ^^^ y) h
  simpa [BitVec.xor_assoc] using this
theorem fn_inj {n : Nat} {x y : BitVec 32} (h : fn n x = fn n y) : x = y := by
  apply xor_eq_zero
  apply fn_eq_zero (n := n)
  rw [fn_xor, h, BitVec.xor_self]

/-- A number whose lowest bit is 0 is halved. -/
theorem f_even {x : BitVec 32} (h : x.getLsbD 0 = false) : f x = x >>> 1 := by unfold f; rw [h]; simp

/-- The bit number m, alone, comes to 1 after m steps. -/
theorem fn_bit : ∀ m, m < 32 → fn m (1#32 <<< m) = 1#32 := by decide +kernel

def bit (b : Bool) : BitVec 32 := if b then 1#32 else 0#32
theorem bit_xor (a b : Bool) : bit (a ^^ b) = bit a ^^^ bit b := by cases a <;> cases b <;> decide

/-- A run over bits. -/
def run (d : Nat → Bool) (r : BitVec 32) : Nat → BitVec 32
  | 0 => r
  | n + 1 => f (run d r n ^^^ bit (d n))
/-- The first m bits as a number. -/
def val (d : Nat → Bool) : Nat → BitVec 32
  | 0 => 0#32
  | m + 1 => val d m ^^^ (bit (d m) <<< m)

theorem run_add (d : Nat → Bool) (r : BitVec 32) (a b : Nat) : run d r (a + b) = run (fun j => d (a + j)) (run d r a) b := by
  induction b with
  | zero => rfl
  | succ b ih => rw [show a + (b + 1) = (a + b) + 1 by omega, run, run, ih]
theorem run_xor (c d : Nat → Bool) (q r : BitVec 32) (n : Nat) : run (fun j => c j ^^ d j) (q ^^^ r) n = run c q n ^^^ run d r n := by
  induction n with
  | zero => rfl
  | succ n ih =>
    rw [run, run, run, ih, ← f_xor, bit_xor]
    congr 1
    ac_rfl
theorem run_congr {c d : Nat → Bool} {r : BitVec 32} {n : Nat} (h : ∀ j, j < n → c j = d j) : run c r n = run d r n := by
  induction n with
  | zero => rfl
  | succ n ih => rw [run, run, ih (fun j hj => h j (by omega)), h n (by omega)]
theorem run_val (d : Nat → Bool) (r : BitVec 32) (m : Nat) (hm : m ≤ 32) : run d r m = fn m (r ^^^ val d m) := by
  induction m with
  | zero => simp [run, fn, val]
  | succ m ih =>
    rw [run, ih (by omega), val, ← BitVec.xor_assoc, fn_xor (m + 1), fn, fn, ← f_xor]
    congr 2
    cases d m with
    | false => simp [bit, fn_zero]
    | true => simp only [bit, if_true]; rw [fn_bit m (by omega)]
theorem run_false (r : BitVec 32) (n : Nat) (d : Nat → Bool) (h : ∀ j, j < n → d j = false) : run d r n = fn n r := by
  induction n with
  | zero => rfl
  | succ n ih => rw [run, ih (fun j hj => h j (by omega)), h n (by omega)]; simp [bit, fn]

/-- A bit of the value. -/
theorem val_bit (d : Nat → Bool) (m : Nat) (hm : m ≤ 32) (i : Nat) : (val d m).getLsbD i = (decide (i < m) && d i) := by
  induction m with
  | zero => simp [val]
  | succ m ih =>
    rw [val, BitVec.getLsbD_xor, ih (by omega)]
    have hb : (bit (d m) <<< m).getLsbD i = (decide (i = m) && d m) := by
      rw [BitVec.getLsbD_shiftLeft]
      cases hd : d m with
      | false => simp [bit]
      | true =>
        simp only [bit, if_true, Bool.and_true, BitVec.getLsbD_one]
        by_cases e : i = m
        · subst e; simp; omega
        · by_cases h : i < m
          · simp [e, h]
          · simp [e]; omega
    rw [hb]
    by_cases e : i = m
    · subst e; simp
    · have e2 : decide (i < m + 1) = decide (i < m) := decide_eq_decide.2 (by omega)
      simp [e, e2]

/-- BURSTS: bits that are false but for up to 32 one behind the other leave no sum, if none is true. -/
theorem burst {d : Nat → Bool} {p n : Nat} (hd : ∀ j, j < n → d j = true → p ≤ j ∧ j < p + 32) (h : run d 0#32 n = 0#32) : ∀ j, j < n → d j = false := by
  intro j hj
  by_cases hp : p ≤ n
  · have h1 : run d 0#32 p = 0#32 := by
      rw [run_false 0#32 p d (fun i hi => ?_), fn_zero]
      cases hdi : d i with
      | false => rfl
      | true => have := hd i (by omega) hdi; omega
    obtain ⟨m, hm1, hm2⟩ : ∃ m, m = min (n - p) 32 ∧ m ≤ 32 := ⟨_, rfl, by omega⟩
    obtain ⟨q, hq⟩ : ∃ q, n = p + (m + q) := ⟨n - p - m, by omega⟩
    rw [hq, run_add, h1, run_add, run_false _ q, run_val _ _ m hm2, ← fn_add] at h
    · have hv := fn_eq_zero h
      rw [BitVec.zero_xor] at hv
      cases hdj : d j with
      | false => rfl
      | true =>
        have hw := hd j hj hdj
        have h2 := val_bit (fun i => d (p + i)) m hm2 (j - p)
        rw [hv, BitVec.getLsbD_zero, decide_eq_true (by omega), Bool.true_and, show p + (j - p) = j by omega, hdj] at h2
        cases h2
    · intro i hi
      cases hdi : d (p + (m + i)) with
      | false => rfl
      | true => have := hd _ (by omega) hdi; omega
  · cases hdj : d j with
    | false => rfl
    | true => have := hd j hj hdj; omega

/-! ### Texts -/
/-- A text's bit. -/
def tbit (s : List UInt8) (j : Nat) : Bool := (s.getD (j / 8) 0).toNat.testBit (j % 8)
def byteV (b : UInt8) : BitVec 32 := BitVec.ofNat 32 b.toNat
/-- A byte's step. -/
def step (r : BitVec 32) (b : UInt8) : BitVec 32 := fn 8 (r ^^^ byteV b)
def fold (r : BitVec 32) (s : List UInt8) : BitVec 32 := s.foldl step r
def ones : BitVec 32 := 0xffffffff#32
def moreP (x : BitVec 32) (s : List UInt8) : BitVec 32 := fold (x ^^^ ones) s ^^^ ones
def sumP (s : List UInt8) : BitVec 32 := moreP 0#32 s

theorem fold_append (r : BitVec 32) (s t : List UInt8) : fold r (s ++ t) = fold (fold r s) t := List.foldl_append ..
theorem ones_twice (x : BitVec 32) : x ^^^ ones ^^^ ones = x := by rw [BitVec.xor_assoc, BitVec.xor_self, BitVec.xor_zero]
theorem more_nil (x : BitVec 32) : moreP x [] = x := ones_twice x
theorem more_append (x : BitVec 32) (s t : List UInt8) : moreP (moreP x s) t = moreP x (s ++ t) := by
  unfold moreP
  rw [ones_twice, fold_append]
theorem step_inj {q r : BitVec 32} {b : UInt8} (h : step q b = step r b) : q = r := by
  have := fn_inj h
  have h2 := congrArg (· ^^^ byteV b) this
  simpa [BitVec.xor_assoc] using h2
theorem fold_inj {s : List UInt8} : ∀ {q r : BitVec 32}, fold q s = fold r s → q = r := by
  induction s with
  | nil => intro q r h; exact h
  | cons b s ih => intro q r h; exact step_inj (ih h)
theorem more_inj {x y : BitVec 32} {s : List UInt8} : moreP x s = moreP y s ↔ x = y := by
  constructor
  · intro h
    unfold moreP at h
    have h1 : fold (x ^^^ ones) s = fold (y ^^^ ones) s := by
      have := congrArg (· ^^^ ones) h
      simpa [BitVec.xor_assoc] using this
    have h2 := fold_inj h1
    have := congrArg (· ^^^ ones) h2
    simpa [BitVec.xor_assoc] using this
  · rintro rfl; rfl

theorem byteV_bit (b : UInt8) (i : Nat) (hi : i < 32) : (byteV b).getLsbD i = b.toNat.testBit i := by
  unfold byteV
  rw [BitVec.getLsbD_ofNat]; simp [hi]
theorem step_run (r : BitVec 32) (b : UInt8) : step r b = run (fun j => b.toNat.testBit j) r 8 := by
  rw [run_val _ _ 8 (by omega)]
  unfold step
  congr 2
  apply BitVec.eq_of_getLsbD_eq
  intro i hi
  rw [byteV_bit b i hi, val_bit _ 8 (by omega)]
  by_cases h : i < 8
  · simp [h]
  · have hb : b.toNat < 2 ^ i := Nat.lt_of_lt_of_le b.toNat_lt (Nat.pow_le_pow_right (by omega) (by omega : 8 ≤ i))
    rw [Nat.testBit_lt_two_pow hb]; simp [h]
theorem fold_run (s : List UInt8) : ∀ (r : BitVec 32), fold r s = run (tbit s) r (8 * s.length) := by
  induction s with
  | nil => intro r; rfl
  | cons b s ih =>
    intro r
    rw [List.length_cons, show 8 * (s.length + 1) = 8 + 8 * s.length by omega, run_add]
    have h1 : run (tbit (b :: s)) r 8 = step r b := by
      rw [step_run]
      exact run_congr fun j hj => by simp [tbit, show j / 8 = 0 by omega, show j % 8 = j by omega]
    rw [h1]
    show fold (step r b) s = _
    rw [ih]
    exact run_congr fun j _ => by simp [tbit, show (8 + j) / 8 = j / 8 + 1 by omega, show (8 + j) % 8 = j % 8 by omega]

theorem tbit_ext {s t : List UInt8} (hl : s.length = t.length) (h : ∀ j, j < 8 * s.length → tbit s j = tbit t j) : s = t := by
  apply List.ext_getElem? 
  intro k
  by_cases hk : k < s.length
  · rw [List.getElem?_eq_getElem hk, List.getElem?_eq_getElem (by omega)]
    congr 1
    apply UInt8.toNat_inj.1
    apply Nat.eq_of_testBit_eq
    intro i
    by_cases hi : i < 8
    · have := h (8 * k + i) (by omega)
      unfold tbit at this
      rw [show (8 * k + i) / 8 = k by omega, show (8 * k + i) % 8 = i by omega] at this
      simpa [List.getElem?_eq_getElem hk, List.getElem?_eq_getElem (show k < t.length by omega)] using this
    · have e : ∀ b : UInt8, b.toNat.testBit i = false := fun b => Nat.testBit_lt_two_pow (Nat.lt_of_lt_of_le b.toNat_lt (Nat.pow_le_pow_right (by omega) (by omega : 8 ≤ i)))
      rw [e, e]
  · rw [List.getElem?_eq_none (by omega), List.getElem?_eq_none (by omega)]

/-- Texts of one length that part within 32 bits have one sum only where they are one. -/
theorem sum_burst {s t : List UInt8} {p : Nat} (hl : s.length = t.length) (hd : ∀ j, j < 8 * s.length → tbit s j ≠ tbit t j → p ≤ j ∧ j < p + 32) : sumP s = sumP t ↔ s = t := by
  constructor
  · intro h
    have h1 : fold ones s = fold ones t := by
      unfold sumP moreP at h
      have := congrArg (· ^^^ ones) h
      simpa [BitVec.xor_assoc] using this
    rw [fold_run, fold_run, ← hl] at h1
    have h2 : run (fun j => tbit s j ^^ tbit t j) 0#32 (8 * s.length) = 0#32 := by
      have := run_xor (tbit s) (tbit t) ones ones (8 * s.length)
      rw [BitVec.xor_self] at this
      rw [this, h1, BitVec.xor_self]
    have h3 := burst (p := p) (fun j hj hx => hd j hj (fun e => by rw [e] at hx; simp at hx)) h2
    refine tbit_ext hl fun j hj => ?_
    have := h3 j hj
    simpa using this
  · rintro rfl; rfl

/-- Three texts made one. -/
theorem fold_line : ∀ {s t u : List UInt8} (a b c : BitVec 32), s.length = t.length → t.length = u.length →
    fold a s ^^^ fold b t ^^^ fold c u = fold (a ^^^ b ^^^ c) (List.zipWith (fun x y => x ^^^ y) (List.zipWith (fun x y => x ^^^ y) s t) u)
  | [], [], [], _, _, _, _, _ => rfl
  | x :: s, y :: t, z :: u, a, b, c, h1, h2 => by
    show fold (step a x) s ^^^ fold (step b y) t ^^^ fold (step c z) u = fold (step (a ^^^ b ^^^ c) (x ^^^ y ^^^ z)) _
    rw [fold_line (step a x) (step b y) (step c z) (by simpa using h1) (by simpa using h2)]
    congr 1
    unfold step
    rw [← fn_xor, ← fn_xor]
    congr 1
    have hb : byteV (x ^^^ y ^^^ z) = byteV x ^^^ byteV y ^^^ byteV z := by
      unfold byteV
      rw [UInt8.toNat_xor, UInt8.toNat_xor, BitVec.ofNat_xor, BitVec.ofNat_xor]
    rw [hb]
    ac_rfl
theorem sum_line {s t u : List UInt8} (h1 : s.length = t.length) (h2 : t.length = u.length) :
    sumP s ^^^ sumP t ^^^ sumP u = sumP (List.zipWith (fun x y => x ^^^ y) (List.zipWith (fun x y => x ^^^ y) s t) u) := by
  have h := fold_line ones ones ones h1 h2
  rw [BitVec.xor_self, BitVec.zero_xor] at h
  unfold sumP moreP
  rw [BitVec.zero_xor, ← h]
  have e : ∀ a b c : BitVec 32, a ^^^ ones ^^^ (b ^^^ ones) ^^^ (c ^^^ ones) = a ^^^ b ^^^ c ^^^ ones ^^^ (ones ^^^ ones) := fun a b c => by ac_rfl
  rw [e, BitVec.xor_self, BitVec.xor_zero]

/-! ### Four steps by a table -/
theorem shr_bits (x : BitVec 32) (k i : Nat) : (x >>> k).getLsbD i = x.getLsbD (k + i) := BitVec.getLsbD_ushiftRight ..
/-- A number whose lowest k bits are 0, k steps on. -/
theorem fn_high (k : Nat) : ∀ {x : BitVec 32}, (∀ i, i < k → x.getLsbD i = false) → fn k x = x >>> k := by
  induction k with
  | zero => intro x _; simp [fn]
  | succ k ih =>
    intro x h
    rw [fn, ih (fun i hi => h i (by omega)), f_even (by rw [shr_bits]; exact h k (by omega)), ← BitVec.shiftRight_add]
theorem four (r : BitVec 32) : fn 4 r = (r >>> 4) ^^^ fn 4 (r &&& 15#32) := by
  have h0 : r = (r &&& ~~~15#32) ^^^ (r &&& 15#32) := by
    apply BitVec.eq_of_getLsbD_eq
    intro i hi
    rw [BitVec.getLsbD_xor, BitVec.getLsbD_and, BitVec.getLsbD_and, BitVec.getLsbD_not]
    cases r.getLsbD i <;> cases (15#32).getLsbD i <;> simp [hi]
  have h15 : ∀ i, i < 4 → (15#32).getLsbD i = true := by decide
  have h16 : ∀ i, i < 32 → 4 ≤ i → (15#32).getLsbD i = false := by decide
  have h1 : fn 4 (r &&& ~~~15#32) = r >>> 4 := by
    rw [fn_high 4 (fun i hi => by rw [BitVec.getLsbD_and, BitVec.getLsbD_not, h15 i hi]; simp)]
    apply BitVec.eq_of_getLsbD_eq
    intro i hi
    rw [shr_bits, shr_bits, BitVec.getLsbD_and, BitVec.getLsbD_not]
    by_cases h : 4 + i < 32
    · rw [h16 (4 + i) h (by omega)]; simp [h]
    · rw [BitVec.getLsbD_of_ge r (4 + i) (by omega)]; simp
  have h2 := congrArg (fn 4) h0
  rw [fn_xor, h1] at h2
  exact h2

end Go.Proofs.YtnlolhlbpdmljaaGreatDoor

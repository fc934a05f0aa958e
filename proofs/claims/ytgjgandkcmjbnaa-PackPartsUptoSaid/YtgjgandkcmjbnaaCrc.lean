/- Proved: the sum of bytes over whole numbers: it is linear, and one byte turned turns it; no condition. -/
namespace Go.Proofs.Ytgjgandkcmjbnaa.Crc
def poly : Nat := 0xEDB88320
def step1 (w : Nat) : Nat := if w % 2 = 1 then (w / 2) ^^^ poly else w / 2
def steps : Nat → Nat → Nat
  | 0, w => w
  | n + 1, w => steps n (step1 w)

theorem xor_mod2 (a b : Nat) : (a ^^^ b) % 2 = (a + b) % 2 := by
  have h1 := Nat.testBit_xor a b 0
  simp only [Nat.testBit_zero] at h1
  rcases Nat.mod_two_eq_zero_or_one a with ha | ha <;> rcases Nat.mod_two_eq_zero_or_one b with hb | hb <;>
    rcases Nat.mod_two_eq_zero_or_one (a ^^^ b) with hab | hab <;> simp [ha, hb, hab] at h1 <;> omega
theorem xor_div2 (a b : Nat) : (a ^^^ b) / 2 = a / 2 ^^^ b / 2 := by
  exact Nat.xor_div_two

theorem step1_lin (a b : Nat) : step1 (a ^^^ b) = step1 a ^^^ step1 b := by
  unfold step1
  rw [xor_mod2, xor_div2]
  rcases Nat.mod_two_eq_zero_or_one a with ha | ha <;> rcases Nat.mod_two_eq_zero_or_one b with hb | hb
  · rw [if_neg (by omega), if_neg (by omega), if_neg (by omega)]
  · rw [if_pos (by omega), if_neg (by omega), if_pos (by omega), Nat.xor_assoc]
  · rw [if_pos (by omega), if_pos (by omega), if_neg (by omega), Nat.xor_assoc, Nat.xor_assoc, Nat.xor_comm poly]
  · rw [if_neg (by omega), if_pos (by omega), if_pos (by omega)]
    rw [Nat.xor_assoc, ← Nat.xor_assoc poly, Nat.xor_comm poly, Nat.xor_assoc, Nat.xor_self, Nat.xor_zero]

theorem steps_lin (n a b : Nat) : steps n (a ^^^ b) = steps n a ^^^ steps n b := by
  induction n generalizing a b with
  | zero => rfl
  | succ n ih => simp only [steps]; rw [step1_lin, ih]

theorem step1_lt (w : Nat) (h : w < 4294967296) : step1 w < 4294967296 := by
  unfold step1
  split
  · exact Nat.xor_lt_two_pow (n := 32) (by omega) (by decide)
  · omega
theorem steps_lt (n w : Nat) (h : w < 4294967296) : steps n w < 4294967296 := by
  induction n generalizing w with
  | zero => exact h
  | succ n ih => exact ih _ (step1_lt w h)

theorem step1_zero (w : Nat) (h : w < 4294967296) (h0 : step1 w = 0) : w = 0 := by
  unfold step1 at h0
  split at h0
  · have h1 : w / 2 < 2 ^ 31 := by omega
    have h2 : w / 2 = poly := by
      have := congrArg (· ^^^ poly) h0
      simpa [Nat.xor_assoc] using this
    unfold poly at h2; omega
  · omega
theorem steps_zero (n w : Nat) (h : w < 4294967296) (h0 : steps n w = 0) : w = 0 := by
  induction n generalizing w with
  | zero => exact h0
  | succ n ih => exact step1_zero w h (ih _ (step1_lt w h) h0)

theorem xor_eq_zero {a b : Nat} (h : a ^^^ b = 0) : a = b := by
  have := congrArg (· ^^^ b) h
  simpa [Nat.xor_assoc] using this

theorem steps_inj (n a b : Nat) (ha : a < 4294967296) (hb : b < 4294967296) (h : steps n a = steps n b) : a = b := by
  apply xor_eq_zero
  apply steps_zero n _ (Nat.xor_lt_two_pow (n := 32) ha hb)
  rw [steps_lin, h, Nat.xor_self]

/-- even numbers only shift -/
theorem steps_shift (n k : Nat) : steps n (k * 2 ^ n) = k := by
  induction n generalizing k with
  | zero => simp [steps]
  | succ n ih =>
    have e : step1 (k * 2 ^ (n + 1)) = k * 2 ^ n := by
      unfold step1
      have : k * 2 ^ (n + 1) = 2 * (k * 2 ^ n) := by rw [Nat.pow_succ]; ac_rfl
      rw [this, if_neg (by omega)]; omega
    simp only [steps]; rw [e, ih]

theorem split4 (w : Nat) : w = (w / 16 * 16) ^^^ (w % 16) := by
  have h1 : w % 16 < 2 ^ 4 := by omega
  have e : w / 16 * 16 = 2 ^ 4 * (w / 16) := by omega
  rw [e]
  have := Nat.two_pow_add_eq_or_of_lt h1 (w / 16)
  apply Nat.eq_of_testBit_eq
  intro i
  rw [Nat.testBit_xor]
  have := Nat.testBit_two_pow_mul_add (w / 16) h1 i
  have e2 : 2 ^ 4 * (w / 16) + w % 16 = w := by omega
  rw [e2] at this
  rw [this, Nat.testBit_two_pow_mul]
  by_cases hi : i < 4
  · simp [hi, Nat.not_le.2 hi]
  · have hge : i ≥ 4 := by omega
    have : (w % 16).testBit i = false := Nat.testBit_lt_two_pow (Nat.lt_of_lt_of_le h1 (Nat.pow_le_pow_right (by omega) hge))
    simp [hi, hge, this]

theorem nib (w : Nat) : steps 4 w = (w / 16) ^^^ steps 4 (w % 16) := by
  have h := congrArg (steps 4) (split4 w)
  rw [steps_lin, show (16 : Nat) = 2 ^ 4 from rfl, steps_shift] at h
  exact h

theorem steps_add (m n w : Nat) : steps (m + n) w = steps n (steps m w) := by
  induction m generalizing w with
  | zero => simp [steps]
  | succ m ih => rw [Nat.succ_add]; simp only [steps]; exact ih _

/-- one byte -/
def byte (w c : Nat) : Nat := steps 8 (w ^^^ c)
def run : Nat → List Nat → Nat
  | w, [] => w
  | w, c :: l => run (byte w c) l
def Small (l : List Nat) : Prop := ∀ c ∈ l, c < 256
theorem run_cons (w c : Nat) (l : List Nat) : run w (c :: l) = run (byte w c) l := rfl
def crc (l : List Nat) : Nat := run 4294967295 l ^^^ 4294967295

theorem byte_lt (w c : Nat) (h : w < 4294967296) (hc : c < 256) : byte w c < 4294967296 :=
  steps_lt _ _ (Nat.xor_lt_two_pow (n := 32) h (by omega))
theorem run_lt (w : Nat) (l : List Nat) (h : w < 4294967296) (hl : Small l) : run w l < 4294967296 := by
  induction l generalizing w with
  | nil => exact h
  | cons c l ih => exact ih _ (byte_lt w _ h (hl c (by simp))) (fun x hx => hl x (by simp [hx]))
theorem crc_lt (l : List Nat) (hl : Small l) : crc l < 4294967296 := Nat.xor_lt_two_pow (n := 32) (run_lt _ l (by omega) hl) (by omega)

theorem xor_right_inj {a b c : Nat} (h : a ^^^ c = b ^^^ c) : a = b := by
  have := congrArg (· ^^^ c) h
  simpa [Nat.xor_assoc] using this
theorem xor_left_inj {a b c : Nat} (h : c ^^^ a = c ^^^ b) : a = b := by
  rw [Nat.xor_comm c, Nat.xor_comm c] at h; exact xor_right_inj h

theorem run_inj (l : List Nat) (hl : Small l) (v w : Nat) (hv : v < 4294967296) (hw : w < 4294967296) (h : run v l = run w l) : v = w := by
  induction l generalizing v w with
  | nil => exact h
  | cons c l ih =>
    have hc : c < 256 := hl c (by simp)
    have := ih (fun x hx => hl x (by simp [hx])) _ _ (byte_lt v _ hv hc) (byte_lt w _ hw hc) h
    unfold byte at this
    exact xor_right_inj (steps_inj 8 _ _ (Nat.xor_lt_two_pow (n := 32) hv (by omega)) (Nat.xor_lt_two_pow (n := 32) hw (by omega)) this)

theorem run_set_ne (w : Nat) (hw : w < 4294967296) (l : List Nat) (hl : Small l) (i : Nat) (hi : i < l.length) (c : Nat) (h256 : c < 256) (hc : c ≠ l[i]) : run w (l.set i c) ≠ run w l := by
  induction l generalizing w i with
  | nil => simp at hi
  | cons a l ih =>
    have ha : a < 256 := hl a (by simp)
    have hl' : Small l := fun x hx => hl x (by simp [hx])
    cases i with
    | zero =>
      intro h
      simp only [List.set_cons_zero, run_cons] at h
      have h := run_inj _ hl' _ _ (byte_lt _ _ hw h256) (byte_lt _ _ hw ha) h
      unfold byte at h
      have h := steps_inj 8 _ _ (Nat.xor_lt_two_pow (n := 32) hw (by omega)) (Nat.xor_lt_two_pow (n := 32) hw (by omega)) h
      have h := xor_left_inj h
      exact hc h
    | succ i =>
      simp only [List.set_cons_succ, run_cons]
      exact ih _ (byte_lt _ _ hw ha) hl' i (by simpa using hi) (by simpa using hc)

/-- one byte turned: another sum -/
theorem crc_set_ne (l : List Nat) (hl : Small l) (i : Nat) (hi : i < l.length) (c : Nat) (h256 : c < 256) (hc : c ≠ l[i]) : crc (l.set i c) ≠ crc l := by
  intro h
  unfold crc at h
  have h := xor_right_inj h
  exact run_set_ne 4294967295 (by decide) l hl i hi c h256 hc h

/-- three texts laid over each other -/
def over : List Nat → List Nat → List Nat → List Nat
  | a :: l, b :: m, c :: n => (a ^^^ b ^^^ c) :: over l m n
  | _, _, _ => []

theorem xor_abc (a b c x y z : Nat) : (a ^^^ x) ^^^ (b ^^^ y) ^^^ (c ^^^ z) = (a ^^^ b ^^^ c) ^^^ (x ^^^ y ^^^ z) := by
  ac_rfl

theorem run_over (l m n : List Nat) (h1 : m.length = l.length) (h2 : n.length = l.length) (u v w : Nat) :
    run u l ^^^ run v m ^^^ run w n = run (u ^^^ v ^^^ w) (over l m n) := by
  induction l generalizing m n u v w with
  | nil =>
    obtain rfl : m = [] := List.eq_nil_of_length_eq_zero h1
    obtain rfl : n = [] := List.eq_nil_of_length_eq_zero h2
    rfl
  | cons a l ih =>
    cases m with
    | nil => simp at h1
    | cons b m =>
      cases n with
      | nil => simp at h2
      | cons c n =>
        simp only [run_cons, over]
        rw [ih m n (by simpa using h1) (by simpa using h2)]
        have e : byte u a ^^^ byte v b ^^^ byte w c = byte (u ^^^ v ^^^ w) (a ^^^ b ^^^ c) := by
          unfold byte
          rw [← steps_lin, ← steps_lin, xor_abc]
        rw [e]
theorem xor3_self (a b c m : Nat) : (a ^^^ m) ^^^ (b ^^^ m) ^^^ (c ^^^ m) = (a ^^^ b ^^^ c) ^^^ m := by
  rw [xor_abc, Nat.xor_self, Nat.zero_xor]

theorem crc_over (l m n : List Nat) (h1 : m.length = l.length) (h2 : n.length = l.length) :
    crc l ^^^ crc m ^^^ crc n = crc (over l m n) := by
  unfold crc
  rw [xor3_self, run_over l m n h1 h2]
  simp only [Nat.xor_self, Nat.zero_xor]
/-- a byte, by two nibbles -/
theorem byte_nib (w c : Nat) : byte w c = (((w ^^^ c) / 16 ^^^ steps 4 ((w ^^^ c) % 16)) / 16) ^^^ steps 4 (((w ^^^ c) / 16 ^^^ steps 4 ((w ^^^ c) % 16)) % 16) := by
  unfold byte
  rw [show (8 : Nat) = 4 + 4 from rfl, steps_add, nib (w ^^^ c), nib ((w ^^^ c) / 16 ^^^ steps 4 ((w ^^^ c) % 16))]
end Go.Proofs.Ytgjgandkcmjbnaa.Crc

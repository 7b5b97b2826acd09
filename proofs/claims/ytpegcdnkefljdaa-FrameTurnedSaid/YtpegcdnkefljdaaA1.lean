/- Plain facts on the check sum of layer 5: the bit step in the two spellings, the fold over bytes. No program in sight. -/
import Derived.Laws.BitsLemmas
import Derived.IntWalk
import Derived.WalkKit
namespace Go.Proofs.Ytpegcdnkefljdaa
open Go Go.RowKit

/-- One bit of the sum. -/
def cb (v : Nat) : Nat := if v % 2 = 1 then (v / 2) ^^^ 3988292384 else v / 2
def cbn : Nat → Nat → Nat
  | 0, v => v
  | n + 1, v => cbn n (cb v)
def cby (v : Nat) (b : UInt8) : Nat := cbn 8 (v ^^^ b.toNat)
def crcS (v : Nat) (l : List UInt8) : Nat := l.foldl cby v
def crc (l : List UInt8) : Nat := crcS 4294967295 l ^^^ 4294967295

theorem cb_lt (v : Nat) (h : v < 4294967296) : cb v < 4294967296 := by
  unfold cb
  split
  · exact Nat.xor_lt_two_pow (n := 32) (by omega) (by decide)
  · omega
theorem cbn_lt (n : Nat) : ∀ v, v < 4294967296 → cbn n v < 4294967296 := by
  induction n with
  | zero => exact fun v h => h
  | succ n ih => exact fun v h => ih _ (cb_lt v h)
theorem cbn_succ (n : Nat) : ∀ v, cbn (n + 1) v = cb (cbn n v) := by
  induction n with
  | zero => intro v; rfl
  | succ n ih => intro v; exact ih (cb v)
theorem xor_u8_lt (v : Nat) (b : UInt8) (h : v < 4294967296) : v ^^^ b.toNat < 4294967296 :=
  Nat.xor_lt_two_pow (n := 32) h (by have := b.toNat_lt; omega)
theorem cby_lt (v : Nat) (b : UInt8) (h : v < 4294967296) : cby v b < 4294967296 := cbn_lt 8 _ (xor_u8_lt v b h)
theorem crcS_lt (l : List UInt8) : ∀ v, v < 4294967296 → crcS v l < 4294967296 := by
  induction l with
  | nil => exact fun v h => h
  | cons b l ih => exact fun v h => ih _ (cby_lt v b h)
theorem crc_lt (l : List UInt8) : crc l < 4294967296 := Nat.xor_lt_two_pow (n := 32) (crcS_lt l _ (by decide)) (by decide)
theorem crcS_snoc (v : Nat) (l : List UInt8) (b : UInt8) : crcS v (l ++ [b]) = cby (crcS v l) b := by simp [crcS]

theorem bits_xor_u32 (a b : Nat) (ha : a < 4294967296) (hb : b < 4294967296) : bits .xor .u32 (a : Int) (b : Int) = ((a ^^^ b : Nat) : Int) := by
  have ha' : a % 2 ^ IntKind.u32.bits = a := Nat.mod_eq_of_lt ha
  have hb' : b % 2 ^ IntKind.u32.bits = b := Nat.mod_eq_of_lt hb
  have := Nat.xor_lt_two_pow (n := 32) (x := a) (y := b) ha hb
  simp only [bits, BitVec.ofInt_natCast, BitVec.toNat_xor, BitVec.toNat_ofNat, ha', hb']
  rw [IntKind.wrap_u32]
  omega
theorem wraps_u32 (n : Int) (h₀ : 0 ≤ n) (h₁ : n < 2 ^ 32) : IntKind.u32.wrap n = n := by rw [IntKind.wrap_u32]; omega
theorem bits_and_u32 (a b : Nat) (ha : a < 4294967296) (hb : b < 4294967296) : bits .and .u32 (a : Int) (b : Int) = ((a &&& b : Nat) : Int) :=
  (bits_nat .u32 32 (by decide) wraps_u32 a b ha hb).1

/-- The program's spelling of a bit. -/
theorem cb_prog (v : Nat) (h : v < 4294967296) :
    bits .xor .u32 ((v : Int) / 2) (bits .and .u32 3988292384 (-bits .and .u32 (v : Int) 1 % 4294967296)) = ((cb v : Nat) : Int) := by
  have h1 : bits .and .u32 (v : Int) 1 = ((v % 2 : Nat) : Int) := by
    have := bits_and_u32 v 1 h (by decide)
    rw [Nat.and_one_is_mod] at this
    exact this
  have h2 : ((v : Int) / 2) = ((v / 2 : Nat) : Int) := by omega
  rw [h1, h2]
  unfold cb
  rcases Nat.mod_two_eq_zero_or_one v with e | e
  · rw [e, if_neg (by omega)]
    have : (-((0 : Nat) : Int) % 4294967296) = ((0 : Nat) : Int) := by decide
    rw [this, show (3988292384 : Int) = ((3988292384 : Nat) : Int) from rfl, bits_and_u32 _ _ (by decide) (by decide), bits_xor_u32 _ _ (by omega) (by decide)]
    simp
  · rw [e, if_pos rfl]
    have : (-((1 : Nat) : Int) % 4294967296) = ((4294967295 : Nat) : Int) := by decide
    rw [this, show (3988292384 : Int) = ((3988292384 : Nat) : Int) from rfl, bits_and_u32 _ _ (by decide) (by decide), bits_xor_u32 _ _ (by omega) (by decide)]
    rfl
theorem not_u32 (v : Nat) (h : v < 4294967296) : bits .xor .u32 IntKind.u32.max (v : Int) = ((v ^^^ 4294967295 : Nat) : Int) := by
  rw [show IntKind.u32.max = ((4294967295 : Nat) : Int) from rfl, bits_xor_u32 _ _ (by decide) h, Nat.xor_comm]
theorem byte_in (v : Nat) (b : UInt8) (h : v < 4294967296) : bits .xor .u32 (v : Int) ((b.toNat : Int) % 4294967296) = ((v ^^^ b.toNat : Nat) : Int) := by
  have := b.toNat_lt
  rw [show ((b.toNat : Int) % 4294967296) = ((b.toNat : Nat) : Int) from by omega, bits_xor_u32 _ _ h (by omega)]
/-- The bytes of a string up to a place. -/
def upto (s : ByteArray) (k : Nat) : List UInt8 := s.data.toList.take k
theorem upto_succ (s : ByteArray) (k : Nat) (h : k < s.size) : upto s (k + 1) = upto s k ++ [s[k]] := by
  unfold upto
  rw [List.take_succ_eq_append_getElem (by simpa using h)]; rfl
theorem upto_all (s : ByteArray) (k : Nat) (h : s.size ≤ k) : upto s k = s.data.toList := by
  unfold upto
  exact List.take_of_length_le (by simpa using h)
theorem crc_upto_succ (s : ByteArray) (k : Nat) (h : k < s.size) : crcS 4294967295 (upto s (k + 1)) = cby (crcS 4294967295 (upto s k)) s[k] := by
  rw [upto_succ s k h, crcS_snoc]
theorem crc_upto_lt (s : ByteArray) (k : Nat) : crcS 4294967295 (upto s k) < 4294967296 := crcS_lt _ _ (by decide)
theorem cb_odd (v : Nat) (h : v < 4294967296) (e : v % 2 = 1) : bits .xor .u32 ((v : Int) / 2) 3988292384 = ((cb v : Nat) : Int) := by
  have h2 : ((v : Int) / 2) = ((v / 2 : Nat) : Int) := by omega
  rw [h2, show (3988292384 : Int) = ((3988292384 : Nat) : Int) from rfl, bits_xor_u32 _ _ (by omega) (by decide)]
  unfold cb
  rw [if_pos e]
theorem cb_even (v : Nat) (e : ¬ v % 2 = 1) : ((v : Int) / 2) = ((cb v : Nat) : Int) := by
  unfold cb
  rw [if_neg e]
  omega
theorem not_u32' (v : Nat) (h : v < 4294967296) : bits .xor .u32 (v : Int) 4294967295 = ((v ^^^ 4294967295 : Nat) : Int) := by
  rw [show (4294967295 : Int) = ((4294967295 : Nat) : Int) from rfl, bits_xor_u32 _ _ h (by decide)]
/-- The lowest digits of a number, base 256. -/
def digI (n : Int) : Nat → List Int
  | 0 => []
  | m + 1 => n % 256 :: digI (n / 256) m
def shrI (n : Int) : Nat → Int
  | 0 => n
  | m + 1 => shrI (n / 256) m
theorem digI_snoc (m : Nat) : ∀ n, digI n (m + 1) = digI n m ++ [shrI n m % 256] := by
  induction m with
  | zero => intro n; rfl
  | succ m ih => intro n; rw [digI, ih (n / 256)]; rfl
theorem shrI_succ (m : Nat) : ∀ n, shrI n (m + 1) = shrI n m / 256 := by
  induction m with
  | zero => intro n; rfl
  | succ m ih => intro n; exact ih (n / 256)
theorem digI_length (m : Nat) : ∀ n, (digI n m).length = m := by
  induction m with
  | zero => intro n; rfl
  | succ m ih => intro n; simp [digI, ih]
/-- The number that bytes say, the lowest first. -/
def numL : List UInt8 → Nat
  | [] => 0
  | b :: l => b.toNat + 256 * numL l
theorem numL_snoc (l : List UInt8) (b : UInt8) : numL (l ++ [b]) = numL l + b.toNat * 256 ^ l.length := by
  induction l with
  | nil => simp [numL]
  | cons x l ih =>
    simp only [List.cons_append, numL, ih, List.length_cons, Nat.pow_succ]
    rw [Nat.mul_add, ← Nat.add_assoc, Nat.mul_comm (256 ^ l.length) 256, Nat.mul_left_comm]
theorem numL_lt (l : List UInt8) : numL l < 256 ^ l.length := by
  induction l with
  | nil => simp [numL]
  | cons x l ih =>
    have := x.toNat_lt
    simp only [numL, List.length_cons, Nat.pow_succ]
    omega
theorem wraps_i64 (n : Int) (h₀ : 0 ≤ n) (h₁ : n < 2 ^ 63) : IntKind.i64.wrap n = n := by rw [IntKind.wrap_i64]; omega
theorem or_byte (y : Nat) (b : UInt8) (k : Nat) (hk : k < 4) (hy : y < 256 ^ k) :
    bits .or .i64 (y : Int) (wrap64 (wrap64 (b.toNat : Int) * 2 ^ (8 * k))) = ((y + b.toNat * 256 ^ k : Nat) : Int) := by
  have hb := b.toNat_lt
  have h1 : wrap64 (b.toNat : Int) = ((b.toNat : Nat) : Int) := by unfold wrap64; omega
  have hp : 256 ^ k = 2 ^ (8 * k) := by rw [Nat.pow_mul]
  have hc : k = 0 ∨ k = 1 ∨ k = 2 ∨ k = 3 := by omega
  have hq : wrap64 ((b.toNat : Int) * 2 ^ (8 * k)) = ((2 ^ (8 * k) * b.toNat : Nat) : Int) := by
    unfold wrap64
    rcases hc with rfl | rfl | rfl | rfl <;> simp <;> omega
  have hlt : 2 ^ (8 * k) * b.toNat < 2 ^ 63 := by rcases hc with rfl | rfl | rfl | rfl <;> simp <;> omega
  have hylt : y < 2 ^ 63 := by rcases hc with rfl | rfl | rfl | rfl <;> simp at hy <;> omega
  rw [h1, hq, (bits_nat .i64 63 (by decide) wraps_i64 y _ hylt hlt).2, Nat.or_comm, ← Nat.two_pow_add_eq_or_of_lt (by rw [← hp]; exact hy), hp, Nat.add_comm, Nat.mul_comm]
theorem upto_length (s : ByteArray) (k : Nat) (h : k ≤ s.size) : (upto s k).length = k := by
  unfold upto
  rw [List.length_take]
  have : s.data.toList.length = s.size := by simp
  omega
theorem num_step (s : ByteArray) (k : Nat) (h : k < s.size) : numL (upto s (k + 1)) = numL (upto s k) + s[k].toNat * 256 ^ k := by
  rw [upto_succ s k h, numL_snoc, upto_length s k (by omega)]
end Go.Proofs.Ytpegcdnkefljdaa

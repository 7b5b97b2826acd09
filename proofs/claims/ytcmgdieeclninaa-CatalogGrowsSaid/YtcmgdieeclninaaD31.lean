/- Layer 8, plain: the bytes of a catalog; what a reader of such bytes tells. -/
import Derived.Test.YtcmgdieeclninaaD28
set_option linter.unusedVariables false
set_option linter.unusedSimpArgs false
namespace Go.Proofs.Ytcmgdieeclninaa
open Go.RowKit Go.Proofs.YtcmgdieeclninaaW.PrintWords
/-! ### what is written -/
/-- C4: a number's bytes. -/
def wN (n : Nat) : List Int := if n < 128 then [(n : Int)] else ((n % 128 + 128 : Nat) : Int) :: wN (n / 128)
termination_by n
decreasing_by omega
theorem wN_small {n : Nat} (h : n < 128) : wN n = [(n : Int)] := by rw [wN, if_pos h]
theorem wN_big {n : Nat} (h : ¬ n < 128) : wN n = ((n % 128 + 128 : Nat) : Int) :: wN (n / 128) := by rw [wN, if_neg h]
theorem wN_ne (n : Nat) : wN n ≠ [] := by
  by_cases h : n < 128
  · rw [wN_small h]; simp
  · rw [wN_big h]; simp
def wT (s : ByteArray) : List Int := wN s.size ++ bytesOf s
def wF (b : Bool) : List Int := [if b then 1 else 0]
def wL (l : List Int) : List Int := wN l.length ++ l.flatMap (fun n => wN n.toNat)
def wC (c : Col) : List Int := wT c.name ++ (wN c.type.toNat ++ wF c.notNull)
def wI (x : Idx) : List Int := wT x.name ++ (wF x.unique ++ wL x.columns)
def wTab (t : Tab) : List Int := wT t.name ++ ((wN t.cols.length ++ t.cols.flatMap wC) ++ (wL t.key ++ (wN t.part.toNat ++ (wN t.idx.length ++ t.idx.flatMap wI))))
def wP (p : Prm) : List Int := wT p.name ++ wN p.type.toNat
def wPrc (p : Prc) : List Int := wT p.name ++ ((wN p.params.length ++ p.params.flatMap wP) ++ ((wN p.body.length ++ p.body.flatMap wT) ++ (wN p.rows.toNat ++ wN p.bytes.toNat)))
def wCat (c : Cat) : List Int := (wN c.tables.length ++ c.tables.flatMap wTab) ++ (wN c.procs.length ++ c.procs.flatMap wPrc)
/-! ### a number's digits -/
/-- What the first i bytes, all of which have 128 added, say. -/
def acc (l : List Int) : Nat → Nat
  | 0 => 0
  | i + 1 => acc l i + ((l.getD i 0).toNat % 128) * 128 ^ i
theorem acc_cons (b : Int) (l : List Int) : ∀ i, acc (b :: l) (i + 1) = b.toNat % 128 + 128 * acc l i
  | 0 => by simp [acc]
  | i + 1 => by
    rw [acc, acc_cons b l i, acc, Nat.mul_add, List.getD_cons_succ, Nat.pow_succ, ← Nat.mul_assoc, Nat.mul_comm 128 (_ * _)]
    omega
theorem acc_lt (l : List Int) : ∀ i, acc l i < 128 ^ i
  | 0 => by simp [acc]
  | i + 1 => by
    have ih := acc_lt l i
    have h : (l.getD i 0).toNat % 128 ≤ 127 := by omega
    have h2 := Nat.mul_le_mul_right (128 ^ i) h
    rw [acc, Nat.pow_succ]
    omega
/-- A number ends at byte i. -/
def EndsAt (l : List Int) (i : Nat) : Prop := i < l.length ∧ (∀ j, j < i → 128 ≤ l.getD j 0) ∧ l.getD i 0 < 128
theorem EndsAt.unique {l : List Int} {i k : Nat} (h : EndsAt l i) (h' : EndsAt l k) : i = k := by
  rcases Nat.lt_trichotomy i k with h1 | h1 | h1
  · have := h'.2.1 i h1; have := h.2.2; omega
  · exact h1
  · have := h.2.1 k h1; have := h'.2.2; omega
/-- What a number says that ends at byte i. -/
def numAt (l : List Int) (i : Nat) : Nat := acc l i + (l.getD i 0).toNat * 128 ^ i
theorem numAt_cons (b : Int) (l : List Int) (i : Nat) : numAt (b :: l) (i + 1) = b.toNat % 128 + 128 * numAt l i := by
  unfold numAt
  rw [acc_cons, List.getD_cons_succ, Nat.mul_add, Nat.pow_succ, ← Nat.mul_assoc, Nat.mul_comm 128 (_ * _), Nat.add_assoc]
theorem numAt_lt (l : List Int) (i : Nat) (h : EndsAt l i) (h0 : ∀ b ∈ l, 0 ≤ b) : numAt l i < 128 ^ (i + 1) := by
  have h1 := acc_lt l i
  have h2 : (l.getD i 0).toNat ≤ 127 := by have := h.2.2; omega
  have h3 := Nat.mul_le_mul_right (128 ^ i) h2
  unfold numAt
  rw [Nat.pow_succ]
  omega
/-- Soundness: bytes that end so, without a needless nought, are the number's bytes. -/
theorem wN_of_ends : ∀ (i : Nat) (l : List Int), (∀ b ∈ l, 0 ≤ b ∧ b ≤ 255) → EndsAt l i → (0 < i → l.getD i 0 ≠ 0) → l = wN (numAt l i) ++ l.drop (i + 1)
  | 0, l, hb, he, _ => by
    cases l with
    | nil => have := he.1; simp at this
    | cons b l =>
      have h1 := he.2.2
      have h2 := hb b (by simp)
      simp only [List.getD_cons_zero] at h1
      have h3 : numAt (b :: l) 0 = b.toNat := by simp [numAt, acc]
      rw [h3, wN_small (by omega)]
      simp only [List.drop_succ_cons, List.drop_zero, List.cons_append, List.nil_append]
      rw [Int.toNat_of_nonneg h2.1]
  | i + 1, l, hb, he, hz => by
    cases l with
    | nil => have := he.1; simp at this
    | cons b l =>
      have hb2 : ∀ x ∈ l, 0 ≤ x ∧ x ≤ 255 := fun x hx => hb x (List.mem_cons_of_mem _ hx)
      have hbb := hb b (by simp)
      have h0 := he.2.1 0 (by omega)
      simp only [List.getD_cons_zero] at h0
      have hz2 := hz (by omega)
      rw [List.getD_cons_succ] at hz2
      have he2 : EndsAt l i := ⟨by have := he.1; simp at this; omega, fun j hj => by have := he.2.1 (j + 1) (by omega); rwa [List.getD_cons_succ] at this, by have := he.2.2; rwa [List.getD_cons_succ] at this⟩
      have ih := wN_of_ends i l hb2 he2 (fun _ => hz2)
      have hpos : 1 ≤ numAt l i := by
        unfold numAt
        have hl : l.getD i 0 ∈ l := by
          rw [List.getD, List.getElem?_eq_getElem he2.1]
          exact List.getElem_mem _
        have h5 := (hb2 _ hl).1
        have h6 : 1 ≤ (l.getD i 0).toNat := by omega
        have h7 : 1 ≤ 128 ^ i := Nat.pow_pos (by decide)
        have := Nat.mul_le_mul h6 h7
        omega
      rw [numAt_cons, wN_big (by omega), List.drop_succ_cons, List.cons_append, show (b.toNat % 128 + 128 * numAt l i) / 128 = numAt l i from by omega, ← ih]
      congr 1
      omega
/-- Completeness: a number's bytes end so. -/
theorem ends_of_wN (n : Nat) (r : List Int) : ∃ i, EndsAt (wN n ++ r) i ∧ numAt (wN n ++ r) i = n ∧ (wN n ++ r).drop (i + 1) = r ∧ (0 < i → (wN n ++ r).getD i 0 ≠ 0) ∧ (∀ k, n < 128 ^ (k + 1) → i ≤ k) ∧ i + 1 = (wN n).length := by
  by_cases h : n < 128
  · rw [wN_small h]
    refine ⟨0, ⟨by simp, fun j hj => by omega, by simp; omega⟩, by simp [numAt, acc], by simp, fun h => by omega, fun k _ => Nat.zero_le _, rfl⟩
  · obtain ⟨i, h1, h2, h3, h4, h5, h6⟩ := ends_of_wN (n / 128) r
    rw [wN_big h]
    refine ⟨i + 1, ⟨by simp; have := h1.1; simp at this; omega, fun j hj => ?_, ?_⟩, ?_, ?_, ?_, ?_, by simp; omega⟩
    · cases j with
      | zero => simp; omega
      | succ j => rw [List.cons_append, List.getD_cons_succ]; exact h1.2.1 j (by omega)
    · rw [List.cons_append, List.getD_cons_succ]; exact h1.2.2
    · rw [List.cons_append, numAt_cons, h2]; omega
    · rw [List.cons_append, List.drop_succ_cons]; exact h3
    · intro _
      rw [List.cons_append, List.getD_cons_succ]
      rcases Nat.eq_zero_or_pos i with rfl | hp
      · intro h0
        have h7 : numAt (wN (n / 128) ++ r) 0 = 0 := by unfold numAt; rw [h0]; simp [acc]
        omega
      · exact h4 hp
    · intro k hk
      cases k with
      | zero => simp at hk; omega
      | succ k =>
        have h7 : n / 128 < 128 ^ (k + 1) := by
          rw [Nat.div_lt_iff_lt_mul (by decide)]
          rw [Nat.pow_succ] at hk
          exact hk
        have := h5 k h7
        omega
termination_by n
theorem wN_len {n k : Nat} (h : n < 128 ^ (k + 1)) : (wN n).length ≤ k + 1 := by
  obtain ⟨i, _, _, _, _, h5, h6⟩ := ends_of_wN n []
  have := h5 k h
  omega
/-! ### reading -/
/-- Completeness of a reader: what was written so is read. -/
def Cp {α : Type} (w : α → List Int) (ok : α → Prop) (l : List Int) (x : α) (l' : List Int) : Prop := ∀ y r, ok y → l = w y ++ r → x = y ∧ l' = r
/-- A strict reader's step. -/
structure Rd {α : Type} (w : α → List Int) (ok : α → Prop) (l : List Int) (b : Bool) (x : α) (l' : List Int) (b' : Bool) : Prop where
  sound : b' = false → b = false ∧ l = w x ++ l'
  compl : b = false → ∀ y r, ok y → l = w y ++ r → x = y ∧ l' = r ∧ b' = false
theorem Cp.pair {α β : Type} {w1 : α → List Int} {w2 : β → List Int} {ok1 : α → Prop} {ok2 : β → Prop} {l l1 l2 : List Int} {x : α} {y : β} (h1 : Cp w1 ok1 l x l1) (h2 : Cp w2 ok2 l1 y l2) :
    Cp (fun p : α × β => w1 p.1 ++ w2 p.2) (fun p => ok1 p.1 ∧ ok2 p.2) l (x, y) l2 := by
  rintro ⟨a, c⟩ r ⟨ha, hc⟩ hl
  rw [List.append_assoc] at hl
  obtain ⟨rfl, rfl⟩ := h1 a _ ha hl
  obtain ⟨rfl, rfl⟩ := h2 c _ hc rfl
  exact ⟨rfl, rfl⟩
theorem Rd.pair {α β : Type} {w1 : α → List Int} {w2 : β → List Int} {ok1 : α → Prop} {ok2 : β → Prop} {l l1 l2 : List Int} {b b1 b2 : Bool} {x : α} {y : β} (h1 : Rd w1 ok1 l b x l1 b1) (h2 : Rd w2 ok2 l1 b1 y l2 b2) :
    Rd (fun p : α × β => w1 p.1 ++ w2 p.2) (fun p => ok1 p.1 ∧ ok2 p.2) l b (x, y) l2 b2 := by
  constructor
  · intro hb
    obtain ⟨h3, h4⟩ := h2.sound hb
    obtain ⟨h5, h6⟩ := h1.sound h3
    exact ⟨h5, by rw [h6, h4, List.append_assoc]⟩
  · rintro hb ⟨a, c⟩ r ⟨ha, hc⟩ hl
    rw [List.append_assoc] at hl
    obtain ⟨rfl, rfl, h3⟩ := h1.compl hb a _ ha hl
    obtain ⟨rfl, rfl, h4⟩ := h2.compl h3 c _ hc rfl
    exact ⟨rfl, rfl, h4⟩
theorem Cp.map {α β : Type} {w : α → List Int} {ok : α → Prop} {w' : β → List Int} {ok' : β → Prop} {l l' : List Int} {x : α} (h : Cp w ok l x l') (f : α → β) (g : β → α) (hw : ∀ y, w' y = w (g y)) (ho : ∀ y, ok' y → ok (g y)) (hf : ∀ y, ok' y → f (g y) = y) : Cp w' ok' l (f x) l' := by
  intro y r hy hl
  obtain ⟨h1, h2⟩ := h (g y) r (ho y hy) (by rw [hl, hw])
  exact ⟨by rw [h1, hf y hy], h2⟩
theorem Rd.map {α β : Type} {w : α → List Int} {ok : α → Prop} {w' : β → List Int} {ok' : β → Prop} {l l' : List Int} {b b' : Bool} {x : α} (h : Rd w ok l b x l' b') (f : α → β) (g : β → α) (hx : g (f x) = x) (hw : ∀ y, w' y = w (g y)) (ho : ∀ y, ok' y → ok (g y)) (hf : ∀ y, ok' y → f (g y) = y) : Rd w' ok' l b (f x) l' b' := by
  constructor
  · intro hb
    obtain ⟨h1, h2⟩ := h.sound hb
    exact ⟨h1, by rw [h2, hw, hx]⟩
  · intro hb y r hy hl
    obtain ⟨h1, h2, h3⟩ := h.compl hb (g y) r (ho y hy) (by rw [hl, hw])
    exact ⟨by rw [h1, hf y hy], h2, h3⟩
/-- A strict reader's list on its way: k of them are read. -/
structure LRd {α : Type} (w : α → List Int) (ok : α → Prop) (l0 : List Int) (b0 : Bool) (xs : List α) (l : List Int) (b : Bool) : Prop where
  sound : b = false → b0 = false ∧ l0 = xs.flatMap w ++ l
  compl : b0 = false → ∀ (ys : List α) (r : List Int), (∀ y ∈ ys, ok y) → xs.length ≤ ys.length → l0 = ys.flatMap w ++ r → xs = ys.take xs.length ∧ l = (ys.drop xs.length).flatMap w ++ r ∧ b = false
theorem LRd.start {α : Type} (w : α → List Int) (ok : α → Prop) (l : List Int) (b : Bool) : LRd w ok l b [] l b := ⟨fun h => ⟨h, by simp⟩, fun h ys r _ _ hl => ⟨by simp, by simpa using hl, h⟩⟩
theorem LRd.step {α : Type} {w : α → List Int} {ok : α → Prop} {l0 l l' : List Int} {b0 b b' : Bool} {xs : List α} {x : α} (h : LRd w ok l0 b0 xs l b) (h1 : Rd w ok l b x l' b') : LRd w ok l0 b0 (xs ++ [x]) l' b' := by
  constructor
  · intro hb
    obtain ⟨h3, h4⟩ := h1.sound hb
    obtain ⟨h5, h6⟩ := h.sound h3
    exact ⟨h5, by rw [h6, h4, List.flatMap_append]; simp⟩
  · intro hb ys r hok hlen hl
    rw [List.length_append, List.length_singleton] at hlen ⊢
    obtain ⟨h3, h4, h5⟩ := h.compl hb ys r hok (by omega) hl
    have hk : xs.length < ys.length := by omega
    rw [List.drop_eq_getElem_cons hk, List.flatMap_cons, List.append_assoc] at h4
    obtain ⟨h6, h7, h8⟩ := h1.compl h5 _ _ (hok _ (List.getElem_mem hk)) h4
    exact ⟨by rw [List.take_succ_eq_append_getElem hk, ← h3, h6], h7, h8⟩
theorem LRd.done {α : Type} {w : α → List Int} {ok : α → Prop} {okN : Nat → Prop} {l l1 l2 : List Int} {b b1 b2 : Bool} {xs : List α} {n most : Nat} (hn : Rd wN okN l b n l1 b1) (h : LRd w ok l1 (b1 || decide (most < n)) xs l2 b2) (he : b2 = true ∨ xs.length = n) (hk : xs.length ≤ n) (ho : ∀ m, m ≤ most → okN m) :
    Rd (fun ys => wN ys.length ++ ys.flatMap w) (fun ys => ys.length ≤ most ∧ ∀ y ∈ ys, ok y) l b xs l2 b2 := by
  constructor
  · intro hb
    obtain ⟨h3, h4⟩ := h.sound hb
    have h5 : b1 = false := by cases b1 <;> simp_all
    obtain ⟨h6, h7⟩ := hn.sound h5
    have h8 : xs.length = n := by
      rcases he with he | he
      · rw [hb] at he; cases he
      · exact he
    exact ⟨h6, by rw [h7, h4, h8, List.append_assoc]⟩
  · rintro hb ys r ⟨hlen, hok⟩ hl
    rw [List.append_assoc] at hl
    obtain ⟨h3, h4, h5⟩ := hn.compl hb ys.length _ (ho _ hlen) hl
    subst h3
    have h6 : (b1 || decide (most < ys.length)) = false := by rw [h5]; simp; omega
    obtain ⟨h7, h8, h9⟩ := h.compl h6 ys r hok hk h4
    have h10 : xs.length = ys.length := by
      rcases he with he | he
      · rw [h9] at he; cases he
      · exact he
    rw [h10] at h7 h8
    exact ⟨by rw [h7]; simp, by rw [h8]; simp, h9⟩
/-- A lenient reader's list on its way. -/
def LCp {α : Type} (w : α → List Int) (ok : α → Prop) (l0 : List Int) (xs : List α) (l : List Int) : Prop :=
  ∀ (ys : List α) (r : List Int), (∀ y ∈ ys, ok y) → xs.length ≤ ys.length → l0 = ys.flatMap w ++ r → xs = ys.take xs.length ∧ l = (ys.drop xs.length).flatMap w ++ r
theorem LCp.start {α : Type} (w : α → List Int) (ok : α → Prop) (l : List Int) : LCp w ok l [] l := fun ys r _ _ hl => ⟨by simp, by simpa using hl⟩
theorem LCp.step {α : Type} {w : α → List Int} {ok : α → Prop} {l0 l l' : List Int} {xs : List α} {x : α} (h : LCp w ok l0 xs l) (h1 : Cp w ok l x l') : LCp w ok l0 (xs ++ [x]) l' := by
  intro ys r hok hlen hl
  rw [List.length_append, List.length_singleton] at hlen ⊢
  obtain ⟨h3, h4⟩ := h ys r hok (by omega) hl
  have hk : xs.length < ys.length := by omega
  rw [List.drop_eq_getElem_cons hk, List.flatMap_cons, List.append_assoc] at h4
  obtain ⟨h6, h7⟩ := h1 _ _ (hok _ (List.getElem_mem hk)) h4
  exact ⟨by rw [List.take_succ_eq_append_getElem hk, ← h3, h6], h7⟩
theorem LCp.done {α : Type} {w : α → List Int} {ok : α → Prop} {okN : Nat → Prop} {l l1 l2 : List Int} {xs : List α} {n most : Nat} (hn : Cp wN okN l n l1) (h : LCp w ok l1 xs l2) (he : xs.length = min n most) (ho : ∀ m, m ≤ most → okN m) :
    Cp (fun ys => wN ys.length ++ ys.flatMap w) (fun ys => ys.length ≤ most ∧ ∀ y ∈ ys, ok y) l xs l2 := by
  rintro ys r ⟨hlen, hok⟩ hl
  rw [List.append_assoc] at hl
  obtain ⟨h3, h4⟩ := hn ys.length _ (ho _ hlen) hl
  subst h3
  have h10 : xs.length = ys.length := by omega
  obtain ⟨h7, h8⟩ := h ys r hok (by omega) h4
  rw [h10] at h7 h8
  exact ⟨by rw [h7]; simp, by rw [h8]; simp⟩
end Go.Proofs.Ytcmgdieeclninaa

/- Plain facts: digits and numbers; a whole frame as the reference asks for it. -/
import Derived.Test.YtpegcdnkefljdaaA7
set_option linter.unusedVariables false
set_option linter.unusedSimpArgs false
namespace Go.Proofs.Ytpegcdnkefljdaa
open Go.RowKit Go.Proofs.YtpegcdnkefljdaaW.PrintWords
theorem digI_numL (l : List UInt8) : digI (numL l : Nat) l.length = l.map (fun b => (b.toNat : Int)) := by
  induction l with
  | nil => rfl
  | cons b l ih =>
    have hb := b.toNat_lt
    simp only [numL, List.length_cons, digI, List.map_cons]
    rw [show ((b.toNat + 256 * numL l : Nat) : Int) % 256 = b.toNat from by omega, show ((b.toNat + 256 * numL l : Nat) : Int) / 256 = (numL l : Nat) from by omega, ih]
theorem strOfNums_bytes (l : List UInt8) : (strOfNums (l.map fun b => (b.toNat : Int))).data.toList = l := by
  simp [strOfNums, Function.comp_def]
theorem ba_ext {a b : ByteArray} (h : a.data.toList = b.data.toList) : a = b := by
  cases a; cases b
  simp only [ByteArray.mk.injEq]
  exact Array.toList_inj.1 h
theorem ba_len (a : ByteArray) : a.data.toList.length = a.size := by simp
/-- The digits of the number that bytes say are these bytes. -/
theorem digits_of (a : ByteArray) (n : Nat) (h : a.size = n) : strOfNums (digI (numL a.data.toList : Nat) n) = a := by
  rw [← h, ← ba_len, digI_numL]
  exact ba_ext (strOfNums_bytes _)
theorem numL_digI (m : Nat) : ∀ n : Nat, n < 256 ^ m → numL ((digI n m).map fun i => UInt8.ofNat i.toNat) = n := by
  induction m with
  | zero => intro n h; simp at h; subst h; rfl
  | succ m ih =>
    intro n h
    simp only [digI, List.map_cons, numL]
    have h2 : ((n : Int) / 256) = ((n / 256 : Nat) : Int) := by omega
    rw [h2, ih (n / 256) (by rw [Nat.pow_succ] at h; omega)]
    have h3 : ((n : Int) % 256).toNat = n % 256 := by omega
    rw [h3]
    have : (UInt8.ofNat (n % 256)).toNat = n % 256 := by simp
    omega
theorem num_digits (n m : Nat) (h : n < 256 ^ m) : numL (strOfNums (digI n m)).data.toList = n := by
  have := numL_digI m n h
  simpa [strOfNums] using this
theorem extract_split (s : ByteArray) (a b c : Nat) (h : a ≤ b) (h2 : b ≤ c) : s.extract a c = s.extract a b ++ s.extract b c := by
  apply ba_ext
  simp only [ByteArray.data_append, ByteArray.data_extract, Array.toList_append, Array.toList_extract]
  simp only [List.extract_eq_take_drop]
  rw [show c - a = (b - a) + (c - b) from by omega, List.take_add, List.drop_drop, show a + (b - a) = b from by omega]
theorem whole_ref (s : ByteArray) (a : Nat) (h6 : 6 ≤ s.size - a) (hn : szN s a ≤ s.size - (a + 2 + 4)) :
    whole s a ↔ (szN s a ≤ 4096 ∧ wrapB (dtB s a (szN s a)) = s.extract a (a + 2 + 4 + szN s a)) := by
  have hz : (szB s a).size = 2 := by rw [szB, ByteArray.size_extract]; omega
  have hm : (smB s a).size = 4 := by rw [smB, ByteArray.size_extract]; omega
  have hd : (dtB s a (szN s a)).size = szN s a := by rw [dtB, ByteArray.size_extract]; omega
  have he : s.extract a (a + 2 + 4 + szN s a) = szB s a ++ smB s a ++ dtB s a (szN s a) := by
    rw [extract_split s a (a + 2 + 4) _ (by omega) (by omega), extract_split s a (a + 2) (a + 2 + 4) (by omega) (by omega)]; rfl
  have hsz : sizeB (dtB s a (szN s a)) = szB s a := by
    rw [sizeB, hd]
    exact digits_of _ 2 hz
  unfold whole
  constructor
  · rintro ⟨_, h2, _, h4⟩
    refine ⟨h2, ?_⟩
    rw [he, wrapB, hsz, sumB, hsz, h4]
    rw [show strOfNums (digI (smN s a : Nat) 4) = smB s a from digits_of _ 4 hm]
  · rintro ⟨h2, h3⟩
    refine ⟨h6, h2, hn, ?_⟩
    rw [he, wrapB, hsz] at h3
    have h4 : sumB (dtB s a (szN s a)) = smB s a := by
      have h5 := congrArg (fun b : ByteArray => b.data.toList) h3
      simp only [ByteArray.data_append, Array.toList_append] at h5
      have h6 := (List.append_cancel_right h5)
      exact ba_ext (List.append_cancel_left h6)
    have h5 : numL (sumB (dtB s a (szN s a))).data.toList = smN s a := by rw [h4]; rfl
    rw [sumB, hsz, num_digits _ 4 (crc_lt _)] at h5
    exact h5
end Go.Proofs.Ytpegcdnkefljdaa

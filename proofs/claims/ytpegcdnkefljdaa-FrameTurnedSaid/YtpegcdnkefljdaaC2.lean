/- Plain facts: another byte, another sum; a turned frame is none. -/
import Derived.Test.YtpegcdnkefljdaaC1
set_option linter.unusedVariables false
set_option linter.unusedSimpArgs false
namespace Go.Proofs.Ytpegcdnkefljdaa
open Go.RowKit Go.Proofs.YtpegcdnkefljdaaW.PrintWords
theorem xor_cancel {a b c : Nat} (h : a ^^^ c = b ^^^ c) : a = b := by
  have := congrArg (· ^^^ c) h
  simpa [Nat.xor_assoc] using this
theorem xor_cancel' {a b c : Nat} (h : c ^^^ a = c ^^^ b) : a = b := by
  rw [Nat.xor_comm c a, Nat.xor_comm c b] at h
  exact xor_cancel h
theorem odd_high (v : Nat) (h : v < 4294967296) : 2147483648 ≤ (v / 2) ^^^ 3988292384 := by
  have h1 : ((v / 2) ^^^ 3988292384).testBit 31 = true := by
    rw [Nat.testBit_xor, Nat.testBit_lt_two_pow (show v / 2 < 2 ^ 31 by omega)]
    decide
  exact Nat.ge_two_pow_of_testBit h1
theorem cb_inj {v v' : Nat} (h : v < 4294967296) (h' : v' < 4294967296) (e : cb v = cb v') : v = v' := by
  unfold cb at e
  have o1 := odd_high v h
  have o2 := odd_high v' h'
  split at e <;> split at e
  · have := xor_cancel e
    omega
  · omega
  · omega
  · omega
theorem cbn_inj (n : Nat) : ∀ {v v' : Nat}, v < 4294967296 → v' < 4294967296 → cbn n v = cbn n v' → v = v' := by
  induction n with
  | zero => exact fun _ _ e => e
  | succ n ih => exact fun h h' e => cb_inj h h' (ih (cb_lt _ h) (cb_lt _ h') e)
theorem cby_inj {v v' : Nat} {b : UInt8} (h : v < 4294967296) (h' : v' < 4294967296) (e : cby v b = cby v' b) : v = v' :=
  xor_cancel (cbn_inj 8 (xor_u8_lt v b h) (xor_u8_lt v' b h') e)
theorem cby_byte {v : Nat} {b b' : UInt8} (h : v < 4294967296) (e : cby v b = cby v b') : b = b' :=
  UInt8.toNat_inj.1 (xor_cancel' (cbn_inj 8 (xor_u8_lt v b h) (xor_u8_lt v b' h) e))
theorem crcS_inj (l : List UInt8) : ∀ {v v' : Nat}, v < 4294967296 → v' < 4294967296 → crcS v l = crcS v' l → v = v' := by
  induction l with
  | nil => exact fun _ _ e => e
  | cons b l ih => exact fun h h' e => cby_inj h h' (ih (cby_lt _ b h) (cby_lt _ b h') e)
/-- Another byte, another sum. -/
theorem crcS_set : ∀ (l : List UInt8) (i : Nat) (u : UInt8) (v : Nat), v < 4294967296 → i < l.length → crcS v (l.set i u) = crcS v l → l.getD i 0 = u
  | [], i, u, v, _, hi, _ => absurd hi (Nat.not_lt_zero _)
  | b :: l, 0, u, v, hv, _, e => (cby_byte hv (crcS_inj l (cby_lt v u hv) (cby_lt v b hv) e)).symm
  | b :: l, i + 1, u, v, hv, hi, e => by
    have := crcS_set l i u (cby v b) (cby_lt v b hv) (by simpa using hi) e
    simpa [List.getD] using this
theorem crcS_append (v : Nat) (p l : List UInt8) : crcS v (p ++ l) = crcS (crcS v p) l := by simp [crcS]
theorem crc_set (p l : List UInt8) (i : Nat) (u : UInt8) (hi : i < l.length) (e : crc (p ++ l.set i u) = crc (p ++ l)) : l.getD i 0 = u := by
  have h := xor_cancel e
  rw [crcS_append, crcS_append] at h
  exact crcS_set l i u _ (crcS_lt p _ (by decide)) hi h
theorem numL_inj : ∀ (l l' : List UInt8), l.length = l'.length → numL l = numL l' → l = l'
  | [], [], _, _ => rfl
  | b :: l, b' :: l', hl, e => by
    have h1 := b.toNat_lt
    have h2 := b'.toNat_lt
    simp only [numL] at e
    have e1 : b = b' := UInt8.toNat_inj.1 (by omega)
    have e2 : numL l = numL l' := by omega
    rw [e1, numL_inj l l' (by simpa using hl) e2]
  | [], _ :: _, hl, _ => by simp at hl
  | _ :: _, [], hl, _ => by simp at hl
/-- A frame with one byte of its sum or data turned into another one is none. -/
theorem turned_none (d : ByteArray) (h4 : d.size ≤ 4096) (j : Nat) (u : UInt8) (hj : 2 ≤ j) (hj2 : j < (wrapB d).size) (hu : (wrapB d).data.toList.getD j 0 ≠ u) :
    ¬ whole ⟨((wrapB d).data.toList.set j u).toArray⟩ 0 := by
  intro hw
  obtain ⟨s', hs'⟩ : ∃ s' : ByteArray, s' = ⟨((wrapB d).data.toList.set j u).toArray⟩ := ⟨_, rfl⟩
  rw [← hs'] at hw
  have hL : s'.data.toList = (wrapB d).data.toList.set j u := by rw [hs']
  have hsz : (wrapB d).data.toList.length = 6 + d.size := by rw [ba_len, wrapB_size]
  rw [wrapB_size] at hj2
  generalize hLL : (wrapB d).data.toList = L at *
  have hp := wrap_parts d ⟨#[]⟩
  rw [append_empty'] at hp
  have hwh := whole_wrap d ⟨#[]⟩ h4
  rw [append_empty'] at hwh
  have hzw := szN_wrap d ⟨#[]⟩ h4
  rw [append_empty'] at hzw
  have e1 : (szB s' 0).data.toList = (szB (wrapB d) 0).data.toList := by
    rw [szB, szB, ext_list, ext_list, hL, hLL, List.drop_zero, List.drop_zero, List.take_set_of_le (by omega)]
  have e2 : szN s' 0 = d.size := by rw [← hzw, szN, szN, e1]
  have hc := hw.2.2.2
  have hc0 := hwh.2.2.2
  rw [e2, app_list, e1] at hc
  rw [hzw, app_list] at hc0
  by_cases hj6 : j < 6
  · have e3 : (dtB s' 0 d.size).data.toList = (dtB (wrapB d) 0 d.size).data.toList := by
      rw [dtB, dtB, ext_list, ext_list, hL, hLL, List.drop_set_of_lt (by omega)]
    rw [e3, hc0, smN, smN] at hc
    have e4 : (smB (wrapB d) 0).data.toList = (smB s' 0).data.toList := by
      refine numL_inj _ _ ?_ hc
      rw [smB, smB, ext_list, ext_list, hL, hLL]
      simp
    rw [smB, smB, ext_list, ext_list, hL, hLL] at e4
    have e5 := congrArg (fun l => l.getD (j - 2) 0) e4
    simp only [List.getD, List.getElem?_take, List.getElem?_drop] at e5
    rw [if_pos (by omega), show 0 + 2 + (j - 2) = j from by omega, List.getElem?_set_self (by omega)] at e5
    have h24 : j - 2 < 4 := by omega
    exact hu (by simpa [List.getD, h24] using e5)
  · have e3 : (smB s' 0).data.toList = (smB (wrapB d) 0).data.toList := by
      rw [smB, smB, ext_list, ext_list, hL, hLL, List.drop_set, if_neg (by omega), List.take_set_of_le (by omega)]
    have e4 : (dtB s' 0 d.size).data.toList = (dtB (wrapB d) 0 d.size).data.toList.set (j - 6) u := by
      rw [dtB, dtB, ext_list, ext_list, hL, hLL, List.drop_set, if_neg (by omega)]
      rw [List.take_of_length_le (by simp; omega), List.take_of_length_le (by simp; omega)]
    rw [smN, e3, ← smN, ← hc0, e4] at hc
    have hl : (dtB (wrapB d) 0 d.size).data.toList.length = d.size := by rw [hp.2.2, ba_len]
    have e5 := crc_set _ _ (j - 6) u (by rw [hl]; omega) hc
    rw [dtB, ext_list, hLL] at e5
    simp only [List.getD, List.getElem?_take, List.getElem?_drop] at e5
    rw [if_pos (by omega), show 0 + 2 + 4 + (j - 6) = j from by omega] at e5
    exact hu (by simpa [List.getD] using e5)
end Go.Proofs.Ytpegcdnkefljdaa

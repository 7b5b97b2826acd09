/- Layer 8: the walk of the reader's number. -/
import Derived.Test.YtcmgdieeclninaaD38
import Derived.Lib.Strings
set_option linter.unusedVariables false
set_option linter.unusedSimpArgs false
namespace Go.Proofs.Ytcmgdieeclninaa
open Go.RowKit Go.Proofs.YtcmgdieeclninaaW.PrintWords
/-- A reader: what is left of the text, whether it was bad. -/
def RS (w : World) (rb : Nat) (s : ByteArray) (b : Bool) : Prop := w.heap[rb]? = some (.cells #[.string s, .bool b] 81 (0, 0))
theorem and127 : ∀ z : Fin 256, bits BinOp.and IntKind.u8 ((z.val : Nat) : Int) 127 = ((z.val % 128 : Nat) : Int) := by decide +kernel
theorem and127_of (y : Int) (h0 : 0 ≤ y) (h1 : y ≤ 255) : bits BinOp.and IntKind.u8 y 127 = ((y.toNat % 128 : Nat) : Int) := by
  have h := and127 ⟨y.toNat, by omega⟩
  simp only at h
  rwa [Int.toNat_of_nonneg h0] at h
/-- Bits that do not meet are added. -/
theorem or_add (a x m : Nat) (ha : a < 2 ^ m) (hx : x * 2 ^ m + a < 9223372036854775808) : bits BinOp.or IntKind.i64 (a : Int) ((x * 2 ^ m : Nat) : Int) = ((a + x * 2 ^ m : Nat) : Int) := by
  unfold bits
  have hb1 : (BitVec.ofInt IntKind.i64.bits (a : Int)).toNat = a := by
    rw [BitVec.toNat_ofInt]
    show ((a : Int) % ((2 ^ 64 : Nat) : Int)).toNat = a
    omega
  have hb2 : (BitVec.ofInt IntKind.i64.bits ((x * 2 ^ m : Nat) : Int)).toNat = x * 2 ^ m := by
    rw [BitVec.toNat_ofInt]
    show (((x * 2 ^ m : Nat) : Int) % ((2 ^ 64 : Nat) : Int)).toNat = x * 2 ^ m
    omega
  simp only [BitVec.toNat_or, hb1, hb2]
  have h := Nat.two_pow_add_eq_or_of_lt ha x
  rw [Nat.mul_comm (2 ^ m) x] at h
  rw [Nat.or_comm, ← h, IntKind.wrap_i64]
  have h2 : x * 2 ^ m + a = a + x * 2 ^ m := Nat.add_comm _ _
  rw [h2]
  have h3 : a + x * 2 ^ m < 9223372036854775808 := by omega
  generalize a + x * 2 ^ m = q at h3
  omega
theorem bytes_range (s : ByteArray) : ∀ b ∈ bytesOf s, 0 ≤ b ∧ b ≤ 255 := by
  intro b hb
  unfold bytesOf at hb
  obtain ⟨u, _, rfl⟩ := List.mem_map.1 hb
  have := u.toNat_lt
  omega
theorem bytes_at (s : ByteArray) (k : Nat) (h : k < s.size) : (bytesOf s).getD k 0 = ((s[k]'h).toNat : Int) := by
  have h2 : k < (bytesOf s).length := by rw [bytesOf_length]; exact h
  rw [List.getD, List.getElem?_eq_getElem h2, Option.getD_some]
  simp only [bytesOf, List.getElem_map]
  rfl
theorem bytes_drop (s : ByteArray) (k : Nat) : bytesOf (s.extract k s.size) = (bytesOf s).drop k := by
  unfold bytesOf
  rw [Lib.extract_data, List.map_take, List.map_drop, List.take_of_length_le]
  rw [List.length_drop, List.length_map, data_length]
  exact Nat.le_refl _
/-- What a number's reading tells. -/
def NumOut (rb : Nat) (s : ByteArray) (b : Bool) (w : World) (e : Ending) (w' : World) : Prop :=
  ∃ (n : Nat) (s' : ByteArray) (b' : Bool), e = .returned (.int .i64 n) ∧ RS w' rb s' b' ∧ Mod w w' (fun i => i = rb) ∧ n < 268435456 ∧ s'.size ≤ s.size ∧ Rd wN (fun m => m < 268435456) (bytesOf s) b n (bytesOf s') b'
/-- A number that has ended at byte k. -/
theorem rd_ends {s : ByteArray} {b : Bool} {k : Nat} (he : EndsAt (bytesOf s) k) (hk : k < 4) : numAt (bytesOf s) k < 268435456 ∧ (s.extract (k + 1) s.size).size ≤ s.size ∧
    Rd wN (fun m => m < 268435456) (bytesOf s) b (numAt (bytesOf s) k) (bytesOf (s.extract (k + 1) s.size)) (b || (decide (0 < k) && decide ((bytesOf s).getD k 0 = 0))) := by
  have hlt := numAt_lt (bytesOf s) k he (fun x hx => (bytes_range s x hx).1)
  have h128 : 128 ^ (k + 1) ≤ 128 ^ 4 := Nat.pow_le_pow_right (by decide) (by omega)
  refine ⟨by have : (128 : Nat) ^ 4 = 268435456 := by decide
             omega, by rw [ByteArray.size_extract]; omega, fun hb => ?_, fun hb y r hy hl => ?_⟩
  · simp only [Bool.or_eq_false_iff, Bool.and_eq_false_iff, decide_eq_false_iff_not] at hb
    refine ⟨hb.1, ?_⟩
    rw [bytes_drop]
    exact wN_of_ends k (bytesOf s) (bytes_range s) he (fun hp h0 => by rcases hb.2 with h | h; exact h hp; exact h h0)
  · obtain ⟨i, h1, h2, h3, h4, h5, h6⟩ := ends_of_wN y r
    rw [← hl] at h1 h2 h3 h4
    have hik := he.unique h1
    subst hik
    refine ⟨h2, by rw [bytes_drop, h3], ?_⟩
    rw [hb]
    rcases Nat.eq_zero_or_pos k with h0 | hp
    · simp [h0]
    · simp only [Bool.false_or, Bool.and_eq_false_iff, decide_eq_false_iff_not]
      exact .inr (h4 hp)
/-- A number that has not ended. -/
theorem rd_open {s : ByteArray} {b : Bool} {k : Nat} (hk : k = 4 ∨ s.size ≤ k) (hall : ∀ j, j < k → 128 ≤ (bytesOf s).getD j 0) : Rd wN (fun m => m < 268435456) (bytesOf s) b 0 (bytesOf s) true := by
  refine ⟨(fun h => by cases h), fun hb y r hy hl => ?_⟩
  exfalso
  obtain ⟨i, h1, h2, h3, h4, h5, h6⟩ := ends_of_wN y r
  rw [← hl] at h1
  have h7 := h5 3 (by have : (128 : Nat) ^ 4 = 268435456 := by decide
                      omega)
  have h8 := h1.1
  rw [bytesOf_length] at h8
  have h9 := hall i (by omega)
  have := h1.2.2
  omega
theorem RS.mod {w w' : World} {rb : Nat} {s : ByteArray} {b : Bool} {S : Nat → Prop} (h : RS w rb s b) (k : Mod w w' S) (hn : ¬ S rb) : RS w' rb s b := blk_mod h k hn
theorem RS.below {w w' : World} {rb : Nat} {s : ByteArray} {b : Bool} (h : RS w rb s b) (k : Below w.heap.size w w') : RS w' rb s b := blk_below h k
theorem RS.set {w : World} {rb : Nat} {s s' : ByteArray} {b b' : Bool} (h : RS w rb s b) : RS ((w.setCell ⟨rb, 1, none⟩ (.bool b')).setCell ⟨rb, 0, none⟩ (.string s')) rb s' b' := blk_put (blk_put h 1 (.bool b') rfl) 0 (.string s') rfl
theorem RS.setb {w : World} {rb : Nat} {s : ByteArray} {b : Bool} (h : RS w rb s b) (b' : Bool) : RS (w.setCell ⟨rb, 1, none⟩ (.bool b')) rb s b' := blk_put h 1 (.bool b') rfl
theorem RS.sets {w : World} {rb : Nat} {s : ByteArray} {b : Bool} (h : RS w rb s b) (s' : ByteArray) : RS (w.setCell ⟨rb, 0, none⟩ (.string s')) rb s' b := blk_put h 0 (.string s') rfl
set_option maxRecDepth 100000 in
set_option maxHeartbeats 8000000 in
theorem rnum_any (rb : Nat) (s : ByteArray) (b : Bool) (w : World) (h : RS w rb s b) (hs : s.size ≤ 140737488355328) :
    Calls Try.prog 85 #[.pointer (some ⟨rb, 0, none⟩)] w (NumOut rb s b w) := by
  have H := Aside0.mk h
  clear h
  have f0 : w.cell? ⟨rb, 0, none⟩ = some (.string s) := blk_cell H.out 0
  have f1 : w.cell? ⟨rb, 1, none⟩ = some (.bool b) := blk_cell H.out 1
  have k0 : w.frozen? ⟨rb, 0, none⟩ = false := blk_frozen H.out 0
  have k1 : w.frozen? ⟨rb, 1, none⟩ = false := blk_frozen H.out 1
  go_enter Try.func85, Try.ntmps85
  go_wp2_with fail
  go_loopg [3, 4] 5 (fun gn nv i wr => ∃ k a : Nat, nv = .int .i64 a ∧ i = .int .i64 k ∧ Aside0 (k + gn = 5 ∧ a = acc (bytesOf s) k ∧ k ≤ 4 ∧ ∀ j, j < k → 128 ≤ (bytesOf s).getD j 0) ∧ wr = w)
  case atStart => exact ⟨0, 0, rfl, rfl, ⟨rfl, rfl, by omega, fun j hj => by omega⟩, rfl⟩
  case round =>
    obtain ⟨k, a, rfl, rfl, ⟨hgn, ha, hk4, hall⟩, rfl⟩ := hrel
    have HGN := Lib.hid hgn
    have HA := Lib.hid ha
    have HALL := Lib.hid hall
    have hacc : a < 128 ^ k := by rw [ha]; exact acc_lt _ _
    clear hgn ha hall
    by_cases hlt : k < s.size
    · obtain ⟨y, hy⟩ : ∃ y : Int, ∀ h : k < s.size, ((s[k]'h).toNat : Int) = y := ⟨(s[k].toNat : Int), fun _ => rfl⟩
      have hyd : (bytesOf s).getD k 0 = y := by rw [bytes_at s k hlt, hy hlt]
      have hyr : 0 ≤ y ∧ y ≤ 255 := by rw [← hy hlt]; have := (s[k]'hlt).toNat_lt; omega
      have HYD := Lib.hid hyd
      have hand := and127_of y hyr.1 hyr.2
      obtain ⟨x, hx⟩ : ∃ x : Nat, x = y.toNat % 128 := ⟨_, rfl⟩
      rw [← hx] at hand
      have hx127 : x ≤ 127 := by omega
      have HX := Lib.hid hx
      clear hyd hx
      have hkc : k = 0 ∨ k = 1 ∨ k = 2 ∨ k = 3 ∨ k = 4 := by omega
      rcases hkc with rfl | rfl | rfl | rfl | rfl
      · have hor : bits BinOp.or IntKind.i64 (a : Int) (x : Int) = ((a + x * 1 : Nat) : Int) := by
          have h := or_add a x 0 (by simpa using hacc) (by omega)
          rw [show (((x * 2 ^ 0 : Nat)) : Int) = (x : Int) from by omega] at h
          exact h
        have hacc2 : a < 1 := hacc
        clear hacc
        by_cases hb128 : y < 128
        · have hend : EndsAt (bytesOf s) 0 := ⟨by rw [bytesOf_length]; exact hlt, HALL.out, by rw [HYD.out]; exact hb128⟩
          have hnum : numAt (bytesOf s) 0 = a + x * 1 := by
            unfold numAt
            rw [← HA.out, HYD.out, HX.out, Nat.mod_eq_of_lt (by omega)]
          have hrd := rd_ends (b := b) hend (by omega)
          rw [hnum, HYD.out] at hrd
          have HRD := Lib.hid hrd
          clear hend hnum hrd
          cases b with
          | true =>
            go_wp2_with fail
            go_ret
            refine ⟨a + x * 1, s.extract 1 s.size, true, by simp, (H.out.setb true).sets _, (mod_setCell _ _ _ _).trans (mod_setCell _ _ _ _), HRD.out.1, HRD.out.2.1, ?_⟩
            have h := HRD.out.2.2
            simpa using h
          | false =>
            go_wp2_with fail
            go_ret
            refine ⟨a + x * 1, s.extract 1 s.size, false, by simp, (H.out.setb false).sets _, (mod_setCell _ _ _ _).trans (mod_setCell _ _ _ _), HRD.out.1, HRD.out.2.1, ?_⟩
            have h := HRD.out.2.2
            simpa using h
        · go_wp2_with fail
          go_roundg (5 - 1)
          case measure => have := HGN.out; omega
          case rel => exact ⟨1, a + x * 1, by go_num, by go_num, ⟨by omega, by rw [acc, ← HA.out, HYD.out, HX.out], by omega, fun j hj => by
            rcases Nat.lt_succ_iff_lt_or_eq.1 hj with h | h
            · exact HALL.out j h
            · rw [h, HYD.out]; omega⟩, rfl⟩
      · have hor : bits BinOp.or IntKind.i64 (a : Int) ((x : Int) * 128) = ((a + x * 128 : Nat) : Int) := by
          have h := or_add a x 7 (by simpa using hacc) (by omega)
          rw [show (((x * 2 ^ 7 : Nat)) : Int) = ((x : Int) * 128) from by omega] at h
          exact h
        have hacc2 : a < 128 := hacc
        clear hacc
        by_cases hb128 : y < 128
        · have hend : EndsAt (bytesOf s) 1 := ⟨by rw [bytesOf_length]; exact hlt, HALL.out, by rw [HYD.out]; exact hb128⟩
          have hnum : numAt (bytesOf s) 1 = a + x * 128 := by
            unfold numAt
            rw [← HA.out, HYD.out, HX.out, Nat.mod_eq_of_lt (by omega)]
          have hrd := rd_ends (b := b) hend (by omega)
          rw [hnum, HYD.out] at hrd
          have HRD := Lib.hid hrd
          clear hend hnum hrd
          by_cases hy0 : y = 0
          · have he0 : (y == 0) = true := by rw [beq_iff_eq]; exact hy0
            have HY0 := Lib.hid hy0
            clear hy0
            cases b with
            | true =>
              go_wp2_with fail
              go_ret
              refine ⟨a + x * 128, s.extract 2 s.size, true, by simp, (H.out.setb true).sets _, (mod_setCell _ _ _ _).trans (mod_setCell _ _ _ _), HRD.out.1, HRD.out.2.1, ?_⟩
              have h := HRD.out.2.2
              simpa [HY0.out] using h
            | false =>
              go_wp2_with fail
              go_ret
              refine ⟨a + x * 128, s.extract 2 s.size, true, by simp, (H.out.setb true).sets _, (mod_setCell _ _ _ _).trans (mod_setCell _ _ _ _), HRD.out.1, HRD.out.2.1, ?_⟩
              have h := HRD.out.2.2
              simpa [HY0.out] using h
          · have he0 : (y == 0) = false := by rw [beq_eq_false_iff_ne]; exact hy0
            have HY0 := Lib.hid hy0
            clear hy0
            cases b with
            | true =>
              go_wp2_with fail
              go_ret
              refine ⟨a + x * 128, s.extract 2 s.size, true, by simp, (H.out.setb true).sets _, (mod_setCell _ _ _ _).trans (mod_setCell _ _ _ _), HRD.out.1, HRD.out.2.1, ?_⟩
              have h := HRD.out.2.2
              simpa [HY0.out] using h
            | false =>
              go_wp2_with fail
              go_ret
              refine ⟨a + x * 128, s.extract 2 s.size, false, by simp, (H.out.setb false).sets _, (mod_setCell _ _ _ _).trans (mod_setCell _ _ _ _), HRD.out.1, HRD.out.2.1, ?_⟩
              have h := HRD.out.2.2
              simpa [HY0.out] using h
        · go_wp2_with fail
          go_roundg (5 - 2)
          case measure => have := HGN.out; omega
          case rel => exact ⟨2, a + x * 128, by go_num, by go_num, ⟨by omega, by rw [acc, ← HA.out, HYD.out, HX.out], by omega, fun j hj => by
            rcases Nat.lt_succ_iff_lt_or_eq.1 hj with h | h
            · exact HALL.out j h
            · rw [h, HYD.out]; omega⟩, rfl⟩
      · have hor : bits BinOp.or IntKind.i64 (a : Int) ((x : Int) * 16384) = ((a + x * 16384 : Nat) : Int) := by
          have h := or_add a x 14 (by simpa using hacc) (by omega)
          rw [show (((x * 2 ^ 14 : Nat)) : Int) = ((x : Int) * 16384) from by omega] at h
          exact h
        have hacc2 : a < 16384 := hacc
        clear hacc
        by_cases hb128 : y < 128
        · have hend : EndsAt (bytesOf s) 2 := ⟨by rw [bytesOf_length]; exact hlt, HALL.out, by rw [HYD.out]; exact hb128⟩
          have hnum : numAt (bytesOf s) 2 = a + x * 16384 := by
            unfold numAt
            rw [← HA.out, HYD.out, HX.out, Nat.mod_eq_of_lt (by omega)]
          have hrd := rd_ends (b := b) hend (by omega)
          rw [hnum, HYD.out] at hrd
          have HRD := Lib.hid hrd
          clear hend hnum hrd
          by_cases hy0 : y = 0
          · have he0 : (y == 0) = true := by rw [beq_iff_eq]; exact hy0
            have HY0 := Lib.hid hy0
            clear hy0
            cases b with
            | true =>
              go_wp2_with fail
              go_ret
              refine ⟨a + x * 16384, s.extract 3 s.size, true, by simp, (H.out.setb true).sets _, (mod_setCell _ _ _ _).trans (mod_setCell _ _ _ _), HRD.out.1, HRD.out.2.1, ?_⟩
              have h := HRD.out.2.2
              simpa [HY0.out] using h
            | false =>
              go_wp2_with fail
              go_ret
              refine ⟨a + x * 16384, s.extract 3 s.size, true, by simp, (H.out.setb true).sets _, (mod_setCell _ _ _ _).trans (mod_setCell _ _ _ _), HRD.out.1, HRD.out.2.1, ?_⟩
              have h := HRD.out.2.2
              simpa [HY0.out] using h
          · have he0 : (y == 0) = false := by rw [beq_eq_false_iff_ne]; exact hy0
            have HY0 := Lib.hid hy0
            clear hy0
            cases b with
            | true =>
              go_wp2_with fail
              go_ret
              refine ⟨a + x * 16384, s.extract 3 s.size, true, by simp, (H.out.setb true).sets _, (mod_setCell _ _ _ _).trans (mod_setCell _ _ _ _), HRD.out.1, HRD.out.2.1, ?_⟩
              have h := HRD.out.2.2
              simpa [HY0.out] using h
            | false =>
              go_wp2_with fail
              go_ret
              refine ⟨a + x * 16384, s.extract 3 s.size, false, by simp, (H.out.setb false).sets _, (mod_setCell _ _ _ _).trans (mod_setCell _ _ _ _), HRD.out.1, HRD.out.2.1, ?_⟩
              have h := HRD.out.2.2
              simpa [HY0.out] using h
        · go_wp2_with fail
          go_roundg (5 - 3)
          case measure => have := HGN.out; omega
          case rel => exact ⟨3, a + x * 16384, by go_num, by go_num, ⟨by omega, by rw [acc, ← HA.out, HYD.out, HX.out], by omega, fun j hj => by
            rcases Nat.lt_succ_iff_lt_or_eq.1 hj with h | h
            · exact HALL.out j h
            · rw [h, HYD.out]; omega⟩, rfl⟩
      · have hor : bits BinOp.or IntKind.i64 (a : Int) ((x : Int) * 2097152) = ((a + x * 2097152 : Nat) : Int) := by
          have h := or_add a x 21 (by simpa using hacc) (by omega)
          rw [show (((x * 2 ^ 21 : Nat)) : Int) = ((x : Int) * 2097152) from by omega] at h
          exact h
        have hacc2 : a < 2097152 := hacc
        clear hacc
        by_cases hb128 : y < 128
        · have hend : EndsAt (bytesOf s) 3 := ⟨by rw [bytesOf_length]; exact hlt, HALL.out, by rw [HYD.out]; exact hb128⟩
          have hnum : numAt (bytesOf s) 3 = a + x * 2097152 := by
            unfold numAt
            rw [← HA.out, HYD.out, HX.out, Nat.mod_eq_of_lt (by omega)]
          have hrd := rd_ends (b := b) hend (by omega)
          rw [hnum, HYD.out] at hrd
          have HRD := Lib.hid hrd
          clear hend hnum hrd
          by_cases hy0 : y = 0
          · have he0 : (y == 0) = true := by rw [beq_iff_eq]; exact hy0
            have HY0 := Lib.hid hy0
            clear hy0
            cases b with
            | true =>
              go_wp2_with fail
              go_ret
              refine ⟨a + x * 2097152, s.extract 4 s.size, true, by simp, (H.out.setb true).sets _, (mod_setCell _ _ _ _).trans (mod_setCell _ _ _ _), HRD.out.1, HRD.out.2.1, ?_⟩
              have h := HRD.out.2.2
              simpa [HY0.out] using h
            | false =>
              go_wp2_with fail
              go_ret
              refine ⟨a + x * 2097152, s.extract 4 s.size, true, by simp, (H.out.setb true).sets _, (mod_setCell _ _ _ _).trans (mod_setCell _ _ _ _), HRD.out.1, HRD.out.2.1, ?_⟩
              have h := HRD.out.2.2
              simpa [HY0.out] using h
          · have he0 : (y == 0) = false := by rw [beq_eq_false_iff_ne]; exact hy0
            have HY0 := Lib.hid hy0
            clear hy0
            cases b with
            | true =>
              go_wp2_with fail
              go_ret
              refine ⟨a + x * 2097152, s.extract 4 s.size, true, by simp, (H.out.setb true).sets _, (mod_setCell _ _ _ _).trans (mod_setCell _ _ _ _), HRD.out.1, HRD.out.2.1, ?_⟩
              have h := HRD.out.2.2
              simpa [HY0.out] using h
            | false =>
              go_wp2_with fail
              go_ret
              refine ⟨a + x * 2097152, s.extract 4 s.size, false, by simp, (H.out.setb false).sets _, (mod_setCell _ _ _ _).trans (mod_setCell _ _ _ _), HRD.out.1, HRD.out.2.1, ?_⟩
              have h := HRD.out.2.2
              simpa [HY0.out] using h
        · go_wp2_with fail
          go_roundg (5 - 4)
          case measure => have := HGN.out; omega
          case rel => exact ⟨4, a + x * 2097152, by go_num, by go_num, ⟨by omega, by rw [acc, ← HA.out, HYD.out, HX.out], by omega, fun j hj => by
            rcases Nat.lt_succ_iff_lt_or_eq.1 hj with h | h
            · exact HALL.out j h
            · rw [h, HYD.out]; omega⟩, rfl⟩
      · go_wp2_with fail
        go_ret
        exact ⟨0, s, true, rfl, H.out.setb true, mod_setCell _ _ _ _, by omega, Nat.le_refl _, rd_open (.inl rfl) HALL.out⟩
    · go_wp2_with fail
      all_goals
        go_ret
        exact ⟨0, s, true, rfl, H.out.setb true, mod_setCell _ _ _ _, by omega, Nat.le_refl _, rd_open (.inr (by omega)) HALL.out⟩
end Go.Proofs.Ytcmgdieeclninaa

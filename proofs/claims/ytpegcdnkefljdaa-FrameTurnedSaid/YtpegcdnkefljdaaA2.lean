/- The walks of the leaves of layer 5: the two sums, digits, number. -/
import Derived.Test.YtpegcdnkefljdaaRows
import Derived.Test.YtpegcdnkefljdaaWWords
import Derived.Test.YtpegcdnkefljdaaA1
import Derived.Lib.Hide
namespace Go.Proofs.Ytpegcdnkefljdaa
open Go.RowKit Go.Proofs.YtpegcdnkefljdaaW.PrintWords
theorem val_u32 {a b : Int} (h : a = b) : Value.int .u32 a = .int .u32 b := by rw [h]
theorem val_i64 {a b : Int} (h : a = b) : Value.int .i64 a = .int .i64 b := by rw [h]
theorem info5 : (Try.prog.info? 5).map (fun i => (i.zero, i.size, i.bytes)) = some (some (.int .u8 0), 1, 1) := by kernel_rfl
set_option maxHeartbeats 400000 in
theorem sum_prog (s : ByteArray) (w : World) (hs : s.size ≤ 9223372036854775807) :
    Calls Try.prog 9 #[.string s] w fun e w' => e = .returned (.int .u32 (crc s.data.toList : Nat)) ∧ w' = w := by
  go_enter Try.func9, Try.ntmps9
  go_wp2
  go_loop [3, 4, 7] (fun v i j => ∃ (k : Nat), v = .int .u32 (crcS 4294967295 (upto s k) : Nat) ∧ j = .int .i64 k ∧ k ≤ s.size) (fun _ _ j => s.size - (intOf j).toNat)
  case atStart => exact ⟨0, rfl, rfl, Nat.zero_le _⟩
  case round =>
    obtain ⟨k, rfl, rfl, hk⟩ := hrel
    obtain ⟨x, hx⟩ : ∃ x, x = crcS 4294967295 (upto s k) := ⟨_, rfl⟩
    have hx1 : x < 4294967296 := by rw [hx]; exact crc_upto_lt s k
    rw [← hx]
    have HX := Lib.hid hx
    clear hx
    by_cases hlt : k < s.size
    · have hb := Lib.hid (byte_in x s[k] hx1)
      have hy1 := xor_u8_lt x s[k] hx1
      go_wp2
      go_loop [3, 16] (fun v j => ∃ (i : Nat), v = .int .u32 (cbn i (x ^^^ s[k].toNat) : Nat) ∧ j = .int .i64 i ∧ i ≤ 8) (fun _ j => 8 - (intOf j).toNat)
      case atStart => exact ⟨0, val_u32 hb.out, rfl, by omega⟩
      case round =>
        obtain ⟨i, rfl, rfl, hi⟩ := hrel
        obtain ⟨y, hy⟩ : ∃ y, y = cbn i (x ^^^ s[k].toNat) := ⟨_, rfl⟩
        have hy2 : y < 4294967296 := by rw [hy]; exact cbn_lt _ _ hy1
        rw [← hy]
        have HY := Lib.hid hy
        clear hy
        by_cases hlt2 : i < 8
        · have hc := Lib.hid (cb_prog y hy2)
          go_wp2
          go_round
          case rel => exact ⟨i + 1, by rw [cbn_succ, ← HY.out]; exact val_u32 hc.out, by go_num, by omega⟩
          case measure => simp [intOf]; omega
        · obtain rfl : i = 8 := by omega
          go_wp2
          go_round
          case rel => exact ⟨k + 1, by rw [crc_upto_succ s k hlt, ← HX.out, HY.out]; rfl, by go_num, by omega⟩
          case measure => simp [intOf]; omega
    · go_wp2
      go_ret
      exact ⟨by rw [not_u32 x hx1, HX.out, upto_all s k (by omega)]; rfl, rfl⟩
set_option maxHeartbeats 400000 in
theorem sum_ref (s : ByteArray) (w : World) (hs : s.size ≤ 9223372036854775807) :
    Calls Try.prog 10 #[.string s] w fun e w' => e = .returned (.int .u32 (crc s.data.toList : Nat)) ∧ w' = w := by
  go_enter Try.func10, Try.ntmps10
  go_wp2
  go_loop [3, 4] (fun v j => ∃ (k : Nat), v = .int .u32 (crcS 4294967295 (upto s k) : Nat) ∧ j = .int .i64 k ∧ k ≤ s.size) (fun _ j => s.size - (intOf j).toNat)
  case atStart => exact ⟨0, rfl, rfl, Nat.zero_le _⟩
  case round =>
    obtain ⟨k, rfl, rfl, hk⟩ := hrel
    obtain ⟨x, hx⟩ : ∃ x, x = crcS 4294967295 (upto s k) := ⟨_, rfl⟩
    have hx1 : x < 4294967296 := by rw [hx]; exact crc_upto_lt s k
    rw [← hx]
    have HX := Lib.hid hx
    clear hx
    by_cases hlt : k < s.size
    · have hb := Lib.hid (byte_in x s[k] hx1)
      have hy1 := xor_u8_lt x s[k] hx1
      go_wp2
      go_loop [3, 5] (fun v j => ∃ (i : Nat), v = .int .u32 (cbn i (x ^^^ s[k].toNat) : Nat) ∧ j = .int .i64 i ∧ i ≤ 8) (fun _ j => 8 - (intOf j).toNat)
      case atStart => exact ⟨0, val_u32 hb.out, rfl, by omega⟩
      case round =>
        obtain ⟨i, rfl, rfl, hi⟩ := hrel
        obtain ⟨y, hy⟩ : ∃ y, y = cbn i (x ^^^ s[k].toNat) := ⟨_, rfl⟩
        have hy2 : y < 4294967296 := by rw [hy]; exact cbn_lt _ _ hy1
        rw [← hy]
        have HY := Lib.hid hy
        clear hy
        by_cases hlt2 : i < 8
        · by_cases hodd : y % 2 = 1
          · have hc := Lib.hid (cb_odd y hy2 hodd)
            have hod2 : ((y : Int) % 2 == 1) = true := by rw [beq_iff_eq]; omega
            clear hodd
            go_wp2
            go_round
            case rel => exact ⟨i + 1, by rw [cbn_succ, ← HY.out]; exact val_u32 hc.out, by go_num, by omega⟩
            case measure => simp [intOf]; omega
          · have hc := Lib.hid (cb_even y hodd)
            have hod2 : ((y : Int) % 2 == 1) = false := by rw [beq_eq_false_iff_ne]; omega
            clear hodd
            go_wp2
            go_round
            case rel => exact ⟨i + 1, by rw [cbn_succ, ← HY.out]; exact val_u32 hc.out, by go_num, by omega⟩
            case measure => simp [intOf]; omega
        · obtain rfl : i = 8 := by omega
          go_wp2
          go_round
          case rel => exact ⟨k + 1, by rw [crc_upto_succ s k hlt, ← HX.out, HY.out]; rfl, by go_num, by omega⟩
          case measure => simp [intOf]; omega
    · go_wp2
      go_ret
      exact ⟨by rw [not_u32' x hx1, HX.out, upto_all s k (by omega)]; rfl, rfl⟩
set_option maxHeartbeats 400000 in
theorem digits_any (n : Int) (m : Nat) (w : World) (hm : m ≤ 4) :
    Calls Try.prog 18 #[.int .i64 n, .int .i64 m] w fun e w' => e = .returned (.string (strOfNums (digI n m))) ∧ Below w.heap.size w w' := by
  go_enter Try.func18, Try.ntmps18
  go_wp2
  go_loopw [0, 5, 7] (fun x v j wr => ∃ k : Nat, k ≤ m ∧ x = .int .i64 (shrI n k) ∧ j = .int .i64 k ∧ Aside0 ((Kd.int .u8).R 5 wr w.heap.size (fun _ => True) v (digI n k)) ∧ Aside0 (Below w.heap.size w wr)) (fun _ _ j _ => m - (intOf j).toNat)
  case atStart => exact ⟨0, by omega, rfl, rfl, ⟨Kd.R_nil _ _ _ _ _⟩, ⟨Below.refl _ _⟩⟩
  case round =>
    obtain ⟨k, hk, rfl, rfl, HO, HB⟩ := hrel
    by_cases hlt : k < m
    · obtain ⟨y, hy⟩ : ∃ y, y = shrI n k := ⟨_, rfl⟩
      rw [← hy]
      have HY := Lib.hid hy
      clear hy
      go_wp2_with (at_builtin; refine Kd.R_append (Kd.int .u8) (w0 := w) w.heap.size rfl (.tmp 9) (.tmp 12) 36 5 (.int .u8 0) 1 rfl Try.underlying36 info5 rfl (by decide) (by omega) _ (digI n k) (y % 256) [.int .u8 (y % 256)] (fun _ => True) (fun _ => False) rfl rfl ?aP (fun _ hk => hk.elim) ?aF ?aO ?aB ?aS ?aL ?_; (case aP => exact rfl); (case aF => exact (fun _ _ => trivial)); (case aO => exact HO.out); (case aB => exact HB.out); (case aS => exact HB.out.size); (case aL => rw [digI_length]; omega); intro v1 w1 ho hb hg hat; have HO1 := Aside0.mk ho; have HB1 := Aside0.mk hb; clear ho hb hg hat)
      go_roundw
      case rel => exact ⟨k + 1, by omega, by rw [shrI_succ, ← HY.out], by go_num, ⟨by rw [digI_snoc, ← HY.out]; exact HO1.out⟩, HB1⟩
      case measure => simp [intOf]; omega
    · obtain rfl : k = m := by omega
      have hcv := own_string (P := Try.prog) Try.underlying36 Try.underlying5 Try.underlying9 (Kd.own_of_R HO.out)
      go_wp2
      go_ret
      exact ⟨rfl, HB.out⟩
set_option maxHeartbeats 400000 in
theorem number_any (s : ByteArray) (w : World) (hm : s.size ≤ 4) :
    Calls Try.prog 22 #[.string s] w fun e w' => e = .returned (.int .i64 (numL s.data.toList : Nat)) ∧ w' = w := by
  go_enter Try.func22, Try.ntmps22
  go_wp2
  go_loop [3, 4, 7] (fun x i j => ∃ k : Nat, k ≤ s.size ∧ x = .int .i64 (numL (upto s k) : Nat) ∧ j = .int .i64 k) (fun _ _ j => s.size - (intOf j).toNat)
  case atStart => exact ⟨0, by omega, rfl, rfl⟩
  case round =>
    obtain ⟨k, hk, rfl, rfl⟩ := hrel
    obtain ⟨y, hy⟩ : ∃ y, y = numL (upto s k) := ⟨_, rfl⟩
    have hyl : y < 256 ^ k := by have := numL_lt (upto s k); rw [upto_length s k hk] at this; omega
    rw [← hy]
    have HY := Lib.hid hy
    clear hy
    by_cases hlt : k < s.size
    · have hn := Lib.hid (or_byte y s[k] k (by omega) hyl)
      clear hyl
      go_wp2
      go_round
      case rel => exact ⟨k + 1, by omega, by rw [hn.out, num_step s k hlt, HY.out], by go_num⟩
      case measure => simp [intOf]; omega
    · go_wp2
      go_ret
      exact ⟨by rw [HY.out, upto_all s k (by omega)]; rfl, rfl⟩
end Go.Proofs.Ytpegcdnkefljdaa

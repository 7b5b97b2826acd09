/- The walk of awake. -/
import Derived.Test.YtpegcdnkefljdaaB2
set_option linter.unusedVariables false
set_option linter.unusedSimpArgs false
namespace Go.Proofs.Ytpegcdnkefljdaa
open Go.RowKit Go.Proofs.YtpegcdnkefljdaaW.PrintWords
def sE : ByteArray := ⟨#[0, 0, 255, 18, 217, 65]⟩
theorem ex_sum : crc (ByteArray.mk #[49, 50, 51, 52, 53, 54, 55, 56, 57]).data.toList = 3421780262 := by decide +kernel
theorem ex_wrap : wrapB ⟨#[]⟩ = sE := by decide +kernel
theorem ex_r0 : readV sE 0 = .tuple #[.string ⟨#[]⟩, .int .i64 6, .int .i64 0] := by
  have h : whole sE 0 := by decide +kernel
  have := readV_yes (s := sE) (a := 0) (by decide +kernel) h
  rw [show ((0 : Nat) : Int) = 0 from rfl] at this
  rw [this]
  rw [show szN sE 0 = 0 from by decide +kernel, show dtB sE 0 0 = ⟨#[]⟩ from by decide +kernel]
  rfl
theorem ex_r6 : readV sE 6 = .tuple #[.string ⟨#[]⟩, .int .i64 0, .int .i64 50] :=
  readV_no (s := sE) (a := 6) (by decide +kernel) (by decide +kernel)
theorem ex_r7 : readV sE 7 = .tuple #[.string ⟨#[]⟩, .int .i64 0, .int .i64 1] := by
  rw [readV, if_pos (Or.inr (by decide +kernel))]
def sEE : ByteArray := sE ++ sE ++ ⟨#[1]⟩
theorem ex_all : Fr sEE 0 [⟨#[]⟩, ⟨#[]⟩] 12 := by
  have h0 : whole sEE 0 := by decide +kernel
  have h6 : whole sEE 6 := by decide +kernel
  have h12 : ¬ whole sEE 12 := by decide +kernel
  have e0 : szN sEE 0 = 0 := by decide +kernel
  have e6 : szN sEE 6 = 0 := by decide +kernel
  have d0 : dtB sEE 0 0 = ⟨#[]⟩ := by decide +kernel
  have d6 : dtB sEE 6 0 = ⟨#[]⟩ := by decide +kernel
  have r6 := Fr.step (s := sEE) h6 (by rw [e6]; exact Fr.stop h12)
  rw [e6, d6] at r6
  have r0 := Fr.step (s := sEE) h0 (by rw [e0]; exact r6)
  rw [e0, d0] at r0
  exact r0
theorem sE_size : sE.size ≤ 6 := by decide +kernel
set_option maxHeartbeats 2000000 in
theorem awake_any (w : World) :
    Calls Try.prog 8 #[] w fun e w' => e = .returned (.bool true) ∧ Below w.heap.size w w' := by
  go_enter Try.func8, Try.ntmps8
  go_wp2_with fail
  refine (sum_prog _ _ (by decide)).mono ?_
  rintro e w0 ⟨rfl, hw0⟩
  obtain rfl := hw0.symm
  rw [ex_sum]
  go_wp2_with fail
  refine (wrap_any _ _ (by decide)).mono ?_
  rintro e w1 ⟨rfl, hb1⟩
  rw [ex_wrap]
  go_wp2_with fail
  refine (read_any _ _ _ (by have := sE_size; omega)).mono ?_
  rintro e w2 ⟨rfl, hb2⟩
  rw [ex_r0]
  have hb12 := below_then hb1 hb1.size hb2
  clear hb1 hb2
  go_wp2_with fail
  refine (read_any _ _ _ (by have := sE_size; omega)).mono ?_
  rintro e w3 ⟨rfl, hb3⟩
  rw [ex_r6]
  have hb13 := below_then hb12 hb12.size hb3
  clear hb12 hb3
  go_wp2_with fail
  refine (read_any _ _ _ (by have := sE_size; omega)).mono ?_
  rintro e w4 ⟨rfl, hb4⟩
  rw [ex_r7]
  have hb14 := below_then hb13 hb13.size hb4
  clear hb13 hb4
  have z1 : sE.size + sE.size ≤ 9223372036854775807 := by have := sE_size; omega
  have z2 : sE.size + sE.size + 1 ≤ 9223372036854775807 := by have := sE_size; omega
  go_wp2_with fail
  refine (all_any _ _ (by decide +kernel) _ _ ex_all).mono ?_
  rintro e w5 ⟨v, rfl, hR, hb5⟩
  have hb15 := below_then hb14 hb14.size hb5
  clear hb14 hb5
  obtain ⟨A, c, rfl⟩ := Kd.R_slice hR
  clear hR
  have hE : (sE.toList == [0, 0, 255, 18, 217, 65]) = true := by rw [ByteArray.toList_eq]; rfl
  go_wp2_with fail
  go_ret
  exact ⟨rfl, hb15⟩
end Go.Proofs.Ytpegcdnkefljdaa

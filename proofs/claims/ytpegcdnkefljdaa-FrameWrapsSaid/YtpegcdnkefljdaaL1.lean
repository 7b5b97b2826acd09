/- The walk of FrameWraps. -/
import Derived.Test.YtpegcdnkefljdaaB3
set_option linter.unusedVariables false
set_option linter.unusedSimpArgs false
namespace Go.Proofs.Ytpegcdnkefljdaa
open Go.RowKit Go.Proofs.YtpegcdnkefljdaaW.PrintWords
set_option maxHeartbeats 2000000 in
theorem wraps_law (s : ByteArray) (w : World) (hs0 : s.size ≤ 140737488351232) :
    Calls Try.prog 3 #[.string s] w fun e w' => e = .returned (.bool true) ∧ Below w.heap.size w w' := by
  have hs : s.size ≤ 9223372036854775807 := by omega
  by_cases hb : 2147483647 < s.size
  · go_enter Try.func3, Try.ntmps3
    go_wp2_with fail
    go_ret
    exact ⟨rfl, Below.refl _ _⟩
  · go_enter Try.func3, Try.ntmps3
    go_wp2_with fail
    refine (awake_any _).mono ?_
    rintro e w1 ⟨rfl, hb1⟩
    go_wp2_with fail
    refine (sum_prog s _ hs).mono ?_
    rintro e w2 ⟨rfl, hw2⟩
    obtain rfl := hw2.symm
    go_wp2_with fail
    refine (sum_ref s _ hs).mono ?_
    rintro e w2 ⟨rfl, hw2⟩
    obtain rfl := hw2.symm
    obtain ⟨c, hc⟩ : ∃ c, c = crc s.data.toList := ⟨_, rfl⟩
    rw [← hc]
    clear hc
    by_cases hl : 4096 < s.size
    · go_wp2_with fail
      refine (wrap_long s _ hs hl).mono ?_
      rintro e w3 ⟨rfl, hb3⟩
      have hb13 := below_then hb1 hb1.size hb3
      clear hb1 hb3
      go_wp2_with fail
      refine (wrapref_long s _ hs hl).mono ?_
      rintro e w4 ⟨rfl, hb4⟩
      have hb14 := below_then hb13 hb13.size hb4
      clear hb13 hb4
      go_wp2_with fail
      go_ret
      exact ⟨rfl, hb14⟩
    · go_wp2_with fail
      refine (wrap_any s _ (by omega)).mono ?_
      rintro e w3 ⟨rfl, hb3⟩
      have hb13 := below_then hb1 hb1.size hb3
      clear hb1 hb3
      obtain ⟨t, ht⟩ : ∃ t, t = wrapB s := ⟨_, rfl⟩
      rw [← ht]
      have HT := Lib.hid ht
      clear ht
      go_wp2_with fail
      refine (wrapref_any s _ (by omega)).mono ?_
      rintro e w4 ⟨rfl, hb4⟩
      have hb14 := below_then hb13 hb13.size hb4
      clear hb13 hb4
      rw [← HT.out]
      go_wp2_with fail
      go_ret
      exact ⟨rfl, hb14⟩
end Go.Proofs.Ytpegcdnkefljdaa

/- The walk of Read. -/
import Derived.Test.YtpegcdnkefljdaaA5
set_option linter.unusedVariables false
set_option linter.unusedSimpArgs false
namespace Go.Proofs.Ytpegcdnkefljdaa
open Go.RowKit Go.Proofs.YtpegcdnkefljdaaW.PrintWords
/-- What Read tells. -/
def readV (s : ByteArray) (a : Int) : Value :=
  if a < 0 ∨ (s.size : Int) < a then .tuple #[.string ⟨#[]⟩, .int .i64 0, .int .i64 1]
  else if whole s a.toNat then .tuple #[.string (dtB s a.toNat (szN s a.toNat)), .int .i64 ((a.toNat + 2 + 4 + szN s a.toNat : Nat) : Int), .int .i64 0]
  else .tuple #[.string ⟨#[]⟩, .int .i64 0, .int .i64 50]
theorem Cur.box (w : World) (s : ByteArray) (a : Int) : Cur (w.alloc (.cells #[.string s, .int .i64 a] 46)) w.heap.size s a := by
  unfold Cur World.alloc
  simp
set_option maxHeartbeats 2000000 in
theorem read_any (s : ByteArray) (at_ : Int) (w : World) (hs : s.size ≤ 4294967296) :
    Calls Try.prog 13 #[.string s, .int .i64 at_] w fun e w' => e = .returned (readV s at_) ∧ Below w.heap.size w w' := by
  by_cases h0 : at_ < 0
  · go_enter Try.func13, Try.ntmps13
    go_wp2_with fail
    go_ret3
    exact ⟨by rw [readV, if_pos (.inl h0)]; rfl, Below.refl _ _⟩
  · by_cases h1 : (s.size : Int) < at_
    · go_enter Try.func13, Try.ntmps13
      go_wp2_with fail
      go_ret3
      exact ⟨by rw [readV, if_pos (.inr h1)]; rfl, Below.refl _ _⟩
    · obtain ⟨a, rfl⟩ : ∃ a : Nat, at_ = a := ⟨at_.toNat, by omega⟩
      have hv : readV s a = if whole s a then .tuple #[.string (dtB s a (szN s a)), .int .i64 ((a + 2 + 4 + szN s a : Nat) : Int), .int .i64 0]
          else .tuple #[.string ⟨#[]⟩, .int .i64 0, .int .i64 50] := by
        rw [readV, if_neg (by omega)]; rfl
      have HV := Lib.hid hv
      clear hv
      go_enter Try.func13, Try.ntmps13
      go_wp2_with fail
      refine (next_any w.heap.size s a _ (Cur.box w s a) hs (by omega)).mono ?_
      rintro e w1 ⟨rfl, ho, hc⟩
      have hb : Below w.heap.size w w1 := Only.below (below_alloc (Below.refl _ _) _) ho (Nat.le_refl _) (by simp)
      by_cases hw : whole s a
      · rw [decide_eq_true hw]
        rw [nextTo, if_pos hw] at hc
        rw [nextD, if_pos hw]
        have k1 := hc.cell1
        have k2 := hc.free 1
        go_wp2_with fail
        go_quiet (fail)
        go_wp2_with fail
        go_ret3
        exact ⟨by rw [HV.out, if_pos hw]; rfl, pw_below_drewN hb _⟩
      · rw [decide_eq_false hw]
        rw [nextD, if_neg hw]
        go_wp2_with fail
        go_ret3
        exact ⟨by rw [HV.out, if_neg hw]; rfl, hb⟩
end Go.Proofs.Ytpegcdnkefljdaa

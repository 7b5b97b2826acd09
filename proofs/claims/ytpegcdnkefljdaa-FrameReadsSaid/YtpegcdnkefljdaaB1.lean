/- The walk of the reference's All. -/
import Derived.Test.YtpegcdnkefljdaaA9
set_option linter.unusedVariables false
set_option linter.unusedSimpArgs false
namespace Go.Proofs.Ytpegcdnkefljdaa
open Go.RowKit Go.Proofs.YtpegcdnkefljdaaW.PrintWords
theorem readV_yes {s : ByteArray} {a : Nat} (ha : a ≤ s.size) (h : whole s a) : readV s a = .tuple #[.string (dtB s a (szN s a)), .int .i64 ((a + 2 + 4 + szN s a : Nat) : Int), .int .i64 0] := by
  rw [readV, if_neg (by omega)]
  show (if whole s a then _ else _) = _
  rw [if_pos h]; rfl
theorem readV_no {s : ByteArray} {a : Nat} (ha : a ≤ s.size) (h : ¬ whole s a) : readV s a = .tuple #[.string ⟨#[]⟩, .int .i64 0, .int .i64 50] := by
  rw [readV, if_neg (by omega)]
  show (if whole s a then _ else _) = _
  rw [if_neg h]
set_option maxHeartbeats 2000000 in
theorem allref_any (s : ByteArray) (w : World) (hs : s.size ≤ 4294967296) (l : List ByteArray) (b : Nat) (h : Fr s 0 l b) :
    Calls Try.prog 15 #[.string s] w (AllPost s w l b) := by
  have H := Lib.hid h
  clear h
  go_enter Try.func15, Try.ntmps15
  go_wp2_with fail
  go_loopg [4, 5] (s.size + 1) (fun gn v x wr => ∃ (a : Nat) (acc rest : List ByteArray), x = .int .i64 a ∧ Aside0 (a ≤ s.size ∧ s.size + 1 - a ≤ gn ∧ acc.length ≤ a ∧ l = acc ++ rest ∧ Fr s a rest b) ∧ Aside0 (Kd.string.R 9 wr w.heap.size (fun _ => True) v acc) ∧ Aside0 (Below w.heap.size w wr))
  case atStart => exact ⟨0, [], l, rfl, ⟨⟨Nat.zero_le _, Nat.le_refl _, Nat.le_refl _, rfl, H.out⟩⟩, ⟨Kd.R_nil _ _ _ _ _⟩, ⟨Below.refl _ _⟩⟩
  case round =>
    obtain ⟨a, acc, rest, rfl, ⟨ha, hn, hl, he, hfr⟩, hR, hB⟩ := hrel
    have HE := Lib.hid he
    have HF := Lib.hid hfr
    clear he hfr
    go_wp2_with fail
    refine (readref_any s a _ hs).mono ?_
    rintro e w1 ⟨rfl, hb⟩
    have hB1 := Aside0.mk (below_then hB.out hB.out.size hb)
    have hR1 := Aside0.mk (Kd.R_below hR.out hb)
    clear hB hR
    by_cases hw : whole s a
    · rw [readV_yes ha hw]
      obtain ⟨d, hd⟩ : ∃ d, d = dtB s a (szN s a) := ⟨_, rfl⟩
      obtain ⟨a2, ha2⟩ : ∃ a2, a2 = a + 2 + 4 + szN s a := ⟨_, rfl⟩
      rw [← hd, ← ha2]
      have HD := Lib.hid hd
      have HA2 := Lib.hid ha2
      clear hd ha2
      go_wp2_with (at_builtin; refine Kd.R_append Kd.string (w0 := w) w.heap.size rfl (.tmp 18) (.tmp 20) 31 9 (.string ByteArray.empty) 16 rfl Try.underlying31 info9 rfl (by decide) (by omega) _ acc d [.string d] (fun _ => True) (fun _ => False) rfl rfl ?aP (fun _ hk => hk.elim) ?aF ?aO ?aB ?aS ?aL ?_; (case aP => exact rfl); (case aF => exact (fun _ _ => trivial)); (case aO => exact hR1.out); (case aB => exact hB1.out); (case aS => exact hB1.out.size); (case aL => omega); intro v1 w2 ho2 hb2 hg2 hat2; have hR3 := Aside0.mk ho2; have hB3 := Aside0.mk hb2; clear ho2 hb2 hg2 hat2)
      have hwl := whole_le hw
      go_roundg (s.size + 1 - a2)
      case measure => rw [HA2.out]; omega
      case rel =>
        rcases HF.out.inv with ⟨h, _⟩ | ⟨_, l', hl', r⟩
        · exact absurd hw h
        · subst hl'
          exact ⟨a2, acc ++ [d], l', rfl, ⟨⟨by rw [HA2.out]; exact hwl, Nat.le_refl _, by rw [HA2.out]; simp; omega, by rw [HE.out, HD.out]; simp, by rw [HA2.out]; exact r⟩⟩, hR3, hB3⟩
    · rw [readV_no ha hw]
      go_wp2_with fail
      go_ret2
      rcases HF.out.inv with ⟨_, hr, hbe⟩ | ⟨h, _⟩
      · subst hr hbe
        exact ⟨_, rfl, by rw [HE.out, List.append_nil]; exact hR1.out, hB1.out⟩
      · exact absurd h hw
end Go.Proofs.Ytpegcdnkefljdaa

/- The walk of All. -/
import Derived.Test.YtpegcdnkefljdaaA6
set_option linter.unusedVariables false
set_option linter.unusedSimpArgs false
namespace Go.Proofs.Ytpegcdnkefljdaa
open Go.RowKit Go.Proofs.YtpegcdnkefljdaaW.PrintWords
/-- From place a on n whole frames hold l, and end at b. -/
def frN (s : ByteArray) : Nat → Nat → List ByteArray → Nat → Prop
  | 0, a, l, b => ¬ whole s a ∧ l = [] ∧ b = a
  | n + 1, a, l, b => whole s a ∧ ∃ l', l = dtB s a (szN s a) :: l' ∧ frN s n (a + 2 + 4 + szN s a) l' b
/-- From place a on the whole frames hold l, and end at b. -/
def Fr (s : ByteArray) (a : Nat) (l : List ByteArray) (b : Nat) : Prop := ∃ n, frN s n a l b
theorem Fr.stop {s : ByteArray} {a : Nat} (h : ¬ whole s a) : Fr s a [] a := ⟨0, h, rfl, rfl⟩
theorem Fr.step {s : ByteArray} {a b : Nat} {l : List ByteArray} (h : whole s a) (r : Fr s (a + 2 + 4 + szN s a) l b) : Fr s a (dtB s a (szN s a) :: l) b := by
  obtain ⟨n, hn⟩ := r
  exact ⟨n + 1, h, l, rfl, hn⟩
theorem Fr.inv {s : ByteArray} {a b : Nat} {l : List ByteArray} (h : Fr s a l b) :
    (¬ whole s a ∧ l = [] ∧ b = a) ∨ (whole s a ∧ ∃ l', l = dtB s a (szN s a) :: l' ∧ Fr s (a + 2 + 4 + szN s a) l' b) := by
  obtain ⟨n, hn⟩ := h
  cases n with
  | zero => exact .inl hn
  | succ n =>
    obtain ⟨h1, l', h2, h3⟩ := hn
    exact .inr ⟨h1, l', h2, n, h3⟩
theorem whole_le {s : ByteArray} {a : Nat} (h : whole s a) : a + 2 + 4 + szN s a ≤ s.size := by
  have := h.1
  have := h.2.2.1
  omega
theorem Fr.ex (s : ByteArray) : ∀ (n a : Nat), a ≤ s.size → s.size - a ≤ n → ∃ l b, Fr s a l b := by
  intro n
  induction n with
  | zero => exact fun a h1 h2 => ⟨_, _, .stop (fun h => by have := whole_le h; omega)⟩
  | succ n ih =>
    intro a h1 h2
    by_cases h : whole s a
    · have := whole_le h
      obtain ⟨l, b, r⟩ := ih (a + 2 + 4 + szN s a) this (by omega)
      exact ⟨_, _, .step h r⟩
    · exact ⟨_, _, .stop h⟩
theorem frN_le {s : ByteArray} : ∀ (n a b : Nat) (l : List ByteArray), frN s n a l b → a ≤ s.size → a + l.length ≤ b ∧ b ≤ s.size
  | 0, a, b, l, h, ha => by
    obtain ⟨_, rfl, rfl⟩ := h
    simp; exact ha
  | n + 1, a, b, l, h, ha => by
    obtain ⟨h1, l', rfl, h3⟩ := h
    have h4 := whole_le h1
    have := frN_le n _ _ _ h3 h4
    simp
    omega
theorem Fr.le {s : ByteArray} {a b : Nat} {l : List ByteArray} (h : Fr s a l b) (ha : a ≤ s.size) : a + l.length ≤ b ∧ b ≤ s.size := by
  obtain ⟨n, hn⟩ := h
  exact frN_le n a b l hn ha
theorem info9 : (Try.prog.info? 9).map (fun i => (i.zero, i.size, i.bytes)) = some (some (.string ByteArray.empty), 1, 16) := by kernel_rfl
def AllPost (s : ByteArray) (w : World) (l : List ByteArray) (b : Nat) (e : Ending) (w' : World) : Prop :=
  ∃ v, e = .returned (.tuple #[v, .int .i64 b]) ∧ Kd.string.R 9 w' w.heap.size (fun _ => True) v l ∧ Below w.heap.size w w'
set_option maxHeartbeats 2000000 in
theorem all_any (s : ByteArray) (w : World) (hs : s.size ≤ 4294967296) (l : List ByteArray) (b : Nat) (h : Fr s 0 l b) :
    Calls Try.prog 16 #[.string s] w (AllPost s w l b) := by
  have H := Lib.hid h
  clear h
  go_enter Try.func16, Try.ntmps16
  go_wp2_with fail
  go_loopg [5] (s.size + 1) (fun gn v wr => ∃ (a : Nat) (acc rest : List ByteArray), Aside0 (a ≤ s.size ∧ s.size + 1 - a ≤ gn ∧ acc.length ≤ a ∧ l = acc ++ rest ∧ Fr s a rest b) ∧ Aside0 (Cur wr w.heap.size s a) ∧ Aside0 (Kd.string.R 9 wr w.heap.size (fun k => k ≠ w.heap.size) v acc) ∧ Aside0 (Below w.heap.size w wr))
  case atStart => exact ⟨0, [], l, ⟨⟨Nat.zero_le _, Nat.le_refl _, Nat.le_refl _, rfl, H.out⟩⟩, ⟨Cur.box w s 0⟩, ⟨Kd.R_nil _ _ _ _ _⟩, ⟨below_alloc (Below.refl _ _) _⟩⟩
  case round =>
    obtain ⟨a, acc, rest, ⟨ha, hn, hl, he, hfr⟩, ⟨hc⟩, ⟨hR⟩, ⟨hB⟩⟩ := hrel
    have HE := Lib.hid he
    have HF := Lib.hid hfr
    clear he hfr
    go_wp2_with fail
    refine (next_any w.heap.size s a _ hc hs ha).mono ?_
    rintro e w1 ⟨rfl, ho, hc1⟩
    have hB1 : Below w.heap.size w w1 := Only.below hB ho (Nat.le_refl _) hB.size
    have hR1 : Kd.string.R 9 w1 w.heap.size (fun k => k ≠ w.heap.size) _ acc := Kd.R_step hR (fun k hk hlt => ho.block k hlt hk)
    by_cases hw : whole s a
    · rw [decide_eq_true hw]
      rw [nextTo, if_pos hw] at hc1
      rw [nextD, if_pos hw]
      obtain ⟨d, hd⟩ : ∃ d, d = dtB s a (szN s a) := ⟨_, rfl⟩
      rw [← hd]
      have HD := Lib.hid hd
      clear hd
      have hR2 := Aside0.mk hR1
      have hB2 := Aside0.mk hB1
      clear hR hB hR1 hB1
      go_wp2_with (at_builtin; refine Kd.R_append Kd.string (w0 := w) w.heap.size rfl (.tmp 25) (.tmp 27) 31 9 (.string ByteArray.empty) 16 rfl Try.underlying31 info9 rfl (by decide) (by omega) _ acc d [.string d] (fun k => k ≠ w.heap.size) (fun _ => False) rfl rfl ?aP (fun _ hk => hk.elim) ?aF ?aO ?aB ?aS ?aL ?_; (case aP => exact rfl); (case aF => (intro k hk; have := hB2.out.size; have := blk_lt hc1; omega)); (case aO => exact hR2.out); (case aB => exact hB2.out); (case aS => exact hB2.out.size); (case aL => omega); intro v1 w2 ho2 hb2 hg2 hat2; have hR3 := Aside0.mk ho2; have hB3 := Aside0.mk hb2; have hG3 := Aside0.mk hg2; clear ho2 hb2 hg2 hat2)
      have hwl := whole_le hw
      go_roundg (s.size + 1 - (a + 2 + 4 + szN s a))
      case measure => omega
      case rel =>
        rcases HF.out.inv with ⟨h, _⟩ | ⟨_, l', hl', r⟩
        · exact absurd hw h
        · subst hl'
          exact ⟨a + 2 + 4 + szN s a, acc ++ [d], l', ⟨⟨hwl, Nat.le_refl _, by simp; omega, by rw [HE.out, HD.out]; simp, r⟩⟩, ⟨blk_grown hc1 hG3.out (Kd.R_away hR2.out (fun _ hk => hk))⟩, hR3, hB3⟩
    · rw [decide_eq_false hw]
      rw [nextTo, if_neg hw] at hc1
      rw [nextD, if_neg hw]
      have k1 := hc1.cell1
      go_wp2_with fail
      go_quiet (fail)
      go_wp2_with fail
      go_ret2
      rcases HF.out.inv with ⟨_, hr, hbe⟩ | ⟨h, _⟩
      · subst hr hbe
        exact ⟨_, rfl, by rw [HE.out, List.append_nil]; exact Kd.R_mono (Kd.R_drewN hR1 _) (fun _ _ => trivial), pw_below_drewN hB1 _⟩
      · exact absurd h hw
end Go.Proofs.Ytpegcdnkefljdaa

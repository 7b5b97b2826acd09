/- Layer 19: the walks of plays: Locks, Granted. -/
import Derived.Test.YtajblhainchplaaJ20
set_option linter.unusedVariables false
set_option linter.unusedSimpArgs false
namespace Go.Proofs.Ytajblhainchplaa
open Go.RowKit Go.Proofs.YtajblhainchplaaW.PrintWords Go.Proofs.YtajblhainchplaaW.PrintLast
theorem Kin.mod {w w' : World} {ok : Nat → Prop} (k : Kin w w' ok) : Mod w w' ok := ⟨k.os, k.tape, k.output, k.size, k.block⟩
def ShLk (w : World) (ok : Nat → Prop) (v : Value) : Prop := ShRow w ok (fun g j => Has w g (j * 4) (tag (.int .i64 0)) ∧ Has w g (j * 4 + 1) (tag (.string ⟨#[]⟩)) ∧ Has w g (j * 4 + 2) (tag (.string ⟨#[]⟩)) ∧ Has w g (j * 4 + 3) (tag (.bool false))) v
theorem shLk_of {w : World} {base : Nat} {ok : Nat → Prop} {v : Value} {xs : List Lk} (h : kLk.R 23 w base ok v xs) : ShLk w ok v :=
  sh_of_R h (fun g cur j x cs hh hM hc => by
    rw [kLk_M] at hM
    subst hM
    exact ⟨⟨cur, 23, _, hh, hc 0 _ rfl (by decide), rfl⟩, ⟨cur, 23, _, hh, hc 1 _ rfl (by decide), rfl⟩, ⟨cur, 23, _, hh, hc 2 _ rfl (by decide), rfl⟩, ⟨cur, 23, _, hh, hc 3 _ rfl (by decide), rfl⟩⟩)
set_option maxRecDepth 100000 in
set_option maxHeartbeats 8000000 in
theorem plays_locks (t : TS) (x : Opn) (B : Option Addr) (d : Nat) (w : World) (base p r : Nat) (K : Nat) (hD0 : HDuo w base p r t) (hK : NB t K) (hK2 : K * 32 ≤ 140737488355000) (hw : x.what = 5) :
    Calls Try.prog 26 #[.pointer (some ⟨p, 0, none⟩), .pointer (some ⟨r, 0, none⟩), .agg #[.int .i64 x.what, .int .i64 x.pos, .slice B x.l.length d]] w (PlPost base p r K w) := by
  have HD0 := Aside0.mk hD0
  obtain ⟨okP, okQ, A, c, A', c', hD⟩ := hD0
  have NBK := Lib.hid hK
  have hlen : t.l.length * 32 ≤ 140737488355000 := by have := hK.1; omega
  obtain ⟨b5, hb5⟩ : ∃ q, q = w.heap.size := ⟨_, rfl⟩
  obtain ⟨W1, h1, k1, s1, B1⟩ := grow (W := w) hb5.symm #[.int .i64 x.what, .int .i64 x.pos, .slice B x.l.length d] 31
  have D1 := Aside0.mk (hD.below B1)
  have HB1 := Aside0.mk B1
  have K1 := Aside0.mk k1
  have H1 := Lib.hid h1
  have HB5 := Lib.hid hb5
  have q0 : W1.cell? ⟨b5, 0, none⟩ = some (.int .i64 x.what) := blk_cell k1 0
  have q1 : W1.cell? ⟨b5, 1, none⟩ = some (.int .i64 x.pos) := blk_cell k1 1
  have p1 : (x.what == 1) = false := int_beq_false (by omega)
  have p2 : (x.what == 2) = false := int_beq_false (by omega)
  have p3 : (x.what == 4) = false := int_beq_false (by omega)
  have p4 : (x.what == 5) = true := int_beq_true hw
  clear hD hK hw h1 k1 s1 B1 hb5
  go_enter Try.func26, Try.ntmps26
  go_upto_region 1 with (fail)
  rw [← H1.out, ← HB5.out]
  go_wp2_with fail
  refine (locks_any t A c base p okP x.pos W1 D1.out.P).mono ?_
  rintro e w4 ⟨v4, rfl, hv4, hb4⟩
  obtain ⟨V4, c4, rfl⟩ := Kd.R_slice hv4
  have HR4 := Aside0.mk hv4
  have D4 := Aside0.mk (D1.out.below hb4)
  have B4 := Aside0.mk (below_then HB1.out HB1.out.size hb4)
  have q1 : w4.cell? ⟨b5, 1, none⟩ = some (.int .i64 x.pos) := blk_cell (blk_below K1.out hb4) 1
  clear hv4 hb4 q0
  go_wp2_with fail
  refine (rlocks_any t A' c' base r okQ x.pos w4 D4.out.R).mono ?_
  rintro e w5 ⟨v5, rfl, hv5, hb5⟩
  obtain ⟨V5, c5, rfl⟩ := Kd.R_slice hv5
  have HV5 := Aside0.mk (Kd.R_reads' hv5).2.2
  have HR5 := Aside0.mk (Kd.R_below HR4.out hb5)
  have B5 := Aside0.mk (below_then B4.out B4.out.size hb5)
  clear hv5 hb5 q1
  go_wp2_with fail
  refine (same_any V4 c4 (t.locks x.pos).1 V5 c5 (t.locks x.pos).1 w5 (Kd.R_reads' HR5.out).2.2 HV5.out).mono ?_
  rintro e w6 ⟨rfl, m6, hw6⟩
  rw [decide_eq_true rfl]
  have B6 : Aside0 (Below w.heap.size w w6) := ⟨by rw [hw6]; exact pw_below_drewN B5.out m6⟩
  have S6 : Aside0 (ShLk w6 (fun q => W1.heap.size ≤ q) (.slice V4 (t.locks x.pos).1.length c4)) := ⟨shLk_of (by rw [hw6]; exact Kd.R_below HR5.out (pw_below_drewN (Below.refl _ _) m6))⟩
  obtain ⟨n, hn⟩ : ∃ n, n = (t.locks x.pos).1.length := ⟨_, rfl⟩
  obtain ⟨er, her⟩ : ∃ n, n = (t.locks x.pos).2 := ⟨_, rfl⟩
  rw [← hn] at S6 ⊢
  rw [← her]
  have hn1 : n ≤ 9223372036854775807 := by obtain ⟨_, _, _, he, hn, _⟩ := S6.out; injection he with h1 h2 h3; omega
  clear hw6 HR4 HR5 HV5 hn her
  go_wp2_with fail
  go_loopg [23] n (fun gn i wr => ∃ k : Nat, i = .int .i64 k ∧ Aside0 (k + gn = n) ∧ Aside0 (Kin w6 wr (fun q => W1.heap.size ≤ q)))
  case atStart => exact ⟨0, rfl, ⟨by omega⟩, ⟨Kin.refl _ _⟩⟩
  case round =>
    obtain ⟨k, rfl, ⟨hgn⟩, hKi⟩ := hrel
    have HGN := Lib.hid hgn
    clear hgn
    by_cases hk : k < n
    · obtain ⟨g, rfl, hokg, e0, _, _, _⟩ := S6.out.at_ k hk
      obtain ⟨n0, q0⟩ := (hKi.out.has e0).int
      have z0 := (hKi.out.has e0).frozen
      have hK3 := Aside0.mk (hKi.out.set (v := .int .i64 5) e0 hokg)
      have p5 : (0 : Int) ≤ k := by omega
      have p6 : (k : Int) < n := by omega
      clear e0 hokg
      go_wp2_with fail
      go_roundg (n - (k + 1))
      case measure => have := HGN.out; omega
      case rel => exact ⟨k + 1, by go_num, ⟨by have := HGN.out; omega⟩, hK3⟩
    · have p6 : ¬ (k : Int) < n := by omega
      go_wp2_with fail
      go_ret
      have hB6 := Mod.below B6.out hKi.out.mod B6.out.size (fun i hi => Nat.le_trans HB1.out.size hi)
      exact ⟨by simp, ⟨t, ⟨Nat.le_succ_of_le NBK.out.1, NBK.out.2⟩, HD0.out.below hB6⟩, Mod.of_below hB6⟩
set_option maxRecDepth 100000 in
set_option maxHeartbeats 8000000 in
theorem plays_granted (t : TS) (x : Opn) (B : Option Addr) (d : Nat) (w : World) (base p r : Nat) (K : Nat) (hD0 : HDuo w base p r t) (hK : NB t K) (hK2 : K * 32 ≤ 140737488355000) (hw : x.what ≠ 1 ∧ x.what ≠ 2 ∧ x.what ≠ 4 ∧ x.what ≠ 5) :
    Calls Try.prog 26 #[.pointer (some ⟨p, 0, none⟩), .pointer (some ⟨r, 0, none⟩), .agg #[.int .i64 x.what, .int .i64 x.pos, .slice B x.l.length d]] w (PlPost base p r K w) := by
  have HD0 := Aside0.mk hD0
  obtain ⟨okP, okQ, A, c, A', c', hD⟩ := hD0
  have NBK := Lib.hid hK
  have hlen : t.l.length * 32 ≤ 140737488355000 := by have := hK.1; omega
  obtain ⟨b5, hb5⟩ : ∃ q, q = w.heap.size := ⟨_, rfl⟩
  obtain ⟨W1, h1, k1, s1, B1⟩ := grow (W := w) hb5.symm #[.int .i64 x.what, .int .i64 x.pos, .slice B x.l.length d] 31
  have D1 := Aside0.mk (hD.below B1)
  have HB1 := Aside0.mk B1
  have K1 := Aside0.mk k1
  have H1 := Lib.hid h1
  have HB5 := Lib.hid hb5
  have q0 : W1.cell? ⟨b5, 0, none⟩ = some (.int .i64 x.what) := blk_cell k1 0
  have p1 : (x.what == 1) = false := int_beq_false hw.1
  have p2 : (x.what == 2) = false := int_beq_false hw.2.1
  have p3 : (x.what == 4) = false := int_beq_false hw.2.2.1
  have p4 : (x.what == 5) = false := int_beq_false hw.2.2.2
  clear hD hK hw h1 k1 s1 B1 hb5
  go_enter Try.func26, Try.ntmps26
  go_upto_region 1 with (fail)
  rw [← H1.out, ← HB5.out]
  go_wp2_with fail
  refine (ready_any t A c base p okP W1 D1.out.P (by omega)).mono ?_
  rintro e w4 ⟨v4, rfl, hv4, hb4⟩
  obtain ⟨V4, c4, rfl⟩ := Kd.R_slice hv4
  have HR4 := Aside0.mk hv4
  have D4 := Aside0.mk (D1.out.below hb4)
  have B4 := Aside0.mk (below_then HB1.out HB1.out.size hb4)
  have K4 := Aside0.mk (blk_below K1.out hb4)
  clear hv4 hb4 q0
  go_wp2_with fail
  refine (rgranted_any t A' c' base r okQ w4 D4.out.R (by omega) NBK.out.2).mono ?_
  rintro e w5 ⟨v5, rfl, hv5, hb5⟩
  obtain ⟨V5, c5, rfl⟩ := Kd.R_slice hv5
  have HV5 := Aside0.mk (Kd.R_reads' hv5).2.2
  have HR5 := Aside0.mk (Kd.R_below HR4.out hb5)
  have B5 := Aside0.mk (below_then B4.out B4.out.size hb5)
  have D5 := Aside0.mk (D4.out.below hb5)
  have K5 := Aside0.mk (blk_below K4.out hb5)
  clear hv5 hb5
  go_wp2_with fail
  refine (ints_any V4 c4 t.ready V5 c5 t.ready w5 (Kd.R_reads' HR5.out).2.2 HV5.out).mono ?_
  rintro e w6 ⟨rfl, m6, hw6⟩
  rw [decide_eq_true rfl]
  have b6 : Below w5.heap.size w5 w6 := by rw [hw6]; exact pw_below_drewN (Below.refl _ _) m6
  have B6 := Aside0.mk (below_then B5.out B5.out.size b6)
  have R6 := Aside0.mk (Kd.R_below HR5.out b6)
  have D6 := Aside0.mk (D5.out.below b6)
  have HV6 := Aside0.mk (Kd.C_below HV5.out b6)
  have K6 := Aside0.mk (blk_below K5.out b6)
  have q1 : w6.cell? ⟨b5, 1, none⟩ = some (.int .i64 x.pos) := blk_cell K6.out 1
  obtain ⟨bb, hbb⟩ : ∃ b, decide (x.pos ∈ t.ready) = b := ⟨_, rfl⟩
  have HBB := Lib.hid hbb
  clear hw6 b6 hbb
  go_wp2_with fail
  refine (granted_any t A c base p okP x.pos w6 D6.out.P (by omega)).mono ?_
  rintro e w7 ⟨he, hb7⟩
  rw [HBB.out] at he
  subst he
  have B7 := Aside0.mk (below_then B6.out B6.out.size hb7)
  have R7 := Aside0.mk (Kd.R_below R6.out hb7)
  have HV7 := Aside0.mk (Kd.C_below HV6.out hb7)
  have q1 : w7.cell? ⟨b5, 1, none⟩ = some (.int .i64 x.pos) := blk_cell (blk_below K6.out hb7) 1
  clear hb7
  go_wp2_with fail
  refine (has_any V5 _ c5 t.ready x.pos w7 HV7.out).mono ?_
  rintro e w8 ⟨he, rfl⟩
  rw [HBB.out] at he
  subst he
  have S7 : Aside0 (ShInt w8 (fun q => W1.heap.size ≤ q) (.slice V4 t.ready.length c4)) := ⟨shInt_of R7.out⟩
  obtain ⟨n, hn⟩ : ∃ n, n = t.ready.length := ⟨_, rfl⟩
  rw [← hn] at S7 ⊢
  have hn1 : n ≤ 9223372036854775807 := by obtain ⟨_, _, _, he, hn, _⟩ := S7.out; injection he with h1 h2 h3; omega
  clear HR4 HR5 HV5 hn R6 R7 HV6 HV7 q1
  go_wp2_with fail
  go_loopg [29] n (fun gn i wr => ∃ k : Nat, i = .int .i64 k ∧ Aside0 (k + gn = n) ∧ Aside0 (Kin w8 wr (fun q => W1.heap.size ≤ q)))
  case atStart => exact ⟨0, rfl, ⟨by omega⟩, ⟨Kin.refl _ _⟩⟩
  case round =>
    obtain ⟨k, rfl, ⟨hgn⟩, hKi⟩ := hrel
    have HGN := Lib.hid hgn
    clear hgn
    by_cases hk : k < n
    · obtain ⟨g, rfl, hokg, e0⟩ := S7.out.at_ k hk
      obtain ⟨n0, q0⟩ := (hKi.out.has e0).int
      have z0 := (hKi.out.has e0).frozen
      have hK3 := Aside0.mk (hKi.out.set (v := .int .i64 (-1)) e0 hokg)
      have p5 : (0 : Int) ≤ k := by omega
      have p6 : (k : Int) < n := by omega
      clear e0 hokg
      go_wp2_with fail
      go_roundg (n - (k + 1))
      case measure => have := HGN.out; omega
      case rel => exact ⟨k + 1, by go_num, ⟨by have := HGN.out; omega⟩, hK3⟩
    · have p6 : ¬ (k : Int) < n := by omega
      have hB6 := Aside0.mk (Mod.below B7.out hKi.out.mod B7.out.size (fun i hi => Nat.le_trans HB1.out.size hi))
      clear HBB
      cases bb
      all_goals
        go_wp2_with fail
        go_ret
        exact ⟨by simp, ⟨t, ⟨Nat.le_succ_of_le NBK.out.1, NBK.out.2⟩, HD0.out.below hB6.out⟩, Mod.of_below hB6.out⟩
end Go.Proofs.Ytajblhainchplaa

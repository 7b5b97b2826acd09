/- Layer 19: both tables in one memory; the walks of plays: Free, Waits. -/
import Derived.Test.YtajblhainchplaaJ17
import Derived.Test.YtajblhainchplaaJ19
set_option linter.unusedVariables false
set_option linter.unusedSimpArgs false
namespace Go.Proofs.Ytajblhainchplaa
open Go.RowKit Go.Proofs.YtajblhainchplaaW.PrintWords Go.Proofs.YtajblhainchplaaW.PrintLast
/-- The program's table and the reference's, each in blocks of its own. -/
structure Duo (w : World) (base p r : Nat) (okP okQ : Nat → Prop) (t : TS) (A : Option Addr) (c : Nat) (A' : Option Addr) (c' : Nat) : Prop where
  P : TNet w base p okP t A c
  R : RNet w base r okQ t A' c'
  dis : ∀ q, okP q → ¬ okQ q
  bP : ∀ q, okP q → base ≤ q ∧ q < w.heap.size
  bQ : ∀ q, okQ q → base ≤ q ∧ q < w.heap.size
  ne : p ≠ r
  hb : base ≤ w.heap.size
def HDuo (w : World) (base p r : Nat) (t : TS) : Prop := ∃ okP okQ A c A' c', Duo w base p r okP okQ t A c A' c'
theorem duo_mk {w : World} {base p r : Nat} {okP okQ : Nat → Prop} {t : TS} {A : Option Addr} {c : Nat} {A' : Option Addr} {c' : Nat} (hP : TNet w base p okP t A c) (hR : RNet w base r okQ t A' c')
    (hd : ∀ q, q < w.heap.size → okP q → ¬ okQ q) (hne : p ≠ r) (hb : base ≤ w.heap.size) : HDuo w base p r t :=
  ⟨_, _, A, c, A', c', hP.bound, hR.bound, fun q h1 h2 => hd q h1.2.2 h1.1 h2.1, fun q h => h.2, fun q h => h.2, hne, hb⟩
theorem Duo.below {w w' : World} {base p r : Nat} {okP okQ : Nat → Prop} {t : TS} {A : Option Addr} {c : Nat} {A' : Option Addr} {c' : Nat} (h : Duo w base p r okP okQ t A c A' c') (hb : Below w.heap.size w w') :
    Duo w' base p r okP okQ t A c A' c' :=
  ⟨h.P.below hb, h.R.below hb, h.dis, fun q hq => ⟨(h.bP q hq).1, Nat.lt_of_lt_of_le (h.bP q hq).2 hb.size⟩, fun q hq => ⟨(h.bQ q hq).1, Nat.lt_of_lt_of_le (h.bQ q hq).2 hb.size⟩, h.ne, Nat.le_trans h.hb hb.size⟩
theorem HDuo.below {w w' : World} {base p r : Nat} {t : TS} (h : HDuo w base p r t) (hb : Below w.heap.size w w') : HDuo w' base p r t := by
  obtain ⟨okP, okQ, A, c, A', c', h⟩ := h
  exact ⟨okP, okQ, A, c, A', c', h.below hb⟩
/-- How far the table has grown. -/
def NB (t : TS) (K : Nat) : Prop := t.l.length ≤ K ∧ Srt t
theorem nb_release {t : TS} {K : Nat} (h : NB t K) (pos : Int) : NB (t.release pos).2 (K + 1) := by
  refine ⟨?_, h.2.release pos⟩
  have h1 := h.1
  unfold TS.release
  split
  · exact Nat.le_succ_of_le h1
  · split
    · exact Nat.le_succ_of_le h1
    · exact Nat.le_trans (List.length_eraseIdx_le _ _) (Nat.le_succ_of_le h1)
theorem nb_ask {t : TS} {K : Nat} (h : NB t K) (pos : Int) (l : List Lk) : NB (t.ask pos l).2 (K + 1) := by
  refine ⟨?_, h.2.ask pos l⟩
  have h1 := h.1
  unfold TS.ask
  split
  · exact Nat.le_succ_of_le h1
  · split
    · exact Nat.le_succ_of_le h1
    · show (t.l ++ [_]).length ≤ K + 1
      rw [List.length_append, List.length_singleton]; omega
def PlPost (base p r : Nat) (K : Nat) (w : World) (e : Ending) (w' : World) : Prop :=
  e = .returned (.bool true) ∧ (∃ t, NB t (K + 1) ∧ HDuo w' base p r t) ∧ Mod w w' (fun q => q = p ∨ q = r ∨ base ≤ q)
abbrev opArgs (p r : Nat) (x : Opn) (B : Option Addr) (d : Nat) : Array Value := #[.pointer (some ⟨p, 0, none⟩), .pointer (some ⟨r, 0, none⟩), .agg #[.int .i64 x.what, .int .i64 x.pos, .slice B x.l.length d]]
set_option maxRecDepth 100000 in
set_option maxHeartbeats 8000000 in
theorem plays_free (t : TS) (x : Opn) (B : Option Addr) (d : Nat) (w : World) (base p r : Nat) (K : Nat) (hD0 : HDuo w base p r t) (hK : NB t K) (hK2 : K * 32 ≤ 140737488355000) (hw : x.what = 2) :
    Calls Try.prog 26 #[.pointer (some ⟨p, 0, none⟩), .pointer (some ⟨r, 0, none⟩), .agg #[.int .i64 x.what, .int .i64 x.pos, .slice B x.l.length d]] w (PlPost base p r K w) := by
  obtain ⟨okP, okQ, A, c, A', c', hD⟩ := hD0
  have NBK := Lib.hid hK
  have HW := Lib.hid hw
  have hlen : t.l.length * 32 ≤ 140737488355000 := by have := hK.1; omega
  obtain ⟨b5, hb5⟩ : ∃ q, q = w.heap.size := ⟨_, rfl⟩
  obtain ⟨W1, h1, k1, s1, B1⟩ := grow (W := w) hb5.symm #[.int .i64 x.what, .int .i64 x.pos, .slice B x.l.length d] 31
  have D := Aside0.mk hD
  have D1 := Aside0.mk (hD.below B1)
  have HB1 := Aside0.mk B1
  have K1 := Aside0.mk k1
  have H1 := Lib.hid h1
  have HB5 := Lib.hid hb5
  have q0 : W1.cell? ⟨b5, 0, none⟩ = some (.int .i64 x.what) := blk_cell k1 0
  have q1 : W1.cell? ⟨b5, 1, none⟩ = some (.int .i64 x.pos) := blk_cell k1 1
  have p1 : (x.what == 1) = false := int_beq_false (by omega)
  have p2 : (x.what == 2) = true := int_beq_true hw
  clear hD hK hw h1 k1 s1 B1 hb5
  go_enter Try.func26, Try.ntmps26
  go_upto_region 1 with (fail)
  rw [← H1.out, ← HB5.out]
  go_wp2_with fail
  refine (release_any t A c base p okP x.pos W1 D1.out.P D1.out.hb (by omega)).mono ?_
  rintro e w4 ⟨rfl, ⟨A4, c4, hN4⟩, hm4⟩
  have hS4 : ∀ q, w.heap.size ≤ q → ¬ (q = p ∨ okP q) := fun q hq h => h.elim (fun h => by have := D.out.P.pb; have := D.out.hb; omega) (fun h => by have := (D.out.bP q h).2; omega)
  have N4 := Aside0.mk hN4
  have R4 := Aside0.mk (D1.out.R.mod hm4 (fun h => h.elim (fun h => D.out.ne h.symm) (fun h => by have := (D.out.bP r h).1; have := D.out.R.pb; omega)) (fun q hq h => h.elim (fun h => by have := (D.out.bQ q hq).1; have := D.out.P.pb; omega) (fun h => D.out.dis q h hq)))
  have K4 := Aside0.mk (blk_mod K1.out hm4 (hS4 b5 (by rw [HB5.out]; exact Nat.le_refl _)))
  have M4 := Aside0.mk ((Mod.of_below (S := fun q => q = p ∨ q = r ∨ base ≤ q) HB1.out).trans (hm4.mono (fun q h => h.elim .inl (fun h => .inr (.inr (D.out.bP q h).1)))))
  have hb4 : base ≤ w4.heap.size := Nat.le_trans D1.out.hb hm4.size
  have q1 : w4.cell? ⟨b5, 1, none⟩ = some (.int .i64 x.pos) := blk_cell K4.out 1
  have HW4 := Lib.hid (Nat.le_trans HB1.out.size hm4.size)
  clear hN4 hm4 hS4 q0
  go_wp2_with fail
  refine (rfree_any t A' c' base r (fun q => okQ q ∨ w4.heap.size ≤ q) x.pos w4 (R4.out.wide (fun q h => .inl h) (fun h => h.elim R4.out.pok (fun h => by have := R4.out.pb; omega))) hb4 (fun k hk => .inr hk) (by omega) NBK.out.2).mono ?_
  rintro e w5 ⟨rfl, ⟨A5, c5, hN5⟩, hm5⟩
  have hM5 : Mod w4 w5 (fun q => q = r ∨ okQ q) := ⟨hm5.os, hm5.tape, hm5.output, hm5.size, fun i hi h => hm5.block i hi (fun hh => h (hh.imp (fun h => h) (fun hh => hh.elim (fun h => h) (fun hh => by omega))))⟩
  have P5 := Aside0.mk (N4.out.mod hM5 (fun h => h.elim (fun h => D.out.ne h) (fun h => by have := (D.out.bQ p h).1; have := D.out.P.pb; omega)) (fun q hq h => h.elim (fun h => by have := (D.out.bP q hq).1; have := D.out.R.pb; omega) (fun h => D.out.dis q hq h)))
  have R5 := Aside0.mk hN5
  have M5 := Aside0.mk (M4.out.trans (hM5.mono (fun q h => h.elim (fun h => .inr (.inl h)) (fun h => .inr (.inr (D.out.bQ q h).1)))))
  have hb5 : base ≤ w5.heap.size := Nat.le_trans hb4 hM5.size
  clear hN5 hm5 hM5 q1 p1 p2
  go_wp2_with fail
  go_ret
  refine ⟨by simp, ⟨_, nb_release NBK.out x.pos, duo_mk P5.out R5.out (fun q hq h1 h2 => h2.elim (fun h2 => D.out.dis q h1 h2) (fun h2 => by have := (D.out.bP q h1).2; have := HW4.out; omega)) D.out.ne hb5⟩, M5.out⟩
set_option maxRecDepth 100000 in
set_option maxHeartbeats 8000000 in
theorem plays_waits (t : TS) (x : Opn) (B : Option Addr) (d : Nat) (w : World) (base p r : Nat) (K : Nat) (hD0 : HDuo w base p r t) (hK : NB t K) (hK2 : K * 32 ≤ 140737488355000) (hw : x.what = 4) :
    Calls Try.prog 26 #[.pointer (some ⟨p, 0, none⟩), .pointer (some ⟨r, 0, none⟩), .agg #[.int .i64 x.what, .int .i64 x.pos, .slice B x.l.length d]] w (PlPost base p r K w) := by
  have HD0 := Aside0.mk hD0
  obtain ⟨okP, okQ, A, c, A', c', hD⟩ := hD0
  have NBK := Lib.hid hK
  have hlen : t.l.length * 32 ≤ 140737488355000 := by have := hK.1; omega
  obtain ⟨b5, hb5⟩ : ∃ q, q = w.heap.size := ⟨_, rfl⟩
  obtain ⟨W1, h1, k1, s1, B1⟩ := grow (W := w) hb5.symm #[.int .i64 x.what, .int .i64 x.pos, .slice B x.l.length d] 31
  have D1 := Aside0.mk (hD.below B1)
  have HB1 := Aside0.mk B1
  have K1 := Aside0.mk k1
  have H1 := Lib.hid h1
  have HB5 := Lib.hid hb5
  have q0 : W1.cell? ⟨b5, 0, none⟩ = some (.int .i64 x.what) := blk_cell k1 0
  have q1 : W1.cell? ⟨b5, 1, none⟩ = some (.int .i64 x.pos) := blk_cell k1 1
  have p1 : (x.what == 1) = false := int_beq_false (by omega)
  have p2 : (x.what == 2) = false := int_beq_false (by omega)
  have p3 : (x.what == 4) = true := int_beq_true hw
  clear hD hK hw h1 k1 s1 B1 hb5
  go_enter Try.func26, Try.ntmps26
  go_upto_region 1 with (fail)
  rw [← H1.out, ← HB5.out]
  go_wp2_with fail
  refine (waits_any t A c base p okP x.pos W1 D1.out.P (by omega)).mono ?_
  rintro e w4 ⟨v4, rfl, hv4, hb4⟩
  obtain ⟨V4, c4, rfl⟩ := Kd.R_slice hv4
  have HV4 := Aside0.mk (Kd.R_reads' hv4).2.2
  have D4 := Aside0.mk (D1.out.below hb4)
  have B4 := Aside0.mk (below_then HB1.out HB1.out.size hb4)
  have q1 : w4.cell? ⟨b5, 1, none⟩ = some (.int .i64 x.pos) := blk_cell (blk_below K1.out hb4) 1
  clear hv4 hb4 q0
  go_wp2_with fail
  refine (rwaits_any t A' c' base r okQ x.pos w4 D4.out.R (by omega) NBK.out.2).mono ?_
  rintro e w5 ⟨v5, rfl, hv5, hb5⟩
  obtain ⟨V5, c5, rfl⟩ := Kd.R_slice hv5
  have HV5 := Aside0.mk (Kd.R_reads' hv5).2.2
  have HV4' := Aside0.mk (Kd.C_below HV4.out hb5)
  have B5 := Aside0.mk (below_then B4.out B4.out.size hb5)
  clear hv5 hb5 q1
  go_wp2_with fail
  refine (ints_any V4 c4 (t.waits x.pos).1 V5 c5 (t.waits x.pos).1 w5 HV4'.out HV5.out).mono ?_
  rintro e w6 ⟨rfl, m6, rfl⟩
  rw [decide_eq_true rfl]
  go_wp2_with fail
  go_ret
  have hB6 := pw_below_drewN B5.out m6
  exact ⟨by simp, ⟨t, ⟨Nat.le_succ_of_le NBK.out.1, NBK.out.2⟩, HD0.out.below hB6⟩, Mod.of_below hB6⟩
end Go.Proofs.Ytajblhainchplaa

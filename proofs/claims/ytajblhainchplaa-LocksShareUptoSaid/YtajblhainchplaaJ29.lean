/- Layer 19: the walk of taken. -/
import Derived.Test.YtajblhainchplaaJ26
import Derived.Test.YtajblhainchplaaJ28
set_option linter.unusedVariables false
set_option linter.unusedSimpArgs false
namespace Go.Proofs.Ytajblhainchplaa
open Go.RowKit Go.Proofs.YtajblhainchplaaW.PrintWords Go.Proofs.YtajblhainchplaaW.PrintLast
theorem info29 : (Try.prog.info? 29).map (fun i => (i.zero, i.size, i.bytes)) = some (some (.slice none 0 0), 1, 24) := by kernel_rfl
/-- The table and what it took, each in blocks of its own. -/
structure TOk (w : World) (base p : Nat) (t : TS) (v : Value) (all : List (List Lk)) (okT okO : Nat → Prop) (A : Option Addr) (c : Nat) : Prop where
  T : TNet w base p okT t A c
  O : kLL.R 29 w base okO v all
  dis : ∀ q, okT q → ¬ okO q
  bT : ∀ q, okT q → base ≤ q ∧ q < w.heap.size
  bO : ∀ q, okO q → base ≤ q ∧ q < w.heap.size
  hb : base ≤ w.heap.size
def TO (w : World) (base p : Nat) (t : TS) (v : Value) (all : List (List Lk)) : Prop := ∃ okT okO A c, TOk w base p t v all okT okO A c
theorem to_mk {w : World} {base p : Nat} {t : TS} {v : Value} {all : List (List Lk)} {okT okO : Nat → Prop} {A : Option Addr} {c : Nat} (hT : TNet w base p okT t A c) (hO : kLL.R 29 w base okO v all) (hd : ∀ q, q < w.heap.size → okT q → ¬ okO q) (hb : base ≤ w.heap.size) : TO w base p t v all :=
  ⟨_, _, A, c, hT.bound, Kd.R_mono (Kd.R_bound hO) (fun q hq => (⟨hq.1, hq.2.1, hq.2.2.1⟩ : okO q ∧ base ≤ q ∧ q < w.heap.size)), fun q h1 h2 => hd q h1.2.2 h1.1 h2.1, fun q h => h.2, fun q h => h.2, hb⟩
theorem TO.start {w : World} {base p : Nat} (h : w.heap[p]? = some (.cells #[.slice none 0 0, .int .i64 (-1)] 58 (0, 0))) (hp : p < base) (hb : base ≤ w.heap.size) : TO w base p t0 (.slice none 0 0) [] :=
  to_mk (okT := fun _ => False) (okO := fun _ => False) (TNet.start h hp (fun h => h)) (Kd.R_nil _ _ _ _ _) (fun _ _ h _ => h) hb
theorem rows_of {α : Type} {d : Kd α} {e : TypeId} {xs : List α} {w0 w w' : World} {v : Value} {news : List Value} (ho : w'.ownsRow w.heap.size e d.sz v xs.length news) (hr : Reps (d.K w0) d.sz xs news)
    (hKM : ∀ x cs, d.K w0 x cs → ∀ (w' : World) (base : Nat) (ok' : Nat → Prop), d.M w' base ok' x cs) : d.R e w' w.heap.size (fun k => w.heap.size ≤ k) v xs :=
  Kd.R_mono (Kd.R_bound (show d.R e w' w.heap.size (fun _ => True) v xs from ⟨fun _ _ => trivial, news, ho, hr.imp_ (fun x cs h => hKM x cs h _ _ _)⟩)) (fun k hk => hk.2.1)
theorem taken_next {w5 w7 : World} {base p S n4 m : Nat} {t : TS} {v : Value} {all : List (List Lk)} {okT okO : Nat → Prop} {A : Option Addr} {c : Nat} (hT : TNet w5 base p (fun q => (okT q ∨ S ≤ q) ∧ base ≤ q ∧ q < n4) t A c)
    (hO : kLL.R 29 w7 base (fun q => okO q ∨ m ≤ q) v all) (hM : Mod w5 w7 okO) (dis : ∀ q, okT q → ¬ okO q) (bO : ∀ q, okO q → base ≤ q ∧ q < S) (hS : base ≤ w5.heap.size ∧ S ≤ n4 ∧ n4 ≤ m) : TO w7 base p t v all :=
  to_mk (hT.mod hM (fun h => by have := (bO p h).1; have := hT.pb; omega) (fun q hq h => hq.1.elim (fun h1 => dis q h1 h) (fun h1 => by have := (bO q h).2; omega))) hO
    (fun q hq h1 h2 => h2.elim (fun h => h1.1.elim (fun h3 => dis q h3 h) (fun h3 => by have := (bO q h).2; omega)) (fun h => by have := h1.2.2; omega)) (Nat.le_trans hS.1 hM.size)
theorem right_step {m m' : List Lk} {s : Lk} {q : Bool} (h : m' = m ++ [s]) (hr : True ↔ ¬ ∃ s ∈ m, ¬ RightL s) (hq : q = decide (RightL s)) : q = true ↔ ¬ ∃ s ∈ m', ¬ RightL s := by
  rw [hq, decide_eq_true_iff, h]
  have h1 := hr.1 trivial
  refine Iff.intro ?_ ?_
  · rintro hs ⟨y, hy, hn⟩
    rcases List.mem_append.1 hy with hy | hy
    · exact h1 ⟨y, hy, hn⟩
    · rw [List.mem_singleton.1 hy] at hn; exact hn hs
  · intro hn
    by_cases hs : RightL s
    · exact hs
    · exact (hn ⟨s, List.mem_append_right _ (List.mem_singleton.2 rfl), hs⟩).elim
theorem right_stay {m m' : List Lk} {s : Lk} (h : m' = m ++ [s]) (hr : false = true ↔ ¬ ∃ s ∈ m, ¬ RightL s) : false = true ↔ ¬ ∃ s ∈ m', ¬ RightL s := by
  have h1 : ∃ s ∈ m, ¬ RightL s := Classical.not_not.1 (fun hh => by have := hr.2 hh; cases this)
  obtain ⟨y, hy, hn⟩ := h1
  exact Iff.intro (fun h => by cases h) (fun hh => (hh ⟨y, by rw [h]; exact List.mem_append_left _ hy, hn⟩).elim)
set_option maxRecDepth 100000 in
set_option maxHeartbeats 8000000 in
theorem taken_any (asked : List (List Lk)) (A : Option Addr) (c : Nat) (base p : Nat) (W0 w : World) (hB0 : Below W0.heap.size W0 w) (hp0 : W0.heap.size ≤ p) (hT : TO w base p t0 (.slice none 0 0) []) (hC : kLL.C W0 A asked.length asked)
    (hz : ∀ x ∈ asked, x.length * 48 ≤ 140737488351232) (hn : asked.length ≤ 1048576) :
    Calls Try.prog 19 #[.pointer (some ⟨p, 0, none⟩), .slice A asked.length c] w fun e w' => ∃ v, e = .returned (.tuple #[v, .bool true]) ∧ ∃ t all, all.length = asked.length ∧ TK t asked.length all ∧ TO w' base p t v all ∧ Below W0.heap.size W0 w' := by
  have HC := Aside0.mk hC
  have HZ := Lib.hid hz
  have BW := Aside0.mk hB0
  have HT := Aside0.mk hT
  have hpb : p < base := by obtain ⟨_, _, _, _, h⟩ := hT; exact h.T.pb
  clear hC hz hB0 hT
  go_enter Try.func19, Try.ntmps19
  go_wp2_with fail
  go_loopg [6, 7] asked.length (fun gn v i wr => ∃ (k : Nat) (t : TS) (all : List (List Lk)), i = .int .i64 k ∧ Aside0 (k + gn = asked.length ∧ TK t k all ∧ all.length = k) ∧ Aside0 (TO wr base p t v all ∧ Below W0.heap.size W0 wr))
  case atStart => exact ⟨0, t0, [], rfl, ⟨by omega, TK.start, rfl⟩, ⟨HT.out, BW.out⟩⟩
  case round =>
    obtain ⟨k, t, all, rfl, ⟨hgn, hTK, hal⟩, hI⟩ := hrel
    have HGN := Lib.hid hgn
    have HTK := Lib.hid hTK
    have HAL := Lib.hid hal
    have hkl : k ≤ asked.length := by omega
    clear hgn hTK hal
    by_cases hk : k < asked.length
    · obtain ⟨ad, x, B, d, rfl, hx, hxm, hxt, x0, hxl, hCx⟩ := ll_at HC.out (Below.refl _ _) k hk
      have X0 := Aside0.mk x0
      have HCX := Aside0.mk hCx
      have hxz := HZ.out x hxm
      have hxn := hCx.2.1
      have p0 : (0 : Int) ≤ k := by omega
      have p1 : (k : Int) < asked.length := by omega
      have x1 := pw_cell_below hI.out.2 x0
      obtain ⟨okT, okO, A1, c1, hD⟩ := hI.out.1
      have D := Aside0.mk hD
      have BR := Aside0.mk hI.out.2
      have hlen : t.l.length ≤ k := HTK.out.len
      obtain ⟨er, her⟩ : ∃ n, n = (t.ask k x).1 := ⟨_, rfl⟩
      have HER := Lib.hid her
      have hfr : ∀ q, wr.heap.size ≤ q → okT q ∨ wr.heap.size ≤ q := fun q h => .inr h
      clear hx hxm hxt x0 hCx hD hI
      go_wp2_with fail
      refine (ask_any t A1 c1 base p (fun q => okT q ∨ wr.heap.size ≤ q) k x B d wr (D.out.T.wide (fun q h => .inl h) (fun h => h.elim D.out.T.pok (fun h => by have := D.out.hb; omega))) D.out.hb hfr (Kd.C_below HCX.out BR.out) (by omega) (by omega)).mono ?_
      rintro e w4 ⟨rfl, ⟨A4, c4, hN4⟩, hm4⟩
      obtain ⟨S, hS⟩ : ∃ S, S = wr.heap.size := ⟨_, rfl⟩
      have hM4 : Mod wr w4 (fun q => q = p ∨ okT q) := ⟨hm4.os, hm4.tape, hm4.output, hm4.size, fun i hi h => hm4.block i hi (fun hh => h (hh.imp (fun h => h) (fun hh => hh.elim (fun h => h) (fun hh => by omega))))⟩
      have N4 := Aside0.mk hN4.bound
      have O4 := Aside0.mk (Kd.R_step D.out.O (w1 := w4) (fun q hq hl => hM4.block q hl (fun h => h.elim (fun h => by have := (D.out.bO q hq).1; omega) (fun h => D.out.dis q h hq))))
      have BW4 := Aside0.mk (Mod.below BR.out hM4 BR.out.size (fun i hi => hi.elim (fun h => by omega) (fun h => by have := (D.out.bT i h).1; omega)))
      have HS4 := Lib.hid (show base ≤ S ∧ S ≤ w4.heap.size from ⟨by rw [hS]; exact D.out.hb, by rw [hS]; exact hM4.size⟩)
      have DIS := Lib.hid D.out.dis
      have BO := Lib.hid (show ∀ q, okO q → base ≤ q ∧ q < S by rw [hS]; exact D.out.bO)
      rw [← hS] at N4
      rw [← her]
      obtain ⟨t', ht'⟩ : ∃ u, u = (t.ask k x).2 := ⟨_, rfl⟩
      rw [← ht'] at N4
      have HT' := Lib.hid ht'
      clear hN4 hm4 hM4 her hfr x1 D BR hS ht'
      go_wp2_with fail
      go_loopg [9, 10] x.length (fun gn b j wq => ∃ (m : Nat) (r : Bool), b = .bool r ∧ j = .int .i64 m ∧ Aside0 (m + gn = x.length ∧ (r = true ↔ ¬ ∃ s ∈ x.take m, ¬ RightL s)) ∧ Aside0 (Below w4.heap.size w4 wq))
      case atStart => exact ⟨0, true, rfl, rfl, ⟨by omega, by simp⟩, ⟨Below.refl _ _⟩⟩
      case round =>
        obtain ⟨m, r, rfl, rfl, ⟨hgn, hr⟩, hB⟩ := hrel
        have HGN2 := Lib.hid hgn
        have HR := Lib.hid hr
        have BQ := Aside0.mk (below_then BW4.out BW4.out.size hB.out)
        have x1 := pw_cell_below BQ.out X0.out
        clear hgn hr
        by_cases hm : m < x.length
        · obtain ⟨bd, s, rfl, hs, hsm, hst, r0, r1, r2, r3⟩ := lk_at HCX.out BQ.out m hm
          have HST := Lib.hid hst
          have p2 : (0 : Int) ≤ m := by omega
          have p3 : (m : Int) < x.length := by omega
          clear hs hsm hst
          go_wp2_with fail
          cases r with
          | true =>
            go_wp2_with fail
            refine (rright_any s wr).mono ?_
            rintro e w5 ⟨rfl, hb5⟩
            have B5 := Aside0.mk (below_then hB.out hB.out.size hb5)
            obtain ⟨q, hq⟩ : ∃ q, q = decide (RightL s) := ⟨_, rfl⟩
            rw [← hq]
            have HQ := Lib.hid hq
            clear hq hb5
            go_wp2_with fail
            go_roundg (x.length - (m + 1))
            case measure => have := HGN2.out; omega
            case rel => exact ⟨m + 1, q, rfl, by go_num, ⟨by have := HGN2.out; omega, right_step HST.out HR.out HQ.out⟩, B5⟩
          | false =>
            go_wp2_with fail
            refine (rright_any s wr).mono ?_
            rintro e w5 ⟨rfl, hb5⟩
            have B5 := Aside0.mk (below_then hB.out hB.out.size hb5)
            obtain ⟨q, hq⟩ : ∃ q, q = decide (RightL s) := ⟨_, rfl⟩
            rw [← hq]
            have HQ := Lib.hid hq
            clear hq hb5
            go_wp2_with fail
            go_roundg (x.length - (m + 1))
            case measure => have := HGN2.out; omega
            case rel => exact ⟨m + 1, false, rfl, by go_num, ⟨by have := HGN2.out; omega, right_stay HST.out HR.out⟩, B5⟩
        · have p3 : ¬ (m : Int) < x.length := by omega
          have hxt : x.take m = x := List.take_of_length_le (by omega)
          have hr := HR.out
          rw [hxt] at hr
          have O5 := Aside0.mk (Kd.R_below O4.out hB.out)
          have N5 := Aside0.mk (N4.out.below hB.out)
          have hS5 : base ≤ wr.heap.size ∧ S ≤ w4.heap.size ∧ w4.heap.size ≤ wr.heap.size := ⟨by have := HS4.out; have := hB.out.size; omega, HS4.out.2, hB.out.size⟩
          have HS5 := Lib.hid hS5
          have hlA : all.length ≤ 1048576 := by have := HAL.out; omega
          clear hS5
          by_cases hR : ∃ s ∈ x, ¬ RightL s
          · obtain rfl : r = false := by cases r with
              | false => rfl
              | true => exact absurd hR (hr.1 rfl)
            have HTN := HTK.out.no HAL.out hR
            obtain rfl : er = 190 := HER.out.trans HTN.1
            have HTN2 := HTN.2
            rw [← HT'.out] at HTN2
            have HTK2 := Lib.hid HTN2
            clear hr hR HTN HTN2
            go_wp2_with (at_builtin; go_loud (refine Kd.R_append kLL (w0 := wr) base rfl (.tmp 58) (.tmp 60) 27 29 _ 24 rfl Try.underlying27 info29 rfl (by decide) (by omega) _ all [] [.slice none 0 0] (fun q => okO q ∨ wr.heap.size ≤ q) (fun _ => False) rfl rfl ?aP (fun _ hk => hk.elim) ?aF ?aO ?aB ?aS ?aL ?_); (case aP => exact ⟨_, rfl, Kd.R_nil _ _ _ _ _⟩); (case aF => exact fun i hi => .inr hi); (case aO => exact Kd.R_mono O5.out (fun _ h => .inl h)); (case aB => exact Below.refl _ _); (case aS => exact HS5.out.1); (case aL => omega); intro v7 w7 ho7 hb7 hg7 hat7; have HO7 := Aside0.mk ho7; have HM7 : Aside0 (Mod wr w7 okO) := ⟨⟨hb7.os, hb7.tape, hb7.output, hg7.size, fun i hi hn => hg7.block i hi (fun he => hn (O5.out.1 i he.symm))⟩⟩; clear ho7 hb7 hg7 hat7)
            go_roundg (asked.length - (k + 1))
            case measure => have := HGN.out; omega
            case rel => exact ⟨k + 1, t', all ++ [[]], by go_num, ⟨by have := HGN.out; omega, HTK2.out, by rw [List.length_append, List.length_singleton, HAL.out]⟩, ⟨taken_next N5.out HO7.out HM7.out DIS.out BO.out HS5.out, Mod.below BQ.out HM7.out BQ.out.size (fun i hi => by have := (BO.out i hi).1; omega)⟩⟩
          · obtain rfl : r = true := hr.2 hR
            have HTN := HTK.out.yes HAL.out hR
            obtain rfl : er = 0 := HER.out.trans HTN.1
            have HTN2 := HTN.2
            rw [← HT'.out] at HTN2
            have HTK2 := Lib.hid HTN2
            clear hr hR HTN HTN2
            obtain ⟨news, hnr, hnl, hnA, hnc⟩ := reads_cells (Kd.C_below HCX.out BQ.out)
            have h1 := reps_one hnr (by decide)
            have HNR := Aside0.mk hnr
            have HNL := Lib.hid hnl
            have HNA := Lib.hid hnA
            have HNC := Lib.hid hnc
            have HONE := Lib.hid h1
            clear hnr hnl hnA hnc h1
            go_wp2_with (first | ((with_reducible refine gate_append (xs := #[.tmp 52, .tmp 56]) rfl ?_); go_loud (refine own_append_all (w0 := wr) wr.heap.size rfl (.tmp 52) (.tmp 56) 29 23 _ 4 48 rfl Try.underlying29 info23 rfl (by decide) (by decide) _ 0 [] B x.length d news rfl rfl (own_nil _ _ _ _) HNL.out HNA.out HNC.out HONE.out (Below.refl _ _) (Nat.le_refl _) (by omega) ?_); intro v6 w6 ho hb hg hat; rw [Nat.zero_add, List.nil_append] at ho; have hR6 := rows_of ho HNR.out (fun _ _ h _ _ _ => kLk_M.2 (kLk_K.1 h)); obtain ⟨V6, c6, hv6⟩ := Kd.R_slice hR6; subst hv6; have R6 := Aside0.mk hR6; have B6 := Aside0.mk hb; have O6 := Aside0.mk (Kd.R_below O5.out hb); have N6 := Aside0.mk (N5.out.below hb); have HS6 := Lib.hid (show base ≤ w6.heap.size ∧ wr.heap.size ≤ w6.heap.size from ⟨Nat.le_trans HS5.out.1 hb.size, hb.size⟩); clear ho hb hg hat hR6) | (at_builtin; go_loud (refine Kd.R_append kLL (w0 := w6) base rfl (.tmp 58) (.tmp 60) 27 29 _ 24 rfl Try.underlying27 info29 rfl (by decide) (by omega) _ all x [.slice V6 x.length c6] (fun q => okO q ∨ wr.heap.size ≤ q) (fun q => wr.heap.size ≤ q) rfl rfl ?aP ?aK ?aF ?aO ?aB ?aS ?aL ?_); (case aP => exact ⟨_, rfl, Kd.R_lower R6.out HS5.out.1⟩); (case aK => exact fun i hi => ⟨.inr hi, fun he => by have h1 := Kd.R_lt O5.out i he.symm; omega⟩); (case aF => exact fun i hi => .inr (Nat.le_trans HS6.out.2 hi)); (case aO => exact Kd.R_mono O6.out (fun _ h => .inl h)); (case aB => exact Below.refl _ _); (case aS => exact HS6.out.1); (case aL => omega); intro v7 w7 ho7 hb7 hg7 hat7; have HO7 := Aside0.mk ho7; have HM7 : Aside0 (Mod w6 w7 okO) := ⟨⟨hb7.os, hb7.tape, hb7.output, hg7.size, fun i hi hn => hg7.block i hi (fun he => hn (O6.out.1 i he.symm))⟩⟩; clear ho7 hb7 hg7 hat7))
            go_roundg (asked.length - (k + 1))
            case measure => have := HGN.out; omega
            case rel => exact ⟨k + 1, t', all ++ [x], by go_num, ⟨by have := HGN.out; omega, HTK2.out, by rw [List.length_append, List.length_singleton, HAL.out]⟩, ⟨taken_next N6.out HO7.out HM7.out DIS.out BO.out ⟨HS6.out.1, HS5.out.2⟩, Mod.below (below_then BQ.out BQ.out.size B6.out) HM7.out (Nat.le_trans BQ.out.size HS6.out.2) (fun i hi => by have := (BO.out i hi).1; omega)⟩⟩
    · have p1 : ¬ (k : Int) < asked.length := by omega
      go_wp2_with fail
      obtain rfl : k = asked.length := by omega
      refine bodyPost_ret (results_list (rs := [_, _]) rfl (by simp) (.tmp (.tmp .nil))) rfl ⟨_, rfl, t, all, HAL.out, HTK.out, hI.out.1, hI.out.2⟩
end Go.Proofs.Ytajblhainchplaa

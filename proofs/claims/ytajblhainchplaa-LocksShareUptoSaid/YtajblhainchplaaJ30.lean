/- Layer 19: the walk of the law LocksEnd. -/
import Derived.Test.YtajblhainchplaaJ29
import Derived.Deep.CutRange
set_option linter.unusedVariables false
set_option linter.unusedSimpArgs false
namespace Go.Proofs.Ytajblhainchplaa
open Go.RowKit Go.Proofs.YtajblhainchplaaW.PrintWords Go.Proofs.YtajblhainchplaaW.PrintLast Go.Proofs.Ytajblhainchplaa.Opn
theorem info31 : (Try.prog.info? 31).map (fun i => (i.zero, i.size, i.bytes)) = some (some (.agg #[.int .i64 0, .int .i64 0, .slice none 0 0]), 3, 40) := by kernel_rfl
/-- The script that is made of what is asked: its locks are those that came in. -/
def opsOf (asked : List (List Lk)) : List Opn := asked.map (fun l => ⟨0, 0, l⟩)
theorem opsOf_step {asked : List (List Lk)} {k : Nat} {x : List Lk} (h : asked.take (k + 1) = asked.take k ++ [x]) : opsOf (asked.take (k + 1)) = opsOf (asked.take k) ++ [⟨0, 0, x⟩] := by
  unfold opsOf; rw [h, List.map_append]; rfl
theorem opsOf_len (asked : List (List Lk)) : (opsOf asked).length = asked.length := List.length_map _
def LLZ (xs : List (List Lk)) : Prop := xs.length * 24 ≤ 140737488351232 ∧ ∀ x ∈ xs, x.length * 48 ≤ 140737488351232 ∧ ∀ s ∈ x, LkZ s
theorem opsOf_Z {asked : List (List Lk)} (h : LLZ asked) : ∀ x ∈ opsOf asked, x.l.length * 48 ≤ 140737488351232 ∧ ∀ s ∈ x.l, s.lo.size ≤ 140737488351232 ∧ s.hi.size ≤ 140737488351232 := by
  intro x hx
  obtain ⟨l, hl, rfl⟩ := List.mem_map.1 hx
  exact h.2 l hl
theorem fixed_C {W w : World} {base : Nat} {ok : Nat → Prop} {A : Option Addr} {c : Nat} {xs : List Opn} (hb : Below W.heap.size W w) (h : (Kd.fixed kOp W).R 31 w base ok (.slice A xs.length c) xs) : kOp.C w A xs.length xs :=
  (Kd.R_reads' h).2.2.imp_ (Below.refl _ _) (fun _ _ hx => kOp.K_below hb hx)
/-- The memory at a turn: the table, what it took, what was freed, what was granted before. -/
structure EW (w : World) (S base p : Nat) (okT okO : Nat → Prop) (t : TS) (U : Option Addr) (uc : Nat) (all : List (List Lk)) (vf vb : Value) (freed before : List Int) : Prop where
  T : ∃ A c, TNet w base p okT t A c
  O : kLL.R 29 w base okO (.slice U all.length uc) all
  F : (Kd.int .i64).R 3 w S (fun q => S ≤ q ∧ some q ≠ vb.ownBlock) vf freed
  B : (Kd.int .i64).R 3 w S (fun q => S ≤ q) vb before
  sz : S ≤ w.heap.size
theorem EW.below {w w' : World} {S base p : Nat} {okT okO : Nat → Prop} {t : TS} {U : Option Addr} {uc : Nat} {all : List (List Lk)} {vf vb : Value} {freed before : List Int} (h : EW w S base p okT okO t U uc all vf vb freed before) (hb : Below w.heap.size w w') :
    EW w' S base p okT okO t U uc all vf vb freed before :=
  ⟨by obtain ⟨A, c, hT⟩ := h.T; exact ⟨A, c, hT.below hb⟩, Kd.R_below h.O hb, Kd.R_below h.F hb, Kd.R_below h.B hb, Nat.le_trans h.sz hb.size⟩
theorem int_ok {w : World} {base : Nat} {ok ok' : Nat → Prop} {v : Value} {xs : List Int} (h : (Kd.int .i64).R 3 w base ok v xs) (h' : ∀ k, v.ownBlock = some k → ok' k) : (Kd.int .i64).R 3 w base ok' v xs :=
  ⟨h', h.2.imp_ (fun _ _ hp => hp)⟩
theorem EW.mk' {w10 w7 : World} {S base p : Nat} {okT okO : Nat → Prop} {t : TS} {U : Option Addr} {uc : Nat} {all : List (List Lk)} {v7 vg : Value} {fr rs : List Int} {A : Option Addr} {c : Nat} (hT : TNet w10 base p okT t A c) (hO : kLL.R 29 w10 base okO (.slice U all.length uc) all)
    (hR : (Kd.int .i64).R 3 w10 S (fun q => S ≤ q) vg rs) (hF : (Kd.int .i64).R 3 w7 S (fun q => S ≤ q ∧ some q ≠ vg.ownBlock) v7 fr) (hM : Mod w10 w7 (fun q => S ≤ q ∧ some q ≠ vg.ownBlock)) (bT : ∀ q, okT q → base ≤ q ∧ q < S) (bO : ∀ q, okO q → base ≤ q ∧ q < S) (hS : p < base ∧ base ≤ S) (hz : S ≤ w10.heap.size) :
    EW w7 S base p okT okO t U uc all v7 vg fr rs :=
  ⟨⟨A, c, hT.mod hM (fun h => by have := h.1; omega) (fun q hq h => by have := (bT q hq).2; have := h.1; omega)⟩, Kd.R_step hO (fun q hq hl => hM.block q hl (fun h => by have := (bO q hq).2; have := h.1; omega)), hF,
    int_ok (ok := fun q => S ≤ q ∧ some q = vg.ownBlock) (Kd.R_step (int_ok hR (fun k hk => ⟨hR.1 k hk, hk.symm⟩)) (fun q hq hl => hM.block q hl (fun h => h.2 hq.2))) (fun k hk => hR.1 k hk), Nat.le_trans hz hM.size⟩
theorem addr_block (a : Addr) (i : Nat) : (a.add i).block = a.block := by unfold Addr.add; split <;> rfl
theorem own_block_le {w : World} {b S : Nat} {ad : Addr} {c : Nat} {xs : List Int} (h : (Kd.int .i64).R 3 w b (fun q => b ≤ q) (.slice (some ad) xs.length c) xs) (hS : S ≤ b) (hn : 0 < xs.length) : S ≤ ad.block := by
  obtain ⟨g, cap, hv, _, _, _⟩ := Kd.R_form h hn
  injection hv with h1 _ _
  injection h1 with h1
  subst h1
  exact Nat.le_trans hS (h.1 g rfl)
theorem pick_neg {v : Int} {n : Nat} (h0 : 0 < n) (hn : n ≤ 1048576) (h : v.tmod n < 0) : ∃ k : Nat, k < n ∧ wrap64 (v.tmod n + n) = k := by
  have h1 := Int.lt_tmod_of_pos v (show (0 : Int) < n by omega)
  refine ⟨(v.tmod n + n).toNat, by omega, ?_⟩
  rw [IntWalk.wrap64_in _ (by omega)]; omega
theorem pick_pos {v : Int} {n : Nat} (h0 : 0 < n) (h : ¬ v.tmod n < 0) : ∃ k : Nat, k < n ∧ v.tmod n = k := by
  have h1 := Int.tmod_lt_of_pos v (show (0 : Int) < n by omega)
  exact ⟨(v.tmod n).toNat, by omega, by omega⟩
set_option maxRecDepth 100000 in
set_option maxHeartbeats 16000000 in
theorem locksEnd_any (A : Option Addr) (n1 c : Nat) (asked : List (List Lk)) (B : Option Addr) (n2 d : Nat) (picks : List Int) (W : World) (hC : kLL.C W A n1 asked) (hP : (Kd.int .i64).C W B n2 picks) (hZ : LLZ asked) (hn : asked.length ≤ 1048576) :
    Calls Try.prog 5 #[.slice A n1 c, .slice B n2 d] W fun e W' => e = .returned (.bool true) ∧ Below W.heap.size W W' := by
  obtain rfl : asked.length = n1 := hC.1
  obtain rfl : picks.length = n2 := hP.1
  have HC := Aside0.mk hC
  have HP := Aside0.mk hP
  have HZ := Lib.hid hZ
  have hpn := hP.2.1
  clear hC hZ hP
  go_enter Try.func5, Try.ntmps5
  go_wp2_with fail
  go_loopg [5, 6] asked.length (fun gn v i wr => ∃ k : Nat, i = .int .i64 k ∧ Aside0 (k + gn = asked.length) ∧ Aside0 ((Kd.fixed kOp W).R 31 wr W.heap.size (fun q => W.heap.size ≤ q) v (opsOf (asked.take k)) ∧ Below W.heap.size W wr))
  case atStart => exact ⟨0, rfl, ⟨by omega⟩, ⟨Kd.R_nil _ _ _ _ _, Below.refl _ _⟩⟩
  case round =>
    obtain ⟨k, rfl, ⟨hgn⟩, hI⟩ := hrel
    have HGN := Lib.hid hgn
    clear hgn
    by_cases hk : k < asked.length
    · obtain ⟨ad, x, X, xd, rfl, hx, hxm, hxt, x0, hxl, hCx⟩ := ll_at HC.out (Below.refl _ _) k hk
      have x1 := pw_cell_below hI.out.2 x0
      have HXT := Lib.hid (opsOf_step hxt)
      obtain ⟨L, hL⟩ : ∃ L, L = opsOf (asked.take k) := ⟨_, rfl⟩
      have hLl : L.length ≤ k := by rw [hL, opsOf_len, List.length_take]; omega
      have hI2 := hI.out
      rw [← hL] at hI2
      have HI2 := Aside0.mk hI2
      have HL := Lib.hid hL
      have HM : Aside0 ((Kd.fixed kOp W).M wr W.heap.size (fun _ => False) ⟨0, 0, x⟩ [.int .i64 0, .int .i64 0, .slice X x.length xd]) := ⟨kOp_K.2 ⟨X, xd, rfl, hxl, hCx⟩⟩
      have p0 : (0 : Int) ≤ k := by omega
      have p1 : (k : Int) < asked.length := by omega
      clear hx hxm hxt x0 hCx hI2 hL hI
      go_wp2_with (at_builtin; go_loud (refine Kd.R_append (Kd.fixed kOp W) (w0 := wr) W.heap.size rfl (.tmp 30) (.tmp 36) 28 31 _ 40 rfl Try.underlying28 info31 rfl (show 0 < 3 by decide) (by omega) _ L ⟨0, 0, x⟩ [.int .i64 0, .int .i64 0, .slice X x.length xd] (fun q => W.heap.size ≤ q) (fun _ => False) rfl rfl ?aP (fun _ hk => hk.elim) ?aF ?aO ?aB ?aS ?aL ?_); (case aP => exact HM.out); (case aF => exact fun i hi => Nat.le_trans HI2.out.2.size hi); (case aO => exact HI2.out.1); (case aB => exact Below.refl _ _); (case aS => exact HI2.out.2.size); (case aL => omega); intro v7 w7 ho7 hb7 hg7 hat7; have HO7 := Aside0.mk ho7; have HB7 := Aside0.mk (HI2.out.2.trans hb7); clear ho7 hb7 hg7 hat7)
      go_roundg (asked.length - (k + 1))
      case measure => have := HGN.out; omega
      case rel => exact ⟨k + 1, by go_num, ⟨by have := HGN.out; omega⟩, ⟨by have h1 := HO7.out; rw [HL.out, ← HXT.out] at h1; exact h1, HB7.out⟩⟩
    · have p1 : ¬ (k : Int) < asked.length := by omega
      obtain ⟨L, hL⟩ : ∃ L, L = opsOf asked := ⟨_, rfl⟩
      have hI2 := hI.out
      rw [List.take_of_length_le (by omega), ← hL] at hI2
      obtain ⟨V, vc, hv⟩ := Kd.R_slice hI2.1
      subst hv
      have hLl : L.length = asked.length := by rw [hL, opsOf_len]
      have B0 := Aside0.mk hI2.2
      have HS := Aside0.mk (fixed_C hI2.2 hI2.1)
      have HSZ := Lib.hid (opsOf_Z HZ.out)
      rw [← hL] at HSZ
      have HLX := Lib.hid hL
      have hLz : L.length * 40 ≤ 140737488351232 := by omega
      clear hI hI2 hL hLl
      go_wp2_with fail
      refine (weighs_any V vc L wr HS.out hLz HSZ.out).mono ?_
      rintro e w1 ⟨⟨n, rfl⟩, m1, hw1⟩
      have B1 : Aside0 (Below W.heap.size W w1) := ⟨by rw [hw1]; exact pw_below_drewN B0.out m1⟩
      clear hw1
      by_cases hw : 2147483647 < n
      · go_wp2_with fail
        go_ret
        exact ⟨rfl, B1.out⟩
      · by_cases hpk : 2147483647 < picks.length
        · have hpk' : (2147483647 : Int) < picks.length := by omega
          go_wp2_with fail
          go_ret
          exact ⟨rfl, B1.out⟩
        · have hpk' : ¬ (2147483647 : Int) < picks.length := by omega
          go_wp2_with fail
          refine (awake_any w1).mono ?_
          rintro e w2 ⟨rfl, hb2⟩
          have B2 := Aside0.mk (below_then B1.out B1.out.size hb2)
          clear hb2
          go_wp2_with fail
          refine (new_any w2).mono ?_
          rintro e w3 ⟨rfl, hp3, hs3, hb3⟩
          obtain ⟨p, hp⟩ : ∃ q, q = w2.heap.size := ⟨_, rfl⟩
          rw [← hp] at hp3 hs3 ⊢
          obtain ⟨base, hbase⟩ : ∃ b, b = w3.heap.size := ⟨_, rfl⟩
          have B3 := Aside0.mk (below_then B2.out B2.out.size hb3)
          have hpW : W.heap.size ≤ p := by have := B2.out.size; omega
          have T3 := Aside0.mk (TO.start (base := base) hp3 (by omega) (by omega))
          have HBASE := Lib.hid hbase
          clear hp hp3 hs3 hb3 hbase
          go_wp2_with fail
          refine (taken_any asked A c base p W w3 B3.out hpW T3.out HC.out (fun x hx => (HZ.out.2 x hx).1) hn).mono ?_
          rintro e w4 ⟨v, rfl, t, all, hal, hTK, hTO, hb4⟩
          obtain ⟨okT, okO, A1, c1, hD⟩ := hTO
          obtain ⟨U, uc, hv⟩ := Kd.R_slice hD.O
          subst hv
          obtain ⟨S, hS⟩ : ∃ S, S = w4.heap.size := ⟨_, rfl⟩
          have HS := Lib.hid (show p < base ∧ base ≤ S from ⟨hD.T.pb, by rw [hS]; exact hD.hb⟩)
          have DIS := Lib.hid hD.dis
          have BT := Lib.hid (show ∀ q, okT q → base ≤ q ∧ q < S by rw [hS]; exact hD.bT)
          have BO := Lib.hid (show ∀ q, okO q → base ≤ q ∧ q < S by rw [hS]; exact hD.bO)
          have hE0 : EW w4 S base p okT okO t U uc all (.slice none 0 0) (.slice none 0 0) [] [] := ⟨⟨A1, c1, hD.T⟩, hD.O, Kd.R_nil _ _ _ _ _, Kd.R_nil _ _ _ _ _, by rw [hS]; exact Nat.le_refl _⟩
          have E0 := Aside0.mk hE0
          rw [← hal] at hTK
          have EI0 := Aside0.mk (EI.start hTK)
          have B4 := Aside0.mk hb4
          have haln : all.length ≤ 1048576 := by omega
          clear hD hTK hb4 hal hS hE0
          go_wp2_with fail
          go_loopg [12, 13, 14] (all.length + 1) (fun gn vf vb tn wr => ∃ (n : Nat) (t : TS) (freed before : List Int), tn = .int .i64 n ∧ Aside0 (n + gn = all.length + 1 ∧ EI t all freed before n) ∧ Aside0 (EW wr S base p okT okO t U uc all vf vb freed before ∧ Below W.heap.size W wr))
          case atStart => exact ⟨0, t, [], [], rfl, ⟨by omega, EI0.out⟩, ⟨E0.out, B4.out⟩⟩
          case round =>
            obtain ⟨n, t, freed, before, rfl, ⟨hgn, hEI⟩, hI⟩ := hrel
            have HGN := Lib.hid hgn
            have EIN := Lib.hid hEI
            obtain ⟨G, gc, hvb⟩ := Kd.R_slice hI.out.1.B
            subst hvb
            obtain ⟨F, fc, hvf⟩ := Kd.R_slice hI.out.1.F
            subst hvf
            obtain ⟨A1, c1, hT⟩ := hI.out.1.T
            have hT0 := Aside0.mk hT
            have E1 := Aside0.mk hI.out.1
            have BW1 := Aside0.mk hI.out.2
            have htl : t.l.length ≤ 1048576 := by have := hEI.len; omega
            have p0 : (0 : Int) ≤ n := by omega
            have p1 : (n : Int) ≤ all.length := by have := hEI.len; omega
            obtain ⟨ls, hls⟩ : ∃ ls, ls = t.l.map (fun q : Plc => q.pos) := ⟨_, rfl⟩
            have HLS := Lib.hid hls
            obtain ⟨rs, hrs⟩ : ∃ rs, rs = t.ready := ⟨_, rfl⟩
            have HRS := Lib.hid hrs
            have hrl : rs.length ≤ 1048576 := by rw [hrs]; exact Nat.le_trans (readyL_len _ _) htl
            have hfl : freed.length ≤ 1048577 := by have := hEI.fl; have := hEI.len; omega
            have htr : t.l.length * 32 ≤ 140737488355320 := by omega
            clear hgn hEI hI hT hls hrs htl
            go_wp2_with fail
            refine (held_any t A1 c1 base p okT wr hT0.out (by omega)).mono ?_
            rintro e w5 ⟨v5, rfl, hv5, hb5⟩
            rw [← HLS.out] at hv5
            obtain ⟨V5, k5, rfl⟩ := Kd.R_slice hv5
            have C5 := Aside0.mk (Kd.R_reads' hv5).2.2
            have E5 := Aside0.mk (E1.out.below hb5)
            have T5 := Aside0.mk (hT0.out.below hb5)
            have BW5 := Aside0.mk (below_then BW1.out BW1.out.size hb5)
            clear hv5 hb5
            go_wp2_with fail
            refine (ready_any t A1 c1 base p okT w5 T5.out (by omega)).mono ?_
            rintro e w6 ⟨v6, rfl, hv6, hb6⟩
            rw [← HRS.out] at hv6
            obtain ⟨V6, k6, rfl⟩ := Kd.R_slice hv6
            have R6 := Aside0.mk hv6
            have C6 := Aside0.mk (Kd.R_reads' hv6).2.2
            have C56 := Aside0.mk (Kd.C_below C5.out hb6)
            have E6 := Aside0.mk (E5.out.below hb6)
            have T6 := Aside0.mk (T5.out.below hb6)
            have BW6 := Aside0.mk (below_then BW5.out BW5.out.size hb6)
            have FN := Lib.hid (fun q hq => Kd.R_lt E5.out.F q hq)
            have S5 := Lib.hid E5.out.sz
            have S6 := Lib.hid hb6.size
            clear hv6 hb6
            by_cases hemp : t.l = []
            · have hl0 : ls.length = 0 := by rw [HLS.out, hemp]; rfl
              have pe : ((ls.length : Int) == 0) = true := int_beq_true (by omega)
              go_wp2_with fail
              refine (held_any t A1 c1 base p okT w6 T6.out (by omega)).mono ?_
              rintro e w7 ⟨v7, rfl, hv7, hb7⟩
              rw [← HLS.out] at hv7
              obtain ⟨V7, k7, rfl⟩ := Kd.R_slice hv7
              have BW7 := Aside0.mk (below_then BW6.out BW6.out.size hb7)
              clear hv7 hb7
              go_wp2_with fail
              go_ret
              exact ⟨rfl, BW7.out⟩
            · obtain ⟨hr0, hrh⟩ := EIN.out.head hemp
              rw [← HRS.out] at hr0 hrh
              rw [← HLS.out] at hrh
              have hln : 0 < ls.length := by rw [HLS.out, List.length_map]; exact List.length_pos_iff.2 hemp
              have pe : ((ls.length : Int) == 0) = false := int_beq_false (by omega)
              have pr : ((rs.length : Int) == 0) = false := int_beq_false (by omega)
              obtain ⟨ad6, g0, rfl, hg0, hgm, _, q6⟩ := int_el C6.out (Below.refl _ _) 0 hr0
              obtain ⟨ad5, o0, rfl, ho0, hom, _, q5⟩ := int_el C56.out (Below.refl _ _) 0 hln
              obtain rfl : g0 = o0 := by rw [← hg0, ← ho0, hrh]
              go_wp2_with fail
              have pz6 : (0 : Int) < rs.length := by omega
              have pz5 : (0 : Int) < ls.length := by omega
              replace q6 : w6.cell? ad6 = some (.int .i64 g0) := q6
              replace q5 : w6.cell? ad5 = some (.int .i64 g0) := q5
              go_quiet (fail)
              clear q5 q6
              go_wp2_with fail
              have CG := Aside0.mk (Kd.R_reads' E6.out.B).2.2
              have CF := Aside0.mk (Kd.R_reads' E6.out.F).2.2
              have hbn := (Kd.R_reads' E6.out.B).2.2.2.1
              go_loopg [17] before.length (fun gn i wq => ∃ m : Nat, i = .int .i64 m ∧ Aside0 (m + gn = before.length) ∧ Drawn0 w6 wq)
              case atStart => exact ⟨0, rfl, ⟨by omega⟩, ⟨⟨_, rfl⟩⟩⟩
              case round =>
                obtain ⟨m, rfl, ⟨hgn2⟩, ⟨nq2, rfl⟩⟩ := hrel
                have HGN2 := Lib.hid hgn2
                clear hgn2
                by_cases hm : m < before.length
                · obtain ⟨bd, b, rfl, hb, hbm, hbt, r0⟩ := int_el CG.out (Below.refl _ _) m hm
                  have hin := EIN.out.bef b hbm
                  rw [← HRS.out] at hin
                  have HIN := Lib.hid hin
                  have p2 : (0 : Int) ≤ m := by omega
                  have p3 : (m : Int) < before.length := by omega
                  clear hb hbm hbt hin
                  go_wp2_with fail
                  refine (has_any (some ad6) rs.length k6 rs b (w6.drewN nq2) (Kd.C_below C6.out (pw_below_drewN (Below.refl _ _) nq2))).mono ?_
                  rintro e w7 ⟨rfl, rfl⟩
                  by_cases hbr : b ∈ rs
                  · rw [decide_eq_true hbr]
                    clear hbr
                    go_wp2_with fail
                    refine (has_any F freed.length fc freed b (w6.drewN nq2) (Kd.C_below CF.out (pw_below_drewN (Below.refl _ _) nq2))).mono ?_
                    rintro e w7 ⟨rfl, rfl⟩
                    go_wp2_with fail
                    go_roundg (before.length - (m + 1))
                    case measure => have := HGN2.out; omega
                    case rel => exact ⟨m + 1, by go_num, ⟨by have := HGN2.out; omega⟩, ⟨⟨_, rfl⟩⟩⟩
                  · rw [decide_eq_false hbr]
                    have hbf : b ∈ freed := HIN.out.resolve_left hbr
                    clear hbr
                    go_wp2_with fail
                    refine (has_any F freed.length fc freed b (w6.drewN nq2) (Kd.C_below CF.out (pw_below_drewN (Below.refl _ _) nq2))).mono ?_
                    rintro e w7 ⟨rfl, rfl⟩
                    rw [decide_eq_true hbf]
                    clear hbf
                    go_wp2_with fail
                    go_roundg (before.length - (m + 1))
                    case measure => have := HGN2.out; omega
                    case rel => exact ⟨m + 1, by go_num, ⟨by have := HGN2.out; omega⟩, ⟨⟨_, rfl⟩⟩⟩
                · have p3 : ¬ (m : Int) < before.length := by omega
                  go_upto_if 111 with (fail)
                  go_cut [20] from 59 to 156 (fun kv wx => ∃ kk : Nat, kv = .int .i64 kk ∧ Aside0 (kk < rs.length) ∧ Drawn0 w6 wx)
                  case first =>
                    by_cases hpi : n < picks.length
                    · obtain ⟨pd, v, rfl, hv, hvm, _, r0⟩ := int_el HP.out (Below.refl _ _) n hpi
                      have x0 := pw_cell_below BW6.out r0
                      have p4 : (n : Int) < picks.length := by omega
                      clear hv hvm r0
                      by_cases hneg : v.tmod rs.length < 0
                      · obtain ⟨kk, hkk, hke⟩ := pick_neg hr0 hrl hneg
                        have HKE := Lib.hid hke
                        have HKK := Lib.hid hkk
                        clear hke hkk
                        go_wp2_with fail
                        go_meet
                        case rel => exact ⟨kk, val_i64 HKE.out, ⟨HKK.out⟩, ⟨⟨_, rfl⟩⟩⟩
                      · obtain ⟨kk, hkk, hke⟩ := pick_pos hr0 hneg
                        have HKE := Lib.hid hke
                        have HKK := Lib.hid hkk
                        clear hke hkk
                        go_wp2_with fail
                        go_meet
                        case rel => exact ⟨kk, val_i64 HKE.out, ⟨HKK.out⟩, ⟨⟨_, rfl⟩⟩⟩
                    · have p4 : ¬ (n : Int) < picks.length := by omega
                      go_wp2_with fail
                      go_meet
                      case rel => exact ⟨0, rfl, ⟨hr0⟩, ⟨⟨_, rfl⟩⟩⟩
                  case rest =>
                    obtain ⟨kk, rfl, ⟨hkk⟩, ⟨nq3, rfl⟩⟩ := hcut
                    have HA1 := EIN.out.inside
                    have HA2 := EIN.out.apart
                    rw [← HRS.out] at HA1 HA2
                    have CU := Aside0.mk (Kd.R_reads' E6.out.O).2.2
                    have HI1 := Lib.hid HA1
                    have HI2 := Lib.hid HA2
                    clear HA1 HA2
                    go_wp2_with fail
                    refine (apart_any (some ad6) k6 rs U uc all (w6.drewN nq3) (Kd.C_below C6.out (pw_below_drewN (Below.refl _ _) nq3)) (Kd.C_below CU.out (pw_below_drewN (Below.refl _ _) nq3)) HI1.out HI2.out).mono ?_
                    rintro e w8 ⟨rfl, hb8⟩
                    have B8 := Aside0.mk (show Below w6.heap.size w6 w8 from below_then (pw_below_drewN (Below.refl _ _) nq3) (Nat.le_refl _) hb8)
                    obtain ⟨ad', gi, had, hg, hgm2, _, s0⟩ := int_el C6.out B8.out kk hkk
                    obtain rfl : ad6 = ad' := Option.some.inj had
                    obtain ⟨g1, g2⟩ := HI1.out gi hgm2
                    obtain ⟨g, rfl⟩ := Int.eq_ofNat_of_zero_le g1
                    have hgl : g < all.length := by omega
                    have HGM := Lib.hid hgm2
                    have p5 : (0 : Int) ≤ kk := by omega
                    have p6 : (kk : Int) < rs.length := by omega
                    have hgr : (g : Int) ∈ t.ready := by rw [← HRS.out]; exact hgm2
                    have HFI := EIN.out.first hgr
                    rw [← HLS.out] at HFI
                    have HF := Lib.hid HFI
                    have HGR := Lib.hid hgr
                    clear hb8 had hg hgm2 g1 g2 HFI hgr
                    go_wp2_with fail
                    refine (first_any g (some ad5) k5 ls U uc all w8 (Kd.C_below C56.out B8.out) (Kd.C_below CU.out B8.out) hgl HF.out).mono ?_
                    rintro e w9 ⟨rfl, hb9⟩
                    have B9 := Aside0.mk (below_then B8.out B8.out.size hb9)
                    have s1 := pw_cell_below hb9 s0
                    have E9 := Aside0.mk (E6.out.below B9.out)
                    have T9 := Aside0.mk (T6.out.below B9.out)
                    have R9 := Aside0.mk (Kd.R_below R6.out B9.out)
                    have S9 := Lib.hid B9.out.size
                    have BW9 := Aside0.mk (below_then BW6.out BW6.out.size B9.out)
                    have hrel := release_granted EIN.out.srt HGR.out
                    have HREL := Lib.hid hrel
                    have EIS := Aside0.mk (EIN.out.step HGR.out)
                    clear hb9 s0 hrel
                    go_wp2_with fail
                    refine (release_any t A1 c1 base p okT g w9 T9.out (by have := HS.out; have := E9.out.sz; omega) (by omega)).mono ?_
                    rintro e w10 ⟨rfl, ⟨A10, c10, hT10⟩, hm10⟩
                    rw [HREL.out.1]
                    have hN : ∀ q, S ≤ q → ¬ (q = p ∨ okT q) := fun q hq h => h.elim (fun h => by have := HS.out; omega) (fun h => by have := (BT.out q h).2; omega)
                    have T10 := Aside0.mk hT10
                    have O10 := Aside0.mk (Kd.R_step E9.out.O (w1 := w10) (fun q hq hl => hm10.block q hl (fun h => h.elim (fun h => by have := (BO.out q hq).1; have := HS.out; omega) (fun h => DIS.out q h hq))))
                    have R10 := Aside0.mk (Kd.R_step (Kd.R_lower (Kd.R_mono R9.out (fun q hq => Nat.le_trans S5.out hq)) S5.out) (w1 := w10) (fun q hq hl => hm10.block q hl (hN q hq)))
                    have R6o := R6.out.1
                    have R6l := Lib.hid (fun q hq => Kd.R_lt R6.out q hq)
                    have F10 := Aside0.mk (int_ok (ok' := fun q => S ≤ q ∧ some q ≠ (Value.slice (some ad6) rs.length k6).ownBlock) (Kd.R_step E9.out.F (w1 := w10) (fun q hq hl => hm10.block q hl (hN q hq.1))) (fun q hq => ⟨(E9.out.F.1 q hq).1, fun he => by have h1 := R6o q he.symm; have h2 := FN.out q hq; omega⟩))
                    have BW10 := Aside0.mk (Mod.below BW9.out hm10 BW9.out.size (fun i hi => hi.elim (fun h => by omega) (fun h => by have := (BT.out i h).1; have := HS.out; omega)))
                    have S10 := Lib.hid (show S ≤ w10.heap.size ∧ w6.heap.size ≤ w10.heap.size from ⟨Nat.le_trans E9.out.sz hm10.size, Nat.le_trans S9.out hm10.size⟩)
                    have s2 := cell_mod hm10 s1 (fun h => hN ad6.block (own_block_le R6.out S5.out hr0) (by rw [← addr_block ad6 kk]; exact h))
                    clear hT10 hm10 s1 hN R6o
                    go_wp2_with (at_builtin; go_loud (refine Kd.R_append (Kd.int .i64) (w0 := w10) S rfl (.tmp 149) (.tmp 154) 37 3 _ 8 rfl Try.underlying37 info3 rfl (by decide) (by omega) _ freed g [.int .i64 g] (fun q => S ≤ q ∧ some q ≠ (Value.slice (some ad6) rs.length k6).ownBlock) (fun _ => False) rfl rfl ?aP (fun _ hk => hk.elim) ?aF ?aO ?aB ?aS ?aL ?_); (case aP => exact rfl); (case aF => exact fun i hi => ⟨Nat.le_trans S10.out.1 hi, fun he => by have h1 := R6l.out i he.symm; have h2 := S10.out.2; omega⟩); (case aO => exact F10.out); (case aB => exact Below.refl _ _); (case aS => exact S10.out.1); (case aL => omega); intro v7 w7 ho7 hb7 hg7 hat7; have HO7 := Aside0.mk ho7; have HM7 : Aside0 (Mod w10 w7 (fun q => S ≤ q ∧ some q ≠ (Value.slice (some ad6) rs.length k6).ownBlock)) := ⟨⟨hb7.os, hb7.tape, hb7.output, hg7.size, fun i hi hn => hg7.block i hi (fun he => hn (F10.out.1 i he.symm))⟩⟩; clear ho7 hb7 hg7 hat7)
                    go_roundg (all.length + 1 - (n + 1))
                    case measure => have := HGN.out; omega
                    case rel => exact ⟨n + 1, (t.release g).2, freed ++ [(g : Int)], rs, by go_num, ⟨by have := HGN.out; have := EIS.out.len; omega, by have h := EIS.out; rw [← HRS.out] at h; exact h⟩, ⟨EW.mk' T10.out O10.out R10.out HO7.out HM7.out BT.out BO.out HS.out S10.out.1, Mod.below BW10.out HM7.out BW10.out.size (fun i hi => by have := HS.out; omega)⟩⟩
end Go.Proofs.Ytajblhainchplaa

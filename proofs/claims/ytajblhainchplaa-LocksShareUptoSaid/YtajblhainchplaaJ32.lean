/- Layer 19: the walk of the law LocksShare. -/
import Derived.Test.YtajblhainchplaaJ30
import Derived.Test.YtajblhainchplaaJ31
set_option linter.unusedVariables false
set_option linter.unusedSimpArgs false
namespace Go.Proofs.Ytajblhainchplaa
open Go.RowKit Go.Proofs.YtajblhainchplaaW.PrintWords Go.Proofs.YtajblhainchplaaW.PrintLast Go.Proofs.Ytajblhainchplaa.Opn
theorem below_lift {S : Nat} {a b : World} (h : Below a.heap.size a b) (hS : S ≤ a.heap.size) : Below S a b := ⟨h.os, h.tape, h.output, h.size, fun i hi => h.block i (by omega)⟩
theorem share_next {w4 w7 : World} {base p S Sq : Nat} {t : TS} {v : Value} {all : List (List Lk)} {okT okO : Nat → Prop} {A : Option Addr} {c : Nat} (hT : TNet w4 base p (fun q => (okT q ∨ Sq ≤ q) ∧ base ≤ q ∧ q < w4.heap.size) t A c)
    (hO : kLL.R 29 w7 base (fun q => okO q ∨ (S ≤ q ∧ q < Sq) ∨ w4.heap.size ≤ q) v all) (hM : Mod w4 w7 okO) (dis : ∀ q, okT q → ¬ okO q) (bT : ∀ q, okT q → base ≤ q ∧ q < S) (bO : ∀ q, okO q → base ≤ q ∧ q < S) (hS : base ≤ S ∧ S ≤ Sq ∧ Sq ≤ w4.heap.size) : TO w7 base p t v all :=
  to_mk (hT.mod hM (fun h => by have := (bO p h).1; have := hT.pb; omega) (fun q hq h => hq.1.elim (fun h1 => dis q h1 h) (fun h1 => by have := (bO q h).2; omega))) hO
    (fun q hq h1 h2 => by
      have h3 := h1.2.2
      rcases h2 with h2 | h2 | h2
      · have h4 := (bO q h2).2
        rcases h1.1 with h5 | h5
        · exact dis q h5 h2
        · omega
      · rcases h1.1 with h5 | h5
        · have := (bT q h5).2; omega
        · omega
      · omega) (by have := hM.size; omega)
set_option maxRecDepth 100000 in
set_option maxHeartbeats 16000000 in
theorem locksShare_any (A : Option Addr) (n1 c : Nat) (asked : List (List Lk)) (csw : Array Value) (wl : Lk) (W : World) (hC : kLL.C W A n1 asked) (hKw : kLk.K W wl csw.toList) (hZ : LLZ asked) (hZw : LkZ wl) (hn : asked.length ≤ 1048576) :
    Calls Try.prog 4 #[.slice A n1 c, .agg csw] W fun e W' => e = .returned (.bool true) ∧ Below W.heap.size W W' := by
  obtain rfl : asked.length = n1 := hC.1
  obtain rfl : csw = #[.int .i64 wl.table, .string wl.lo, .string wl.hi, .bool wl.write] := by rw [kLk_K] at hKw; exact Array.toList_inj.1 hKw
  obtain ⟨b1, hb1⟩ : ∃ b, b = W.heap.size := ⟨_, rfl⟩
  obtain ⟨W1, h1, k1, s1, B1⟩ := grow (W := W) hb1.symm #[.int .i64 wl.table, .string wl.lo, .string wl.hi, .bool wl.write] 23
  have HC := Aside0.mk hC
  have HZ := Lib.hid hZ
  have HZW := Lib.hid hZw
  have K1 := Aside0.mk k1
  have BW1 := Aside0.mk B1
  have H1 := Lib.hid h1
  have HB1 := Lib.hid hb1
  have hb1l : b1 < W1.heap.size := blk_lt k1
  clear h1 k1 s1 B1 hb1 hC hZ hZw hKw
  go_enter Try.func4, Try.ntmps4
  go_upto_region 1 with (fail)
  rw [← H1.out, ← HB1.out]
  go_wp2_with fail
  go_loopg [5, 6] asked.length (fun gn v i wr => ∃ k : Nat, i = .int .i64 k ∧ Aside0 (k + gn = asked.length) ∧ Aside0 ((Kd.fixed kOp W).R 31 wr W1.heap.size (fun q => W1.heap.size ≤ q) v (opsOf (asked.take k)) ∧ Below W1.heap.size W1 wr))
  case atStart => exact ⟨0, rfl, ⟨by omega⟩, ⟨Kd.R_nil _ _ _ _ _, Below.refl _ _⟩⟩
  case round =>
    obtain ⟨k, rfl, ⟨hgn⟩, hI⟩ := hrel
    have HGN := Lib.hid hgn
    clear hgn
    by_cases hk : k < asked.length
    · obtain ⟨ad, x, X, xd, rfl, hx, hxm, hxt, x0, hxl, hCx⟩ := ll_at HC.out (Below.refl _ _) k hk
      have x1 := pw_cell_below (below_then BW1.out BW1.out.size hI.out.2) x0
      have HXT := Lib.hid (opsOf_step hxt)
      obtain ⟨L, hL⟩ : ∃ L, L = opsOf (asked.take k) := ⟨_, rfl⟩
      have hLl : L.length ≤ k := by rw [hL, opsOf_len, List.length_take]; omega
      have hI2 := hI.out
      rw [← hL] at hI2
      have HI2 := Aside0.mk hI2
      have HL := Lib.hid hL
      have HM : Aside0 ((Kd.fixed kOp W).M wr W1.heap.size (fun _ => False) ⟨0, 0, x⟩ [.int .i64 0, .int .i64 0, .slice X x.length xd]) := ⟨kOp_K.2 ⟨X, xd, rfl, hxl, hCx⟩⟩
      have p0 : (0 : Int) ≤ k := by omega
      have p1 : (k : Int) < asked.length := by omega
      clear hx hxm hxt x0 hCx hI2 hL hI
      go_wp2_with (at_builtin; go_loud (refine Kd.R_append (Kd.fixed kOp W) (w0 := wr) W1.heap.size rfl (.tmp 31) (.tmp 37) 28 31 _ 40 rfl Try.underlying28 info31 rfl (show 0 < 3 by decide) (by omega) _ L ⟨0, 0, x⟩ [.int .i64 0, .int .i64 0, .slice X x.length xd] (fun q => W1.heap.size ≤ q) (fun _ => False) rfl rfl ?aP (fun _ hk => hk.elim) ?aF ?aO ?aB ?aS ?aL ?_); (case aP => exact HM.out); (case aF => exact fun i hi => Nat.le_trans HI2.out.2.size hi); (case aO => exact HI2.out.1); (case aB => exact Below.refl _ _); (case aS => exact HI2.out.2.size); (case aL => omega); intro v7 w7 ho7 hb7 hg7 hat7; have HO7 := Aside0.mk ho7; have HB7 := Aside0.mk (HI2.out.2.trans hb7); clear ho7 hb7 hg7 hat7)
      go_roundg (asked.length - (k + 1))
      case measure => have := HGN.out; omega
      case rel => exact ⟨k + 1, by go_num, ⟨by have := HGN.out; omega⟩, ⟨by have h1 := HO7.out; rw [HL.out, ← HXT.out] at h1; exact h1, HB7.out⟩⟩
    · have p1 : ¬ (k : Int) < asked.length := by omega
      obtain ⟨L, hL⟩ : ∃ L, L = opsOf asked := ⟨_, rfl⟩
      have hI2 := hI.out
      rw [List.take_of_length_le (by omega), ← hL] at hI2
      obtain ⟨V, vc, hv⟩ := Kd.R_slice hI2.1
      subst hv
      have hLl : L.length = asked.length := by rw [hL, opsOf_len]
      have B0 := Aside0.mk hI2.2
      have HS := Aside0.mk (fixed_C (below_then BW1.out BW1.out.size hI2.2) hI2.1)
      have HSZ := Lib.hid (opsOf_Z HZ.out)
      rw [← hL] at HSZ
      have HLX := Lib.hid hL
      have hLz : L.length * 40 ≤ 140737488351232 := by omega
      clear hI hI2 hL hLl
      go_wp2_with fail
      refine (weighs_any V vc L wr HS.out hLz HSZ.out).mono ?_
      rintro e w1 ⟨⟨n, rfl⟩, m1, hw1⟩
      have B1 : Aside0 (Below W1.heap.size W1 w1) := ⟨by rw [hw1]; exact pw_below_drewN B0.out m1⟩
      have K2 := Aside0.mk (blk_below K1.out B1.out)
      have z1 : w1.cell? ⟨b1, 1, none⟩ = some (.string wl.lo) := blk_cell K2.out 1
      have z2 : w1.cell? ⟨b1, 2, none⟩ = some (.string wl.hi) := blk_cell K2.out 2
      clear hw1
      by_cases hw : 2147483647 < n
      · go_wp2_with fail
        go_ret
        exact ⟨rfl, below_then BW1.out BW1.out.size B1.out⟩
      by_cases hg1 : (wl.lo.size : Int) > 2147483647
      · go_wp2_with fail
        go_ret
        exact ⟨rfl, below_then BW1.out BW1.out.size B1.out⟩
      by_cases hg2 : (wl.hi.size : Int) > 2147483647
      · go_wp2_with fail
        go_ret
        exact ⟨rfl, below_then BW1.out BW1.out.size B1.out⟩
      go_wp2_with fail
      refine (awake_any w1).mono ?_
      rintro e w2 ⟨rfl, hb2⟩
      have B2 := Aside0.mk (below_then B1.out B1.out.size hb2)
      clear hb2 z1 z2 hw hg1 hg2
      go_wp2_with fail
      refine (new_any w2).mono ?_
      rintro e w3 ⟨rfl, hp3, hs3, hb3⟩
      obtain ⟨p, hp⟩ : ∃ q, q = w2.heap.size := ⟨_, rfl⟩
      rw [← hp] at hp3 hs3 ⊢
      obtain ⟨base, hbase⟩ : ∃ b, b = w3.heap.size := ⟨_, rfl⟩
      have B3 := Aside0.mk (below_then B2.out B2.out.size hb3)
      have hpW : W1.heap.size ≤ p := by have := B2.out.size; omega
      have hpb : p < base := by omega
      have T3 := Aside0.mk (TO.start (base := base) hp3 (by omega) (by omega))
      have HBASE := Lib.hid hbase
      clear hp hp3 hs3 hb3 hbase
      go_wp2_with fail
      go_loopg [10, 11] asked.length (fun gn v i wr => ∃ (k : Nat) (t : TS) (all : List (List Lk)), i = .int .i64 k ∧ Aside0 (k + gn = asked.length ∧ SK t k all) ∧ Aside0 (TO wr base p t v all ∧ Below W1.heap.size W1 wr))
      case atStart => exact ⟨0, t0, [], rfl, ⟨by omega, SK.start⟩, ⟨T3.out, B3.out⟩⟩
      case round =>
        obtain ⟨k, t, all, rfl, ⟨hgn, hSK⟩, hI⟩ := hrel
        have HGN := Lib.hid hgn
        have HSK := Lib.hid hSK
        have hkl : k ≤ asked.length := by omega
        have BWI := Aside0.mk (below_then BW1.out BW1.out.size hI.out.2)
        have hal := hSK.len
        have HAL := Lib.hid hal
        have htl := hSK.size
        have HTL := Lib.hid htl
        clear hgn hSK hal htl
        by_cases hk : k < asked.length
        · obtain ⟨ad, x, X, xd, rfl, hx, hxm, hxt, x0, hxl, hCx⟩ := ll_at HC.out (Below.refl _ _) k hk
          have X0 := Aside0.mk x0
          have HCX := Aside0.mk hCx
          have hxz := (HZ.out.2 x hxm).1
          have hxn := hCx.2.1
          have p0 : (0 : Int) ≤ k := by omega
          have p1 : (k : Int) < asked.length := by omega
          obtain ⟨okT, okO, A1, c1, hD⟩ := hI.out.1
          obtain ⟨V10, c10, hv10⟩ := Kd.R_slice hD.O
          subst hv10
          obtain ⟨S, hS⟩ : ∃ S, S = wr.heap.size := ⟨_, rfl⟩
          have hQ : ∀ wq, Below S wr wq → Below W.heap.size W wq ∧ Below W1.heap.size W1 wq ∧ TNet wq base p okT t A1 c1 ∧ kLL.R 29 wq base okO (.slice V10 all.length c10) all ∧ S ≤ wq.heap.size := by
            intro wq h
            rw [hS] at h ⊢
            exact ⟨below_then BWI.out BWI.out.size h, below_then hI.out.2 hI.out.2.size h, hD.T.below h, Kd.R_below hD.O h, h.size⟩
          have HQ := Lib.hid hQ
          have DIS := Lib.hid hD.dis
          have BT := Lib.hid (show ∀ q, okT q → base ≤ q ∧ q < S by rw [hS]; exact hD.bT)
          have BO := Lib.hid (show ∀ q, okO q → base ≤ q ∧ q < S by rw [hS]; exact hD.bO)
          have HSB := Lib.hid (show base ≤ S by rw [hS]; exact hD.hb)
          clear hx hxm hxt x0 hCx hD hI hS hQ
          go_wp2_with fail
          go_loopg [12, 13] x.length (fun gn vl j wq => ∃ m : Nat, j = .int .i64 m ∧ Aside0 (m + gn = x.length) ∧ Aside0 (kLk.R 23 wq S (fun q => S ≤ q) vl (readsOf (x.take m)) ∧ Below S wr wq))
          case atStart => exact ⟨0, rfl, ⟨by omega⟩, ⟨Kd.R_nil _ _ _ _ _, Below.refl _ _⟩⟩
          case round =>
            obtain ⟨m, rfl, ⟨hgn⟩, hJ⟩ := hrel
            have HGN2 := Lib.hid hgn
            clear hgn
            have QQ := Aside0.mk (HQ.out wr hJ.out.2)
            have x1 := pw_cell_below QQ.out.1 X0.out
            by_cases hm : m < x.length
            · obtain ⟨bd, s, rfl, hs, hsm, hst, r0, r1, r2, r3⟩ := lk_at HCX.out QQ.out.1 m hm
              have HST := Lib.hid hst
              obtain ⟨L2, hL2⟩ : ∃ L, L = readsOf (x.take m) := ⟨_, rfl⟩
              have hL2l : L2.length ≤ m := by rw [hL2]; exact Nat.le_trans (readsOf_len _) (by rw [List.length_take]; omega)
              have hJ2 := hJ.out
              rw [← hL2] at hJ2
              obtain ⟨VL, vlc, hvl⟩ := Kd.R_slice hJ2.1
              subst hvl
              have HL2 := Lib.hid hL2
              obtain ⟨b2, hb2⟩ : ∃ b, b = wr.heap.size := ⟨_, rfl⟩
              obtain ⟨W2, h2, k2, s2, B2⟩ := grow (W := wr) hb2.symm #[.int .i64 s.table, .string s.lo, .string s.hi, .bool false] 23
              have RL2 := Aside0.mk (Kd.R_below hJ2.1 B2)
              have BQ2 := Aside0.mk (hJ2.2.trans (below_lift B2 QQ.out.2.2.2.2))
              have HS2 := Lib.hid (Nat.le_trans QQ.out.2.2.2.2 B2.size)
              have KK2 := Aside0.mk k2
              have H2 := Lib.hid h2
              have HB2 := Lib.hid hb2
              have p2 : (0 : Int) ≤ m := by omega
              have p3 : (m : Int) < x.length := by omega
              clear hs hsm hst hL2 hJ hJ2 h2 k2 s2 B2 hb2
              go_upto_region 23 with (fail)
              rw [← H2.out, ← HB2.out]
              have y0 : W2.cell? ⟨b2, 0, none⟩ = some (.int .i64 s.table) := blk_cell KK2.out 0
              have y1 : W2.cell? ⟨b2, 1, none⟩ = some (.string s.lo) := blk_cell KK2.out 1
              have y2 : W2.cell? ⟨b2, 2, none⟩ = some (.string s.hi) := blk_cell KK2.out 2
              have y3 : W2.cell? ⟨b2, 3, none⟩ = some (.bool false) := blk_cell KK2.out 3
              clear r0 r1 r2 r3 x1
              go_wp2_with fail
              refine (rright_any (unW s) W2).mono ?_
              rintro e w5 ⟨rfl, hb5⟩
              have RL5 := Aside0.mk (Kd.R_below RL2.out hb5)
              have BQ5 := Aside0.mk (BQ2.out.trans (below_lift hb5 HS2.out))
              have HS5 := Lib.hid (Nat.le_trans HS2.out hb5.size)
              have KK5 := Aside0.mk (blk_below KK2.out hb5)
              clear hb5 y0 y1 y2 y3
              by_cases hR : RightL (unW s)
              · rw [decide_eq_true hR]
                have HRY := Lib.hid (readsOf_yes HST.out hR)
                clear hR
                have y0 : w5.cell? ⟨b2, 0, none⟩ = some (.int .i64 s.table) := blk_cell KK5.out 0
                have y1 : w5.cell? ⟨b2, 1, none⟩ = some (.string s.lo) := blk_cell KK5.out 1
                have y2 : w5.cell? ⟨b2, 2, none⟩ = some (.string s.hi) := blk_cell KK5.out 2
                have y3 : w5.cell? ⟨b2, 3, none⟩ = some (.bool false) := blk_cell KK5.out 3
                go_wp2_with (at_builtin; go_loud (refine Kd.R_append kLk (w0 := w5) S rfl (.tmp 85) (.tmp 87) 29 23 _ 48 rfl Try.underlying29 info23 rfl (by decide) (by omega) _ L2 (unW s) [.int .i64 s.table, .string s.lo, .string s.hi, .bool false] (fun q => S ≤ q) (fun _ => False) rfl rfl ?aP (fun _ hk => hk.elim) ?aF ?aO ?aB ?aS ?aL ?_); (case aP => exact kLk_M.2 rfl); (case aF => exact fun i hi => Nat.le_trans HS5.out hi); (case aO => exact RL5.out); (case aB => exact Below.refl _ _); (case aS => exact HS5.out); (case aL => omega); intro v7 w7 ho7 hb7 hg7 hat7; have HO7 := Aside0.mk ho7; have HB7 := Aside0.mk (BQ5.out.trans hb7); clear ho7 hb7 hg7 hat7)
                go_roundg (x.length - (m + 1))
                case measure => have := HGN2.out; omega
                case rel => exact ⟨m + 1, by go_num, ⟨by have := HGN2.out; omega⟩, ⟨by have h1 := HO7.out; rw [HL2.out, ← HRY.out] at h1; exact h1, HB7.out⟩⟩
              · rw [decide_eq_false hR]
                have HRY := Lib.hid (readsOf_no HST.out hR)
                clear hR
                go_wp2_with fail
                go_roundg (x.length - (m + 1))
                case measure => have := HGN2.out; omega
                case rel => exact ⟨m + 1, by go_num, ⟨by have := HGN2.out; omega⟩, ⟨by rw [HRY.out, ← HL2.out]; exact RL5.out, BQ5.out⟩⟩
            · have p3 : ¬ (m : Int) < x.length := by omega
              obtain ⟨L3, hL3⟩ : ∃ L, L = readsOf x := ⟨_, rfl⟩
              have hJ2 := hJ.out
              rw [List.take_of_length_le (by omega), ← hL3] at hJ2
              obtain ⟨VL, vlc, hvl⟩ := Kd.R_slice hJ2.1
              subst hvl
              have hL3l : L3.length ≤ x.length := by rw [hL3]; exact readsOf_len _
              have RLb : Aside0 (kLk.R 23 wr S (fun q => S ≤ q ∧ q < wr.heap.size) (.slice VL L3.length vlc) L3) := ⟨Kd.R_mono (Kd.R_bound hJ2.1) (fun q hq => ⟨hq.2.1, hq.2.2.1⟩)⟩
              have HL3 := Lib.hid hL3
              have hst := HSK.out.step (by rw [hL3]; exact readsOf_right x) (by rw [hL3]; exact readsOf_read x : ∀ y ∈ L3, y.write = false)
              have HST := Lib.hid hst
              have hlen : t.l.length ≤ 1048576 := by have := HTL.out; omega
              have hfr : ∀ q, wr.heap.size ≤ q → okT q ∨ wr.heap.size ≤ q := fun q h => .inr h
              have hpok : ¬ (okT p ∨ wr.heap.size ≤ p) := fun h => h.elim QQ.out.2.2.1.pok (fun h => by have := QQ.out.2.2.2.2; have := HSB.out; omega)
              clear hJ hJ2 hL3 hst
              go_wp2_with fail
              refine (ask_any t A1 c1 base p (fun q => okT q ∨ wr.heap.size ≤ q) k L3 VL vlc wr (QQ.out.2.2.1.wide (fun q h => .inl h) hpok) (Nat.le_trans HSB.out QQ.out.2.2.2.2) hfr (Kd.R_reads' RLb.out).2.2 (by omega) (by omega)).mono ?_
              rintro e w4 ⟨rfl, ⟨A4, c4, hN4⟩, hm4⟩
              rw [HST.out.1]
              obtain ⟨t', ht'⟩ : ∃ u, u = (t.ask k L3).2 := ⟨_, rfl⟩
              rw [← ht'] at hN4
              have hSK2 := HST.out.2
              rw [← ht'] at hSK2
              have hM4 : Mod wr w4 (fun q => q = p ∨ okT q) := ⟨hm4.os, hm4.tape, hm4.output, hm4.size, fun i hi h => hm4.block i hi (fun hh => h (hh.imp (fun h => h) (fun hh => hh.elim (fun h => h) (fun hh => by omega))))⟩
              have HSK2 := Lib.hid hSK2
              have N4 := Aside0.mk hN4.bound
              have O4 := Aside0.mk (Kd.R_step QQ.out.2.2.2.1 (w1 := w4) (fun q hq hl => hM4.block q hl (fun h => h.elim (fun h => by have := (BO.out q hq).1; omega) (fun h => DIS.out q h hq))))
              have RL4 := Aside0.mk (Kd.R_step RLb.out (w1 := w4) (fun q hq hl => hM4.block q hl (fun h => h.elim (fun h => by have := HSB.out; omega) (fun h => by have := (BT.out q h).2; omega))))
              have BW4 := Aside0.mk (Mod.below QQ.out.2.1 hM4 QQ.out.2.1.size (fun i hi => hi.elim (fun h => by omega) (fun h => by have := (BT.out i h).1; omega)))
              have HS4 := Lib.hid (show base ≤ S ∧ S ≤ wr.heap.size ∧ wr.heap.size ≤ w4.heap.size from ⟨HSB.out, QQ.out.2.2.2.2, hM4.size⟩)
              have hal1 : all.length ≤ 1048576 := by have := HAL.out; omega
              clear hN4 hm4 hM4 hSK2 ht' hfr hpok
              go_wp2_with (at_builtin; go_loud (refine Kd.R_append kLL (w0 := w4) base rfl (.tmp 95) (.tmp 97) 27 29 _ 24 rfl Try.underlying27 info29 rfl (by decide) (by omega) _ all L3 [.slice VL L3.length vlc] (fun q => okO q ∨ (S ≤ q ∧ q < wr.heap.size) ∨ w4.heap.size ≤ q) (fun q => S ≤ q ∧ q < wr.heap.size) rfl rfl ?aP ?aK ?aF ?aO ?aB ?aS ?aL ?_); (case aP => exact ⟨_, rfl, Kd.R_lower RL4.out HSB.out⟩); (case aK => exact fun i hi => ⟨.inr (.inl hi), fun he => by have h1 := (BO.out i (O4.out.1 i he.symm)).2; omega⟩); (case aF => exact fun i hi => .inr (.inr hi)); (case aO => exact Kd.R_mono O4.out (fun _ h => .inl h)); (case aB => exact Below.refl _ _); (case aS => have h := HS4.out; omega); (case aL => omega); intro v7 w7 ho7 hb7 hg7 hat7; have HO7 := Aside0.mk ho7; have HM7 : Aside0 (Mod w4 w7 okO) := ⟨⟨hb7.os, hb7.tape, hb7.output, hg7.size, fun i hi hn => hg7.block i hi (fun he => hn (O4.out.1 i he.symm))⟩⟩; clear ho7 hb7 hg7 hat7)
              go_roundg (asked.length - (k + 1))
              case measure => have := HGN.out; omega
              case rel => exact ⟨k + 1, t', all ++ [L3], by go_num, ⟨by have := HGN.out; omega, HSK2.out⟩, ⟨share_next N4.out HO7.out HM7.out DIS.out BT.out BO.out HS4.out, Mod.below BW4.out HM7.out BW4.out.size (fun i hi => by have := (BO.out i hi).1; omega)⟩⟩
        · obtain rfl : k = asked.length := by omega
          obtain ⟨okT, okO, A1, c1, hD⟩ := hI.out.1
          obtain ⟨V10, c10, hv10⟩ := Kd.R_slice hD.O
          subst hv10
          have D := Aside0.mk hD
          have BI := Aside0.mk hI.out.2
          have K3 := Aside0.mk (blk_below K1.out hI.out.2)
          obtain ⟨rs, hrs⟩ : ∃ rs, rs = t.ready := ⟨_, rfl⟩
          have HRS := Lib.hid hrs
          have hrl : rs.length = asked.length := by rw [hrs]; exact HSK.out.granted
          have HRL := Lib.hid hrl
          have htl : t.l.length ≤ 1048576 := by have := HTL.out; omega
          have hpWb : b1 < p ∧ b1 < base := by omega
          have p1 : ¬ (asked.length : Int) < asked.length := by omega
          clear hD hI hrs hrl
          go_wp2_with fail
          refine (ready_any t A1 c1 base p okT wr D.out.T (by omega)).mono ?_
          rintro e w5 ⟨v5, rfl, hv5, hb5⟩
          rw [← HRS.out] at hv5
          obtain ⟨V5, k5, rfl⟩ := Kd.R_slice hv5
          rw [HRL.out]
          have B5 := Aside0.mk (below_then BI.out BI.out.size hb5)
          have T5 := Aside0.mk (D.out.T.below hb5)
          have O5 := Aside0.mk (Kd.R_below D.out.O hb5)
          have K5 := Aside0.mk (blk_below K3.out hb5)
          have HS5 := Lib.hid hb5.size
          have z3 : w5.cell? ⟨b1, 3, none⟩ = some (.bool wl.write) := blk_cell K5.out 3
          have zf : w5.frozen? ⟨b1, 3, none⟩ = false := blk_frozen K5.out 3
          clear hv5 hb5
          go_upto_region 32 with (fail)
          obtain ⟨W6, hW6⟩ : ∃ u, u = w5.setCell ⟨b1, 3, none⟩ (.bool true) := ⟨_, rfl⟩
          rw [← hW6]
          have hM6 : Mod w5 W6 (fun q => q = b1) := by rw [hW6]; exact mod_setCell w5 b1 3 _
          have K6 : Aside0 (W6.heap[b1]? = some (.cells #[.int .i64 wl.table, .string wl.lo, .string wl.hi, .bool true] 23 (0, 0))) := ⟨by rw [hW6]; exact blk_put K5.out 3 (.bool true) rfl⟩
          have T6 := Aside0.mk (T5.out.mod hM6 (fun h => by omega) (fun q hq h => by have := (D.out.bT q hq).1; omega))
          have O6 := Aside0.mk (Kd.R_step O5.out (w1 := W6) (fun q hq hl => hM6.block q hl (fun h => by have := (D.out.bO q hq).1; omega)))
          have B6 := Aside0.mk (Mod.below (below_then BW1.out BW1.out.size B5.out) hM6 (below_then BW1.out BW1.out.size B5.out).size (fun i hi => by have := HB1.out; omega))
          have HS6 := Lib.hid hM6.size
          have y0 : W6.cell? ⟨b1, 0, none⟩ = some (.int .i64 wl.table) := blk_cell K6.out 0
          have y1 : W6.cell? ⟨b1, 1, none⟩ = some (.string wl.lo) := blk_cell K6.out 1
          have y2 : W6.cell? ⟨b1, 2, none⟩ = some (.string wl.hi) := blk_cell K6.out 2
          have y3 : W6.cell? ⟨b1, 3, none⟩ = some (.bool true) := blk_cell K6.out 3
          clear hW6 hM6 z3 zf
          go_wp2_with fail
          refine (rright_any (enW wl) W6).mono ?_
          rintro e w7 ⟨rfl, hb7⟩
          have B7 := Aside0.mk (below_then B6.out B6.out.size hb7)
          have T7 := Aside0.mk (T6.out.below hb7)
          have O7 := Aside0.mk (Kd.R_below O6.out hb7)
          have K7 := Aside0.mk (blk_below K6.out hb7)
          have HS7 := Lib.hid hb7.size
          clear hb7 y0 y1 y2 y3
          have y0 : w7.cell? ⟨b1, 0, none⟩ = some (.int .i64 wl.table) := blk_cell K7.out 0
          have y1 : w7.cell? ⟨b1, 1, none⟩ = some (.string wl.lo) := blk_cell K7.out 1
          have y2 : w7.cell? ⟨b1, 2, none⟩ = some (.string wl.hi) := blk_cell K7.out 2
          have y3 : w7.cell? ⟨b1, 3, none⟩ = some (.bool true) := blk_cell K7.out 3
          obtain ⟨q8, hq8⟩ : ∃ q, q = w7.heap.size := ⟨_, rfl⟩
          obtain ⟨W8, h8, k8, s8, b8⟩ := grow (W := w7) hq8.symm #[.int .i64 wl.table, .string wl.lo, .string wl.hi, .bool true] 23
          have T8 := Aside0.mk (T7.out.below b8)
          have O8 := Aside0.mk (Kd.R_below O7.out b8)
          have K8 := Aside0.mk (blk_below K7.out b8)
          have B8 := Aside0.mk (below_then B7.out B7.out.size b8)
          have C8 : Aside0 (kLk.C W8 (some ⟨q8, 0, none⟩) [enW wl].length [enW wl]) := ⟨C_block (d := kLk) k8 (by simp) (reps1 rfl (kLk_K.2 rfl))⟩
          have HH8 := Lib.hid h8
          have HQ8 := Lib.hid hq8
          have HS8 := Lib.hid (show wr.heap.size ≤ W8.heap.size by have := HS5.out; have := HS6.out; have := HS7.out; have := b8.size; omega)
          have hfr : ∀ q, W8.heap.size ≤ q → okT q ∨ W8.heap.size ≤ q := fun q h => .inr h
          have hpok : ¬ (okT p ∨ W8.heap.size ≤ p) := fun h => h.elim T8.out.pok (fun h => by have := HS8.out; have := D.out.hb; omega)
          obtain ⟨r, hr⟩ : ∃ r, r = decide (RightL (enW wl)) := ⟨_, rfl⟩
          rw [← hr]
          have HR := Lib.hid hr
          clear h8 k8 s8 b8 hq8 hr
          go_wp2_with fail
          rw [← HH8.out, ← HQ8.out]
          refine (ask_any t A1 c1 base p (fun q => okT q ∨ W8.heap.size ≤ q) asked.length [enW wl] (some ⟨q8, 0, none⟩) 1 W8 (T8.out.wide (fun q h => .inl h) hpok) (by have := HS8.out; have := D.out.hb; omega) hfr C8.out (by simp) (by omega)).mono ?_
          rintro e w9 ⟨he, ⟨A9, c9, hN9⟩, hm9⟩
          have hM9 : Mod W8 w9 (fun q => q = p ∨ okT q) := ⟨hm9.os, hm9.tape, hm9.output, hm9.size, fun i hi h => hm9.block i hi (fun hh => h (hh.imp (fun h => h) (fun hh => hh.elim (fun h => h) (fun hh => by omega))))⟩
          have O9 := Aside0.mk (Kd.R_step O8.out (w1 := w9) (fun q hq hl => hM9.block q hl (fun h => h.elim (fun h => by have := (D.out.bO q hq).1; omega) (fun h => D.out.dis q h hq))))
          have K9 := Aside0.mk (blk_mod K8.out hM9 (fun h => h.elim (fun h => by omega) (fun h => by have := (D.out.bT b1 h).1; omega)))
          have B9 := Aside0.mk (Mod.below B8.out hM9 B8.out.size (fun i hi => by have := BW1.out.size; exact hi.elim (fun h => by omega) (fun h => by have := (D.out.bT i h).1; omega)))
          clear hm9 hM9 hfr hpok y0 y1 y2 y3
          by_cases hR : RightL (enW wl)
          · obtain rfl : r = true := HR.out.trans (decide_eq_true hR)
            obtain ⟨g1, g2, g3⟩ := HSK.out.waits (right_one.2 hR)
            obtain ⟨t2, ht2⟩ : ∃ u, u = (t.ask asked.length [enW wl]).2 := ⟨_, rfl⟩
            rw [← ht2] at g2 g3 hN9
            rw [g1] at he
            subst he
            have N9 := Aside0.mk hN9
            have h2l : t2.l.length ≤ 1048577 := by omega
            have HG3 := Lib.hid g3
            clear hN9 ht2 g1 g2 g3 hR
            go_wp2_with fail
            refine (waits_any t2 A9 c9 base p (fun q => okT q ∨ W8.heap.size ≤ q) asked.length w9 N9.out (by omega)).mono ?_
            rintro e wx ⟨vx, rfl, hvx, hbx⟩
            rw [HG3.out] at hvx ⊢
            dsimp only at hvx ⊢
            obtain ⟨ws, hws⟩ : ∃ ws, ws = wantOf all [enW wl] asked.length := ⟨_, rfl⟩
            rw [← hws] at hvx
            obtain ⟨VX, kx, rfl⟩ := Kd.R_slice hvx
            have CX := Aside0.mk (Kd.R_reads' hvx).2.2
            have CU := Aside0.mk (Kd.R_reads' (Kd.R_below O9.out hbx)).2.2
            have KX := Aside0.mk (blk_below K9.out hbx)
            have BX := Aside0.mk (below_then B9.out B9.out.size hbx)
            have HWS := Lib.hid hws
            have hal2 : all.length ≤ 1048576 := by have := HAL.out; omega
            obtain ⟨S, hS⟩ : ∃ S, S = wx.heap.size := ⟨_, rfl⟩
            have hBS : ∀ u, Below S wx u → Below wx.heap.size wx u := by intro u h; rw [← hS]; exact h
            have HBS := Lib.hid hBS
            have HSX := Lib.hid (show S ≤ wx.heap.size by rw [hS]; exact Nat.le_refl _)
            clear hvx hbx hws hS hBS
            go_wp2_with fail
            go_loopg [22, 23] all.length (fun gn vw i wr => ∃ m : Nat, i = .int .i64 m ∧ Aside0 (m + gn = all.length) ∧ Aside0 ((Kd.int .i64).R 3 wr S (fun q => S ≤ q) vw (wantOf all [enW wl] m) ∧ Below S wx wr ∧ S ≤ wr.heap.size))
            case atStart => exact ⟨0, rfl, ⟨by omega⟩, ⟨Kd.R_nil _ _ _ _ _, Below.refl _ _, HSX.out⟩⟩
            case round =>
              obtain ⟨m, rfl, ⟨hgn⟩, hJ⟩ := hrel
              have HGN2 := Lib.hid hgn
              clear hgn
              by_cases hm : m < all.length
              · obtain ⟨L2, hL2⟩ : ∃ L, L = wantOf all [enW wl] m := ⟨_, rfl⟩
                have hL2l : L2.length ≤ m := by rw [hL2]; exact wantOf_len _ _ _
                have hJ2 := hJ.out
                rw [← hL2] at hJ2
                obtain ⟨VL, vlc, hvl⟩ := Kd.R_slice hJ2.1
                subst hvl
                have RL := Aside0.mk hJ2.1
                have BQ := Aside0.mk hJ2.2.1
                have HSQ := Lib.hid hJ2.2.2
                have BQx := Aside0.mk (HBS.out _ hJ2.2.1)
                have HL2 := Lib.hid hL2
                obtain ⟨ud, y, Y, yd, rfl, hy, _, _, x0, _, hCy⟩ := ll_at CU.out BQx.out m hm
                have CY := Aside0.mk (Kd.C_below hCy BQx.out)
                have HY := Lib.hid hy
                have KQ := Aside0.mk (blk_below KX.out BQx.out)
                have y0 : wr.cell? ⟨b1, 0, none⟩ = some (.int .i64 wl.table) := blk_cell KQ.out 0
                have y1 : wr.cell? ⟨b1, 1, none⟩ = some (.string wl.lo) := blk_cell KQ.out 1
                have y2 : wr.cell? ⟨b1, 2, none⟩ = some (.string wl.hi) := blk_cell KQ.out 2
                have y3 : wr.cell? ⟨b1, 3, none⟩ = some (.bool true) := blk_cell KQ.out 3
                have p2 : (0 : Int) ≤ m := by omega
                have p3 : (m : Int) < all.length := by omega
                clear hJ hJ2 hL2 hy hCy
                go_wp2_with fail
                refine start_ (n := 8) (S := fun w' => w'.cell? (ud.add m) = some (.slice Y y.length yd) ∧ w'.cell? ⟨b1, 0, none⟩ = some (.int .i64 wl.table) ∧ w'.cell? ⟨b1, 1, none⟩ = some (.string wl.lo) ∧ w'.cell? ⟨b1, 2, none⟩ = some (.string wl.hi) ∧ w'.cell? ⟨b1, 3, none⟩ = some (.bool true)) (ds := []) #[false, false, false, false, false, false, false, false] (by kernel_rfl) rfl rfl ⟨x0, y0, y1, y2, y3⟩ (fun hHeld => ?_)
                refine pure_ (i := 0) (N := some 141) (v := ?_) (a' := ?_) #[true, false, false, false, false, false, false, false] rfl rfl (by kernel_rfl) (fun _ _ _ h => h) (Or.inl ⟨by rfl, ?_⟩) ?_ ?_
                rotate_left
                · intro w'
                  go_simp
                  with_reducible rfl
                rotate_left
                · simp only [Act.put, List.setIfInBounds_toArray, List.set_cons_zero, List.set_cons_succ, i64_w, i32_w]
                  rfl
                refine pure_ (i := 1) (N := some 142) (v := ?_) (a' := ?_) #[true, true, false, false, false, false, false, false] rfl rfl (by kernel_rfl) (fun _ _ _ h => h) (Or.inl ⟨by rfl, ?_⟩) ?_ ?_
                rotate_left
                · intro w'
                  go_simp
                  with_reducible rfl
                rotate_left
                · simp only [Act.put, List.setIfInBounds_toArray, List.set_cons_zero, List.set_cons_succ, i64_w, i32_w]
                  rfl
                refine pure_ (i := 2) (N := some 143) (v := ?_) (a' := ?_) #[true, true, true, false, false, false, false, false] rfl rfl (by kernel_rfl) (fun _ _ _ h => h) (Or.inl ⟨by rfl, ?_⟩) ?_ ?_
                rotate_left
                · intro w'
                  go_simp
                  with_reducible rfl
                rotate_left
                · simp only [Act.put, List.setIfInBounds_toArray, List.set_cons_zero, List.set_cons_succ, i64_w, i32_w]
                  rfl
                refine take_ (i := 3) (N := some 144) (v := ?_) (a' := ?_) #[true, true, true, true, false, false, false, false] rfl rfl (by kernel_rfl) (fun _ _ _ h => h) (Or.inl ⟨by rfl, ?_⟩) hHeld ?_ ?_
                rotate_left
                · rintro w' ⟨s0, s1, s2, s3, s4⟩
                  go_simp
                  with_reducible rfl
                rotate_left
                · simp only [Act.put, List.setIfInBounds_toArray, List.set_cons_zero, List.set_cons_succ, i64_w, i32_w]
                  rfl
                refine take_ (i := 4) (N := some 145) (v := ?_) (a' := ?_) #[true, true, true, true, true, false, false, false] rfl rfl (by kernel_rfl) (fun _ _ _ h => h) (Or.inl ⟨by rfl, ?_⟩) hHeld ?_ ?_
                rotate_left
                · rintro w' ⟨s0, s1, s2, s3, s4⟩
                  go_simp
                  with_reducible rfl
                rotate_left
                · simp only [Act.put, List.setIfInBounds_toArray, List.set_cons_zero, List.set_cons_succ, i64_w, i32_w]
                  rfl
                refine one_ (i := 5) (N := some 146) #[true, true, true, true, true, true, false, false] rfl rfl (by kernel_rfl) (by decide) (fun K hK => ?_)
                refine value_ (w1 := ?_) (v := ?_) (by rfl) rfl ?_ ?_
                rotate_left 2
                · go_simp
                  constructor
                  · rfl
                  · rfl
                have BA : Aside0 (Below wr.drew.heap.size wr.drew ((wr.alloc (Obj.cells #[.int .i64 wl.table, .string wl.lo, .string wl.hi, .bool true] 23)).drew)) := ⟨below_alloc (Below.refl wr.drew.heap.size wr.drew) (Obj.cells #[.int .i64 wl.table, .string wl.lo, .string wl.hi, .bool true] 23)⟩
                have CV : Aside0 (kLk.C (wr.alloc (Obj.cells #[.int .i64 wl.table, .string wl.lo, .string wl.hi, .bool true] 23)).drew (some ⟨wr.heap.size, 0, none⟩) [enW wl].length [enW wl]) := ⟨C_block (d := kLk) (blk_alloc wr.drew (Obj.cells #[.int .i64 wl.table, .string wl.lo, .string wl.hi, .bool true] 23)) (by simp) (reps1 rfl (kLk_K.2 rfl))⟩
                have CYA := Aside0.mk (Kd.C_below (show kLk.C wr.drew Y y.length y from Kd.C_below CY.out (below_drew (Below.refl _ _))) BA.out)
                refine hK.out _ _ ⟨pw_cell_below BA.out x0, pw_cell_below BA.out y0, pw_cell_below BA.out y1, pw_cell_below BA.out y2, pw_cell_below BA.out y3⟩ (fun hHeld => ?_)
                clear hK K
                refine norm_ (a' := ?_) ?_ ?_
                rotate_left
                · show Act.put _ (some 146) _ = _
                  simp only [Act.put, List.setIfInBounds_toArray, List.set_cons_zero, List.set_cons_succ, i64_w, i32_w]
                  rfl
                refine one_ (i := 6) (N := some 147) #[true, true, true, true, true, true, true, false] rfl rfl (by kernel_rfl) (by decide) (fun K hK => ?_)
                have HMA := Aside0.mk (rmeetAny_any Y yd y (some ⟨wr.heap.size, 0, none⟩) 1 [enW wl] (wr.alloc (Obj.cells #[.int .i64 wl.table, .string wl.lo, .string wl.hi, .bool true] 23)).drew CYA.out CV.out)
                rw [show [enW wl].length = 1 from rfl] at HMA
                refine goes_ Try.func17 (by kernel_rfl) rfl #[.slice Y y.length yd, .slice (some ⟨wr.heap.size, 0, none⟩) 1 1] (by rfl) rfl rfl (by simp only [List.map_toArray, List.map_cons, List.map_nil]; rfl) ?_
                with_reducible refine (HMA.out).mono ?_
                rintro e w6 ⟨rfl, hb6⟩
                refine ⟨_, rfl, ?_⟩
                obtain ⟨mq, hmq⟩ : ∃ q, q = decide (MeetAny y [enW wl]) := ⟨_, rfl⟩
                rw [← hmq]
                have HMQ := Lib.hid hmq
                have B6a := Aside0.mk (below_then BA.out BA.out.size hb6)
                have B6q := Aside0.mk (below_then (below_drew (Below.refl wr.heap.size wr)) (Nat.le_refl _) B6a.out)
                clear hb6 hmq
                refine hK.out _ _ ⟨pw_cell_below B6q.out x0, pw_cell_below B6q.out y0, pw_cell_below B6q.out y1, pw_cell_below B6q.out y2, pw_cell_below B6q.out y3⟩ (fun hHeld => ?_)
                clear hK K
                refine norm_ (a' := ?_) ?_ ?_
                rotate_left
                · show Act.put _ (some 147) _ = _
                  simp only [Act.put, List.setIfInBounds_toArray, List.set_cons_zero, List.set_cons_succ, i64_w, i32_w]
                  rfl
                refine pure_ (i := 7) (N := some 24) (v := ?_) (a' := ?_) #[true, true, true, true, true, true, true, true] rfl rfl (by kernel_rfl) (fun _ _ _ h => h) (Or.inl ⟨by rfl, ?_⟩) ?_ ?_
                rotate_left
                · intro w'
                  go_simp
                  with_reducible rfl
                rotate_left
                · simp only [Act.put, List.setIfInBounds_toArray, List.set_cons_zero, List.set_cons_succ, i64_w, i32_w]
                  rfl
                refine done_ (by kernel_rfl) ?_
                have BT6 := Aside0.mk (BQ.out.trans (below_lift B6q.out HSQ.out))
                have HST6 := Lib.hid (Nat.le_trans HSQ.out B6q.out.size)
                have RL6 := Aside0.mk (Kd.R_below RL.out B6q.out)
                clear hHeld x0 y0 y1 y2 y3
                cases mq with
                | true =>
                  have HWY := Lib.hid (wantOf_yes (all := all) (b := [enW wl]) (k := m) (by rw [HY.out]; exact of_decide_eq_true HMQ.out.symm))
                  go_wp2_with (at_builtin; go_loud (refine Kd.R_append (Kd.int .i64) (w0 := w6) S rfl (.tmp 149) (.tmp 151) 37 3 _ 8 rfl Try.underlying37 info3 rfl (by decide) (by omega) _ L2 m [.int .i64 m] (fun q => S ≤ q) (fun _ => False) rfl rfl ?aP (fun _ hk => hk.elim) ?aF ?aO ?aB ?aS ?aL ?_); (case aP => exact rfl); (case aF => exact fun i hi => Nat.le_trans HST6.out hi); (case aO => exact RL6.out); (case aB => exact Below.refl _ _); (case aS => exact HST6.out); (case aL => omega); intro v7 w7 ho7 hb7 hg7 hat7; have HO7 := Aside0.mk ho7; have HB7 := Aside0.mk (BT6.out.trans hb7); have HS77 := Lib.hid (Nat.le_trans HST6.out hg7.size); clear ho7 hb7 hg7 hat7)
                  go_roundg (all.length - (m + 1))
                  case measure => have := HGN2.out; omega
                  case rel => exact ⟨m + 1, by go_num, ⟨by have := HGN2.out; omega⟩, ⟨by rw [HWY.out, ← HL2.out]; exact HO7.out, HB7.out, HS77.out⟩⟩
                | false =>
                  have HWN := Lib.hid (wantOf_no (all := all) (b := [enW wl]) (k := m) (by rw [HY.out]; exact of_decide_eq_false HMQ.out.symm))
                  go_wp2_with fail
                  go_roundg (all.length - (m + 1))
                  case measure => have := HGN2.out; omega
                  case rel => exact ⟨m + 1, by go_num, ⟨by have := HGN2.out; omega⟩, ⟨by rw [HWN.out, ← HL2.out]; exact RL6.out, BT6.out, HST6.out⟩⟩
              · have p3 : ¬ (m : Int) < all.length := by omega
                have hme : m = asked.length := by have := HGN2.out; have := HAL.out; omega
                have hJ2 := hJ.out
                rw [hme, ← HWS.out] at hJ2
                obtain ⟨VL, vlc, hvl⟩ := Kd.R_slice hJ2.1
                subst hvl
                have CL := Aside0.mk (Kd.R_reads' hJ2.1).2.2
                have CXq := Aside0.mk (Kd.C_below CX.out (HBS.out _ hJ2.2.1))
                have BF := Aside0.mk (below_then BX.out BX.out.size (HBS.out _ hJ2.2.1))
                clear hJ hJ2 hme
                go_wp2_with fail
                refine (ints_any VX kx ws VL vlc ws wr CXq.out CL.out).mono ?_
                rintro e wz ⟨rfl, mz, hwz⟩
                rw [decide_eq_true rfl]
                have BZ : Aside0 (Below W.heap.size W wz) := ⟨by rw [hwz]; exact pw_below_drewN BF.out mz⟩
                clear hwz
                go_wp2_with fail
                go_ret
                exact ⟨rfl, BZ.out⟩
          · obtain rfl : r = false := HR.out.trans (decide_eq_false hR)
            have g1 := HSK.out.refused hR
            rw [g1] at he
            subst he
            clear hN9 g1 hR
            go_wp2_with fail
            go_ret
            exact ⟨rfl, B9.out⟩
end Go.Proofs.Ytajblhainchplaa

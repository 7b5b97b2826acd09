/- Layer 19: the walk of the law LocksPlays, its argument. -/
import Derived.Test.YtajblhainchplaaJ22
import Derived.Test.YtajblhainchplaaJ13
set_option linter.unusedVariables false
set_option linter.unusedSimpArgs false
namespace Go.Proofs.Ytajblhainchplaa
open Go.RowKit Go.Proofs.YtajblhainchplaaW.PrintWords Go.Proofs.YtajblhainchplaaW.PrintLast Go.Proofs.Ytajblhainchplaa.Opn
def OpZ (x : Opn) : Prop := x.l.length * 48 ≤ 140737488351232 ∧ ∀ s ∈ x.l, LkZ s
section
attribute [local irreducible] Opens OpensF
theorem o31 : Opens Try.prog 31 kOp OpZ :=
  opens_imp (opens_iso (fun x : Opn => (x.what, x.pos, x.l)) (fun p => ⟨p.1, p.2.1, p.2.2⟩) (fun _ => rfl) (opens_struct Try.underlying31 (by kernel_rfl) (opensF_cons rfl (by kernel_rfl) o3 (opensF_cons rfl (by kernel_rfl) o3 (opensF_one rfl (by kernel_rfl) o29))))) (fun x h => h.2.2)
theorem o28 : Opens Try.prog 28 (Kd.slice 31 kOp) (fun xs => xs.length * 40 ≤ 140737488351232 ∧ ∀ x ∈ xs, OpZ x) := opens_slice Try.underlying28 (by kernel_rfl) (B := 40) (by kernel_rfl) o31
end
theorem plays_any (t : TS) (x : Opn) (B : Option Addr) (d : Nat) (w : World) (base p r : Nat) (K : Nat) (W0 : World) (hB0 : Below W0.heap.size W0 w) (hp0 : W0.heap.size ≤ p) (hr0 : W0.heap.size ≤ r) (hD0 : HDuo w base p r t) (hC : kLk.C W0 B x.l.length x.l) (hz : x.l.length * 48 ≤ 140737488351232)
    (hK : NB t K) (hK2 : K * 32 ≤ 140737488355000) :
    Calls Try.prog 26 #[.pointer (some ⟨p, 0, none⟩), .pointer (some ⟨r, 0, none⟩), .agg #[.int .i64 x.what, .int .i64 x.pos, .slice B x.l.length d]] w (PlPost base p r K w) := by
  by_cases h1 : x.what = 1
  · exact plays_ask t x B d w base p r K W0 hB0 hp0 hr0 hD0 hC hz hK hK2 h1
  · by_cases h2 : x.what = 2
    · exact plays_free t x B d w base p r K hD0 hK hK2 h2
    · by_cases h4 : x.what = 4
      · exact plays_waits t x B d w base p r K hD0 hK hK2 h4
      · by_cases h5 : x.what = 5
        · exact plays_locks t x B d w base p r K hD0 hK hK2 h5
        · exact plays_granted t x B d w base p r K hD0 hK hK2 ⟨h1, h2, h4, h5⟩
set_option maxRecDepth 100000 in
set_option maxHeartbeats 8000000 in
theorem locksPlays_any (A : Option Addr) (n1 c : Nat) (xs : List Opn) (W : World) (hC : kOp.C W A n1 xs) (hnc : n1 ≤ c) (hZ : xs.length * 40 ≤ 140737488351232 ∧ ∀ x ∈ xs, OpZ x) :
    Calls Try.prog 6 #[.slice A n1 c] W fun e W' => e = .returned (.bool true) ∧ Below W.heap.size W W' := by
  obtain rfl : xs.length = n1 := hC.1
  have HC := Aside0.mk hC
  have HZ := Lib.hid hZ
  have hz := hZ.1
  clear hC hZ
  go_enter Try.func6, Try.ntmps6
  go_wp2_with fail
  refine (weighs_any A c xs W HC.out HZ.out.1 HZ.out.2).mono ?_
  rintro e w1 ⟨⟨n, rfl⟩, m1, hw1⟩
  have B1 : Aside0 (Below W.heap.size W w1) := ⟨by rw [hw1]; exact pw_below_drewN (Below.refl _ _) m1⟩
  have HC1 := Aside0.mk (Kd.C_below HC.out B1.out)
  clear hw1
  by_cases hn : 2147483647 < n
  · go_wp2_with fail
    go_ret
    exact ⟨rfl, B1.out⟩
  · go_wp2_with fail
    refine (awake_any w1).mono ?_
    rintro e w2 ⟨rfl, hb2⟩
    have B2 := Aside0.mk hb2
    clear hb2
    go_wp2_with fail
    refine (new_any w2).mono ?_
    rintro e w3 ⟨rfl, hp3, hs3, hb3⟩
    obtain ⟨p, hp⟩ : ∃ q, q = w2.heap.size := ⟨_, rfl⟩
    rw [← hp] at hp3 hs3 ⊢
    have B3 := Aside0.mk (below_then B2.out B2.out.size hb3)
    have P3 := Aside0.mk hp3
    have HP := Lib.hid hp
    have HS3 := Lib.hid hs3
    have hpw : w1.heap.size ≤ p := by have := B2.out.size; omega
    clear hp hp3 hs3 hb3
    go_wp2_with fail
    refine (rnew_any w3).mono ?_
    rintro e w4 ⟨rfl, hr4, hs4, hb4⟩
    obtain ⟨r, hr⟩ : ∃ q, q = w3.heap.size := ⟨_, rfl⟩
    rw [← hr] at hr4 hs4 ⊢
    obtain ⟨base, hbase⟩ : ∃ b, b = w4.heap.size := ⟨_, rfl⟩
    have B4 := Aside0.mk (below_then B3.out B3.out.size hb4)
    have hpr : p < r := by have := HS3.out; omega
    have hrb : r < base := by omega
    have hrw : w1.heap.size ≤ r := by omega
    have hD : HDuo w4 base p r t0 := duo_mk (okP := fun _ => False) (okQ := fun _ => False) (TNet.start (blk_below P3.out hb4) (by omega) (fun h => h)) (RNet.start hr4 (by omega) (fun h => h)) (fun _ _ h _ => h) (by omega) (by omega)
    have HD := Aside0.mk hD
    have HBASE := Lib.hid hbase
    clear hr hr4 hs4 hb4 hD hbase
    go_wp2_with fail
    go_loopg [7] xs.length (fun gn i wr => ∃ (k : Nat) (t : TS), i = .int .i64 k ∧ Aside0 (k + gn = xs.length ∧ NB t k) ∧ Aside0 (HDuo wr base p r t ∧ Below w1.heap.size w1 wr))
    case atStart => exact ⟨0, t0, rfl, ⟨by omega, ⟨by simp [t0], Srt.start⟩⟩, ⟨HD.out, B4.out⟩⟩
    case round =>
      obtain ⟨k, ts, rfl, ⟨hgn, hNB⟩, hI⟩ := hrel
      have HGN := Lib.hid hgn
      have HNB := Lib.hid hNB
      have hkl : k ≤ xs.length := by omega
      clear hgn hNB
      by_cases hkk : k < xs.length
      · obtain ⟨ad, x, B, d, rfl, hx, hxm, q0, q1, q2, hl, hCb⟩ := op_at HC1.out hI.out.2 k hkk
        have HC0 := Aside0.mk hCb
        have hzx : x.l.length * 48 ≤ 140737488351232 := (HZ.out.2 x hxm).1
        have p0 : (0 : Int) ≤ k := by omega
        have p1 : (k : Int) < xs.length := by omega
        clear hx hxm hl hCb
        go_wp2_with fail
        refine (plays_any ts x B d wr base p r k w1 hI.out.2 hpw hrw hI.out.1 HC0.out hzx HNB.out (by omega)).mono ?_
        rintro e w5 ⟨rfl, ⟨n5, hN5, hD5⟩, hM5⟩
        have D5 := Aside0.mk (And.intro hD5 (Mod.below hI.out.2 hM5 hI.out.2.size (fun i hi => by omega)))
        have N5 := Lib.hid hN5
        clear hN5 hD5 hM5
        go_wp2_with fail
        go_roundg (xs.length - (k + 1))
        case measure => have := HGN.out; omega
        case rel => exact ⟨k + 1, n5, by go_num, ⟨by have := HGN.out; omega, N5.out⟩, D5⟩
      · have p1 : ¬ (k : Int) < xs.length := by omega
        obtain ⟨okP, okQ, A2, c2, A3, c3, hD⟩ := hI.out.1
        have D := Aside0.mk hD
        have hlen : ts.l.length * 32 ≤ 140737488355000 := by have := HNB.out.1; omega
        clear hD
        obtain ⟨ls, hls⟩ : ∃ ls, ls = ts.l.map (·.pos) := ⟨_, rfl⟩
        have HLS := Lib.hid hls
        clear hls
        go_wp2_with fail
        refine (held_any ts A2 c2 base p okP wr D.out.P (by omega)).mono ?_
        rintro e w5 ⟨v5, rfl, hv5, hb5⟩
        rw [← HLS.out] at hv5
        obtain ⟨V5, k5, rfl⟩ := Kd.R_slice hv5
        have C5 := Aside0.mk (Kd.R_reads' hv5).2.2
        have D5 := Aside0.mk (D.out.below hb5)
        have B5 := Aside0.mk (below_then hI.out.2 hI.out.2.size hb5)
        clear hv5 hb5
        go_wp2_with fail
        refine (open_any ts A3 c3 base r okQ w5 D5.out.R (by omega)).mono ?_
        rintro e w6 ⟨v6, rfl, hv6, hb6⟩
        rw [← HLS.out] at hv6
        obtain ⟨V6, k6, rfl⟩ := Kd.R_slice hv6
        have C6 := Aside0.mk (Kd.R_reads' hv6).2.2
        have C56 := Aside0.mk (Kd.C_below C5.out hb6)
        have D6 := Aside0.mk (D5.out.below hb6)
        have B6 := Aside0.mk (below_then B5.out B5.out.size hb6)
        clear hv6 hb6
        go_wp2_with fail
        refine (ready_any ts A2 c2 base p okP w6 D6.out.P (by omega)).mono ?_
        rintro e w7 ⟨v7, rfl, hv7, hb7⟩
        obtain ⟨V7, k7, rfl⟩ := Kd.R_slice hv7
        have C7 := Aside0.mk (Kd.R_reads' hv7).2.2
        have C57 := Aside0.mk (Kd.C_below C56.out hb7)
        have C67 := Aside0.mk (Kd.C_below C6.out hb7)
        have D7 := Aside0.mk (D6.out.below hb7)
        have B7 := Aside0.mk (below_then B6.out B6.out.size hb7)
        clear hv7 hb7
        go_wp2_with fail
        refine (rgranted_any ts A3 c3 base r okQ w7 D7.out.R (by omega) HNB.out.2).mono ?_
        rintro e w8 ⟨v8, rfl, hv8, hb8⟩
        obtain ⟨V8, k8, rfl⟩ := Kd.R_slice hv8
        have C8 := Aside0.mk (Kd.R_reads' hv8).2.2
        have C58 := Aside0.mk (Kd.C_below C57.out hb8)
        have C68 := Aside0.mk (Kd.C_below C67.out hb8)
        have C78 := Aside0.mk (Kd.C_below C7.out hb8)
        have B8 := Aside0.mk (below_then B7.out B7.out.size hb8)
        clear hv8 hb8
        go_wp2_with fail
        refine (ints_any V5 k5 ls V6 k6 ls w8 C58.out C68.out).mono ?_
        rintro e w9 ⟨rfl, m9, hw9⟩
        rw [decide_eq_true rfl]
        have hb9 : Below w8.heap.size w8 w9 := by rw [hw9]; exact pw_below_drewN (Below.refl _ _) m9
        have C79 := Aside0.mk (Kd.C_below C78.out hb9)
        have C89 := Aside0.mk (Kd.C_below C8.out hb9)
        have B9 := Aside0.mk (below_then B8.out B8.out.size hb9)
        clear hw9 hb9
        go_wp2_with fail
        refine (ints_any V7 k7 ts.ready V8 k8 ts.ready w9 C79.out C89.out).mono ?_
        rintro e w10 ⟨rfl, m10, hw10⟩
        rw [decide_eq_true rfl]
        have B10 : Aside0 (Below w1.heap.size w1 w10) := ⟨by rw [hw10]; exact pw_below_drewN B9.out m10⟩
        clear hw10
        go_wp2_with fail
        go_ret
        exact ⟨rfl, below_then B1.out B1.out.size B10.out⟩
end Go.Proofs.Ytajblhainchplaa

/- Layer 23: the walk of the law LinksPlays. -/
import Derived.Test.YtlnneaccgfakeaaK17
set_option linter.unusedVariables false
set_option linter.unusedSimpArgs false
namespace Go.Proofs.Ytlnneaccgfakeaa
open Go.RowKit Go.Proofs.YtlnneaccgfakeaaW.PrintWords Go.Proofs.YtlnneaccgfakeaaW.PrintLast
def OpZ (x : Opn) : Prop := x.m.body.length * 16 ≤ 140737488351232 ∧ ∀ s ∈ x.m.body, s.size ≤ 140737488351232
def opEnd : Opn := ⟨5, 0, default⟩
set_option maxRecDepth 100000 in
set_option maxHeartbeats 8000000 in
theorem linksPlays_any {Pf : Prop} (nd : Int) (A : Option Addr) (n1 c : Nat) (xs : List Opn) (W : World) (_ : Pf) (hC : kOp.C W A n1 xs) (hnc : n1 ≤ c) (hZ : xs.length * 72 ≤ 140737488351232 ∧ ∀ x ∈ xs, OpZ x) :
    Calls Try.prog 4 #[.int .i64 nd, .slice A n1 c] W fun e W' => e = .returned (.bool true) ∧ Below W.heap.size W W' := by
  obtain rfl : xs.length = n1 := hC.1
  have HC := Aside0.mk hC
  have HZ := Lib.hid hZ
  have hz := hZ.1
  clear hC hZ
  go_enter Try.func4, Try.ntmps4
  go_wp2_with fail
  refine (weighs_any A c xs W HC.out HZ.out.1 HZ.out.2).mono ?_
  rintro e w1 ⟨⟨n, rfl⟩, hw1⟩
  subst hw1
  by_cases hn : 2147483647 < n
  · go_wp2_with fail
    go_ret
    exact ⟨rfl, Below.refl _ _⟩
  · go_wp2_with fail
    refine (awake_any w1).mono ?_
    rintro e w2 ⟨rfl, hb2⟩
    have B2 := Aside0.mk hb2
    clear hb2
    by_cases hk : okNodes nd
    · go_wp2_with fail
      refine (new_ok nd w2 hk).mono ?_
      rintro e w3 ⟨rfl, hp3, hs3, hb3⟩
      obtain ⟨p, hp⟩ : ∃ q, q = w2.heap.size := ⟨_, rfl⟩
      rw [← hp] at hp3 hs3 ⊢
      have B3 := Aside0.mk (below_then B2.out B2.out.size hb3)
      have P3 := Aside0.mk hp3
      have HP := Lib.hid hp
      have HS3 := Lib.hid hs3
      have hpw : w1.heap.size ≤ p := by have := B2.out.size; omega
      clear hp hp3 hs3 hb3
      go_wp2_with fail
      refine (rnew_ok nd w3 hk).mono ?_
      rintro e w4 ⟨rfl, hr4, hs4, hb4⟩
      obtain ⟨r, hr⟩ : ∃ q, q = w3.heap.size := ⟨_, rfl⟩
      rw [← hr] at hr4 hs4 ⊢
      obtain ⟨base, hbase⟩ : ∃ b, b = w4.heap.size := ⟨_, rfl⟩
      have B4 := Aside0.mk (below_then B3.out B3.out.size hb4)
      have hpr : p < r := by have := HS3.out; omega
      have hrb : r < base := by omega
      have hrw : w1.heap.size ≤ r := by omega
      have hD : HDuo w4 base p r (n0 nd) := duo_mk (okP := fun _ => False) (okQ := fun _ => False) (PNet.start (blk_below P3.out hb4) (by omega) (fun h => h)) (RNet.start hr4 (by omega) (fun h => h)) (fun _ _ h _ => h) (by omega) (by omega)
      have HD := Aside0.mk hD
      have HBASE := Lib.hid hbase
      clear hr hr4 hs4 hb4 hD hbase
      go_wp2_with fail
      go_loopg [11, 12] xs.length (fun gn i fv wr => ∃ (k : Nat) (n : NS), i = .int .i64 k ∧ Aside0 (k + gn = xs.length ∧ NB n k ∧ n.nodes = nd) ∧ Aside0 (HDuo wr base p r n ∧ Below w1.heap.size w1 wr))
      case atStart => exact ⟨0, n0 nd, rfl, ⟨by omega, by unfold NB n0; simp, rfl⟩, ⟨HD.out, B4.out⟩⟩
      case round =>
        obtain ⟨k, ns, rfl, ⟨hgn, hNB, hnd⟩, hI⟩ := hrel
        have HGN := Lib.hid hgn
        have HNB := Lib.hid hNB
        have HND := Lib.hid hnd
        have hgk := HGN.out
        have hkl : k ≤ xs.length := by omega
        clear hgn hNB hnd hgk
        by_cases hkk : k < xs.length
        · obtain ⟨ad, x, B, d, rfl, hx, hxm, q0, q1, q2, q3, q4, q5, q6, hl, hCb⟩ := op_at HC.out hI.out.2 k hkk
          have hC0 : Kd.string.C w1 B x.m.body.length x.m.body := by
            obtain ⟨ad', x', B', d', h1, h2, _, _, _, _, _, _, _, h6, _, h7⟩ := op_at HC.out (Below.refl _ _) k hkk
            obtain rfl : ad = ad' := Option.some.inj h1
            obtain rfl : x = x' := hx.symm.trans h2
            have h8 := pw_cell_below hI.out.2 h6
            rw [q6] at h8
            simp only [Option.some.injEq, Value.slice.injEq] at h8
            rw [h8.1]
            exact h7
          have HC0 := Aside0.mk hC0
          have hzx : x.m.body.length * 16 ≤ 140737488355328 := by have := (HZ.out.2 x hxm).1; omega
          have p0 : (0 : Int) ≤ k := by omega
          have p1 : (k : Int) < xs.length := by omega
          clear hx hxm hl hCb hC0
          go_wp2_with fail
          refine (plays_any ns x B d wr base p r k w1 hI.out.2 hpw hrw hI.out.1 HC0.out hzx HNB.out (by omega)).mono ?_
          rintro e w5 ⟨rfl, ⟨n5, hN5, hn5, hD5⟩, hM5⟩
          have D5 := Aside0.mk (And.intro hD5 (Mod.below hI.out.2 hM5 hI.out.2.size (fun i hi => by omega)))
          have N5 := Lib.hid hN5
          have E5 := Lib.hid (hn5.trans HND.out)
          clear hN5 hn5 hD5 hM5
          go_wp2_with fail
          go_roundg (xs.length - (k + 1))
          case measure => have := HGN.out; omega
          case rel => exact ⟨k + 1, n5, by go_num, ⟨by omega, by have := N5.out; rw [show ((k + 1 : Nat) : Int) = (k : Int) + 1 from by omega]; exact this, E5.out⟩, D5⟩
        · have p1 : ¬ (k : Int) < xs.length := by omega
          go_wp2_with fail
          refine (plays_any ns opEnd none 0 wr base p r k w1 hI.out.2 hpw hrw hI.out.1 (Kd.C_nil _ _) (by decide) HNB.out (by omega)).mono ?_
          rintro e w5 ⟨rfl, ⟨n5, hN5, hn5, hD5⟩, hM5⟩
          have D5 := Aside0.mk (And.intro hD5 (Mod.below hI.out.2 hM5 hI.out.2.size (fun i hi => by omega)))
          have N5 := Lib.hid hN5
          have E5 := Lib.hid (hn5.trans HND.out)
          clear hN5 hn5 hD5 hM5
          go_wp2_with fail
          refine (plays_any n5 opEnd none 0 w5 base p r (k + 1) w1 D5.out.2 hpw hrw D5.out.1 (Kd.C_nil _ _) (by decide) N5.out (by omega)).mono ?_
          rintro e w6 ⟨rfl, ⟨n6, hN6, hn6, hD6⟩, hM6⟩
          have D6 := Aside0.mk (And.intro hD6 (Mod.below D5.out.2 hM6 D5.out.2.size (fun i hi => by omega)))
          have E6 := Lib.hid (hn6.trans E5.out)
          clear hN6 hn6 hD6 hM6
          go_wp2_with fail
          obtain ⟨okP, okQ, A', c', xs', A'', c'', hD⟩ := D6.out.1
          refine (nodes_any n6 _ p w6 hD.P.blk).mono ?_
          rintro e w7 ⟨rfl, hw7⟩
          subst hw7
          clear hD
          have he := int_beq_true E6.out
          go_wp2_with fail
          go_ret
          exact ⟨rfl, D6.out.2⟩
    · go_wp2_with fail
      refine (new_no nd w2 hk).mono ?_
      rintro e w3 ⟨rfl, hw3⟩
      subst hw3
      go_wp2_with fail
      refine (rnew_no nd w3 hk).mono ?_
      rintro e w4 ⟨rfl, hw4⟩
      subst hw4
      go_wp2_with fail
      go_ret
      exact ⟨rfl, B2.out⟩
end Go.Proofs.Ytlnneaccgfakeaa

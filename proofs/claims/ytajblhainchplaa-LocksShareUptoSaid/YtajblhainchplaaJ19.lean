/- Layer 19: the walk of weighs. -/
import Derived.Test.YtajblhainchplaaJ18
set_option linter.unusedVariables false
set_option linter.unusedSimpArgs false
namespace Go.Proofs.Ytajblhainchplaa
open Go.RowKit Go.Proofs.YtajblhainchplaaW.PrintWords Go.Proofs.YtajblhainchplaaW.PrintLast
set_option maxRecDepth 100000 in
set_option maxHeartbeats 4000000 in
theorem weighs_any (A : Option Addr) (c : Nat) (xs : List Opn) (w : World) (hC : kOp.C w A xs.length xs) (hz : xs.length * 40 ≤ 140737488351232) (hb : ∀ x ∈ xs, x.l.length * 48 ≤ 140737488351232 ∧ ∀ s ∈ x.l, s.lo.size ≤ 140737488351232 ∧ s.hi.size ≤ 140737488351232) :
    Calls Try.prog 12 #[.slice A xs.length c] w fun e w' => (∃ n : Int, e = .returned (.int .i64 n)) ∧ ∃ m, w' = w.drewN m := by
  have HC := Aside0.mk hC
  have HB := Lib.hid hb
  clear hC hb
  go_enter Try.func12, Try.ntmps12
  go_wp2_with fail
  go_loopg [3, 4] xs.length (fun gn v i wr => ∃ (k : Nat) (m : Int), v = .int .i64 m ∧ i = .int .i64 k ∧ Aside0 (k + gn = xs.length) ∧ Drawn0 w wr)
  case atStart => exact ⟨0, _, rfl, rfl, ⟨by omega⟩, Drawn0.refl _⟩
  case round =>
    obtain ⟨k, m, rfl, rfl, ⟨hgn⟩, ⟨nq, rfl⟩⟩ := hrel
    have HGN := Lib.hid hgn
    clear hgn
    by_cases hk : k < xs.length
    · have p0 : (0 : Int) ≤ k := by omega
      have p1 : (k : Int) < xs.length := by omega
      by_cases hm : m ≤ 2147483647
      · obtain ⟨ad, x, B, d, rfl, hx, hxm, q0, q1, q2, hl, hCb⟩ := op_at HC.out (Below.refl _ _) k hk
        have HCB := Aside0.mk hCb
        have HBX := Lib.hid (HB.out x hxm)
        have hbl := (HB.out x hxm).1
        clear hx hxm hCb q0 q1
        go_wp2_with fail
        go_loopg [3, 5] x.l.length (fun gn v i wr' => ∃ (j : Nat) (m : Int), v = .int .i64 m ∧ i = .int .i64 j ∧ Aside0 (j + gn = x.l.length) ∧ Drawn0 w wr')
        case atStart => exact ⟨0, _, rfl, rfl, ⟨by omega⟩, ⟨⟨_, rfl⟩⟩⟩
        case round =>
          obtain ⟨j, m2, rfl, rfl, ⟨hgn2⟩, ⟨nq2, rfl⟩⟩ := hrel
          have HGN2 := Lib.hid hgn2
          clear hgn2
          by_cases hj : j < x.l.length
          · have p2 : (0 : Int) ≤ j := by omega
            have p3 : (j : Int) < x.l.length := by omega
            by_cases hm2 : m2 ≤ 2147483647
            · obtain ⟨bd, s, rfl, hs, hsm, hst, r0, r1, r2, r3⟩ := lk_at HCB.out (Below.refl _ _) j hj
              have hsz := (HBX.out.2 s hsm).1
              have hsz2 := (HBX.out.2 s hsm).2
              clear hs hsm hst r0 r3
              go_wp2_with fail
              go_quiet (fail)
              go_wp2_with fail
              go_roundg (x.l.length - (j + 1))
              case measure => have := HGN2.out; omega
              case rel => exact ⟨j + 1, _, rfl, by go_num, ⟨by have := HGN2.out; omega⟩, ⟨⟨_, rfl⟩⟩⟩
            · go_wp2_with fail
              go_roundg (xs.length - (k + 1))
              case measure => have := HGN.out; omega
              case rel => exact ⟨k + 1, _, rfl, by go_num, ⟨by have := HGN.out; omega⟩, ⟨⟨_, rfl⟩⟩⟩
          · have p3 : ¬ (j : Int) < x.l.length := by omega
            go_wp2_with fail
            go_roundg (xs.length - (k + 1))
            case measure => have := HGN.out; omega
            case rel => exact ⟨k + 1, _, rfl, by go_num, ⟨by have := HGN.out; omega⟩, ⟨⟨_, rfl⟩⟩⟩
      · go_wp2_with fail
        go_ret
        exact ⟨⟨_, rfl⟩, _, rfl⟩
    · have p1 : ¬ (k : Int) < xs.length := by omega
      go_wp2_with fail
      go_ret
      exact ⟨⟨_, rfl⟩, _, rfl⟩
end Go.Proofs.Ytajblhainchplaa

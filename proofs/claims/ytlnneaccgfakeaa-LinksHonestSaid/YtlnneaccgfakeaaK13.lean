/- Layer 23: the walks of overwritten, weighs. -/
import Derived.Test.YtlnneaccgfakeaaK12
set_option linter.unusedVariables false
set_option linter.unusedSimpArgs false
namespace Go.Proofs.Ytlnneaccgfakeaa
open Go.RowKit Go.Proofs.YtlnneaccgfakeaaW.PrintWords Go.Proofs.YtlnneaccgfakeaaW.PrintLast
def ShMsg (w : World) (ok : Nat → Prop) (v : Value) : Prop := ShRow w ok (fun g j => Has w g (j * 5 + 3) (tag (.int .i64 0)) ∧ ∃ u, Has w g (j * 5 + 4) (tag u) ∧ ShStr w ok u) v
theorem shMsg_of {w : World} {base : Nat} {ok : Nat → Prop} {v : Value} {xs : List Msg} (h : kMsg.R 32 w base ok v xs) : ShMsg w ok v :=
  sh_of_R h (fun g cur j x cs hh hM hc => by
    rw [kMsg_M] at hM
    obtain ⟨u, rfl, hR⟩ := hM
    exact ⟨⟨cur, 32, _, hh, hc 3 _ rfl (by decide), rfl⟩, u, ⟨cur, 32, _, hh, hc 4 _ rfl (by decide), rfl⟩, shStr_of (Kd.R_mono hR (fun _ h => h.1))⟩)
set_option maxRecDepth 100000 in
set_option maxHeartbeats 4000000 in
theorem overwritten_any (ok : Nat → Prop) (A : Option Addr) (n c : Nat) (w : World) (hS : ShMsg w ok (.slice A n c)) :
    Calls Try.prog 24 #[.slice A n c] w fun e w' => e = .returned (.tuple #[]) ∧ Kin w w' ok := by
  have hn1 : n ≤ 9223372036854775807 := by obtain ⟨_, _, _, he, hn, _⟩ := hS; injection he with h1 h2 h3; omega
  have HS := Aside0.mk hS
  clear hS
  go_enter Try.func24, Try.ntmps24
  go_wp2_with fail
  go_loopg [2] n (fun gn i wr => ∃ k : Nat, i = .int .i64 k ∧ Aside0 (k + gn = n) ∧ Aside0 (Kin w wr ok))
  case atStart => exact ⟨0, rfl, ⟨by omega⟩, ⟨Kin.refl _ _⟩⟩
  case round =>
    obtain ⟨k, rfl, ⟨hgn⟩, hK⟩ := hrel
    have HGN := Lib.hid hgn
    clear hgn
    by_cases hk : k < n
    · obtain ⟨g, rfl, hokg, e3, u, e4, hu⟩ := HS.out.at_ k hk
      obtain ⟨B, m, d, rfl, hm, _⟩ := id hu
      have E3 := Aside0.mk e3
      have E4 := Aside0.mk e4
      have HU := Aside0.mk hu
      have HOKG := Aside0.mk hokg
      have p0 : (0 : Int) ≤ k := by omega
      have p1 : (k : Int) < n := by omega
      clear e3 e4 hu hokg
      go_wp2_with fail
      go_loopg [3] m (fun gn i wr => ∃ j : Nat, i = .int .i64 j ∧ Aside0 (j + gn = m) ∧ Aside0 (Kin w wr ok))
      case atStart => exact ⟨0, rfl, ⟨by omega⟩, hK⟩
      case round =>
        obtain ⟨j, rfl, ⟨hgn2⟩, hK2⟩ := hrel
        have HGN2 := Lib.hid hgn2
        clear hgn2 hK
        have q4 := (hK2.out.has E4.out).slice
        by_cases hj : j < m
        · obtain ⟨gb, rfl, hokb, es⟩ := HU.out.at_ j hj
          obtain ⟨s0, q0⟩ := (hK2.out.has es).string
          have z0 := (hK2.out.has es).frozen
          have hK3 := Aside0.mk (hK2.out.set (v := .string ⟨#[109, 97, 114, 107]⟩) es hokb)
          have p2 : (0 : Int) ≤ j := by omega
          have p3 : (j : Int) < m := by omega
          clear es hokb
          go_wp2_with fail
          go_roundg (m - (j + 1))
          case measure => have := HGN2.out; omega
          case rel => exact ⟨j + 1, by go_num, ⟨by have := HGN2.out; omega⟩, hK3⟩
        · obtain ⟨n3, q3⟩ := (hK2.out.has E3.out).int
          have z3 := (hK2.out.has E3.out).frozen
          have hK3 := Aside0.mk (hK2.out.set (v := .int .i64 (-99)) E3.out HOKG.out)
          have p3 : ¬ (j : Int) < m := by omega
          go_wp2_with fail
          go_roundg (n - (k + 1))
          case measure => have := HGN.out; omega
          case rel => exact ⟨k + 1, by go_num, ⟨by have := HGN.out; omega⟩, hK3⟩
    · go_wp2_with fail
      go_end0
      exact ⟨rfl, hK.out⟩
/-- One of a script: what it does, a place, a message. -/
structure Opn where
  what : Int
  at_ : Int
  m : Msg
instance : Inhabited Opn := ⟨⟨0, 0, default⟩⟩
def kOp : Kd Opn := Kd.iso (Kd.pair (Kd.int .i64) (Kd.pair (Kd.int .i64) kMsg)) (fun x => (x.what, x.at_, x.m))
theorem kOp_K {w : World} {x : Opn} {cs : List Value} : kOp.K w x cs ↔ ∃ A c, cs = [.int .i64 x.what, .int .i64 x.at_, .int .i64 x.m.src, .int .i64 x.m.dst, .int .i64 x.m.kind, .int .i64 x.m.pos, .slice A x.m.body.length c] ∧ x.m.body.length ≤ c ∧ Kd.string.C w A x.m.body.length x.m.body := by
  constructor
  · rintro ⟨_, _, rfl, rfl, _, _, rfl, rfl, h⟩
    obtain ⟨A, c, rfl, hl, hC⟩ := kMsg_K.1 h
    exact ⟨A, c, rfl, hl, hC⟩
  · rintro ⟨A, c, rfl, hl, hC⟩
    exact ⟨[_], [_, _, _, _, _, _], rfl, rfl, [_], [_, _, _, _, _], rfl, rfl, kMsg_K.2 ⟨A, c, rfl, hl, hC⟩⟩
theorem op_at {w wr : World} {A : Option Addr} {n : Nat} {xs : List Opn} (h : kOp.C w A n xs) (hb : Below w.heap.size w wr) (k : Nat) (hk : k < n) :
    ∃ ad x B d, A = some ad ∧ xs.getD k default = x ∧ x ∈ xs ∧ wr.cell? (ad.add (k * 7)) = some (.int .i64 x.what) ∧
      wr.cell? { block := (ad.add (k * 7)).block, off := (ad.add (k * 7)).off + 1 } = some (.int .i64 x.at_) ∧ wr.cell? { block := (ad.add (k * 7)).block, off := (ad.add (k * 7)).off + 2 } = some (.int .i64 x.m.src) ∧
      wr.cell? { block := (ad.add (k * 7)).block, off := (ad.add (k * 7)).off + 3 } = some (.int .i64 x.m.dst) ∧ wr.cell? { block := (ad.add (k * 7)).block, off := (ad.add (k * 7)).off + 4 } = some (.int .i64 x.m.kind) ∧
      wr.cell? { block := (ad.add (k * 7)).block, off := (ad.add (k * 7)).off + 5 } = some (.int .i64 x.m.pos) ∧ wr.cell? { block := (ad.add (k * 7)).block, off := (ad.add (k * 7)).off + 6 } = some (.slice B x.m.body.length d) ∧
      x.m.body.length ≤ d ∧ Kd.string.C w B x.m.body.length x.m.body := by
  obtain ⟨ad, cs, rfl, hlen, hcs, hcell⟩ := C_at h k hk default
  rw [kOp_K] at hcs
  obtain ⟨B, d, rfl, hl, hC⟩ := hcs
  have hkl : k < xs.length := by rw [h.1]; exact hk
  exact ⟨ad, _, B, d, rfl, rfl, getD_mem xs k default hkl, pw_cell_below hb (hcell 0 _ rfl), pw_cell_below hb (cell_off (j := 0) (hcell 1 _ rfl)), pw_cell_below hb (cell_off (j := 1) (hcell 2 _ rfl)), pw_cell_below hb (cell_off (j := 2) (hcell 3 _ rfl)), pw_cell_below hb (cell_off (j := 3) (hcell 4 _ rfl)), pw_cell_below hb (cell_off (j := 4) (hcell 5 _ rfl)), pw_cell_below hb (cell_off (j := 5) (hcell 6 _ rfl)), hl, hC⟩
set_option maxRecDepth 100000 in
set_option maxHeartbeats 4000000 in
theorem weighs_any (A : Option Addr) (c : Nat) (xs : List Opn) (w : World) (hC : kOp.C w A xs.length xs) (hz : xs.length * 72 ≤ 140737488351232) (hb : ∀ x ∈ xs, x.m.body.length * 16 ≤ 140737488351232 ∧ ∀ s ∈ x.m.body, s.size ≤ 140737488351232) :
    Calls Try.prog 5 #[.slice A xs.length c] w fun e w' => (∃ n : Int, e = .returned (.int .i64 n)) ∧ w' = w := by
  have HC := Aside0.mk hC
  have HB := Lib.hid hb
  clear hC hb
  go_enter Try.func5, Try.ntmps5
  go_wp2_with fail
  go_loopg [3, 4] xs.length (fun gn v i wr => ∃ (k : Nat) (m : Int), v = .int .i64 m ∧ i = .int .i64 k ∧ Aside0 (k + gn = xs.length) ∧ wr = w)
  case atStart => exact ⟨0, _, rfl, rfl, ⟨by omega⟩, rfl⟩
  case round =>
    obtain ⟨k, m, rfl, rfl, ⟨hgn⟩, rfl⟩ := hrel
    have HGN := Lib.hid hgn
    clear hgn
    by_cases hk : k < xs.length
    · have p0 : (0 : Int) ≤ k := by omega
      have p1 : (k : Int) < xs.length := by omega
      by_cases hm : m ≤ 2147483647
      · obtain ⟨ad, x, B, d, rfl, hx, hxm, q0, q1, q2, q3, q4, q5, q6, hl, hCb⟩ := op_at HC.out (Below.refl _ _) k hk
        have HCB := Aside0.mk hCb
        have HBX := Lib.hid (HB.out x hxm)
        have hbl := (HB.out x hxm).1
        clear hx hxm hCb q0 q1 q2 q3 q4 q5
        go_wp2_with fail
        go_loopg [3, 5] x.m.body.length (fun gn v i wr' => ∃ (j : Nat) (m : Int), v = .int .i64 m ∧ i = .int .i64 j ∧ Aside0 (j + gn = x.m.body.length) ∧ wr' = wr)
        case atStart => exact ⟨0, _, rfl, rfl, ⟨by omega⟩, rfl⟩
        case round =>
          obtain ⟨j, m2, rfl, rfl, ⟨hgn2⟩, hw⟩ := hrel
          subst hw
          have HGN2 := Lib.hid hgn2
          clear hgn2
          by_cases hj : j < x.m.body.length
          · have p2 : (0 : Int) ≤ j := by omega
            have p3 : (j : Int) < x.m.body.length := by omega
            by_cases hm2 : m2 ≤ 2147483647
            · obtain ⟨bd, s, rfl, hs, hsm, hst, r0⟩ := str_el HCB.out (Below.refl _ _) j hj
              have hsz := HBX.out.2 s hsm
              clear hs hsm hst
              go_wp2_with fail
              go_roundg (x.m.body.length - (j + 1))
              case measure => have := HGN2.out; omega
              case rel => exact ⟨j + 1, _, rfl, by go_num, ⟨by have := HGN2.out; omega⟩, rfl⟩
            · go_wp2_with fail
              go_roundg (xs.length - (k + 1))
              case measure => have := HGN.out; omega
              case rel => exact ⟨k + 1, _, rfl, by go_num, ⟨by have := HGN.out; omega⟩, rfl⟩
          · have p3 : ¬ (j : Int) < x.m.body.length := by omega
            go_wp2_with fail
            go_roundg (xs.length - (k + 1))
            case measure => have := HGN.out; omega
            case rel => exact ⟨k + 1, _, rfl, by go_num, ⟨by have := HGN.out; omega⟩, rfl⟩
      · go_wp2_with fail
        go_ret
        exact ⟨⟨_, rfl⟩, rfl⟩
    · have p1 : ¬ (k : Int) < xs.length := by omega
      go_wp2_with fail
      go_ret
      exact ⟨⟨_, rfl⟩, rfl⟩
end Go.Proofs.Ytlnneaccgfakeaa

/- Layer 8: the walk of Turned. -/
import Derived.Test.YtcmgdieeclninaaD28
set_option linter.unusedVariables false
set_option linter.unusedSimpArgs false
namespace Go.Proofs.Ytcmgdieeclninaa
open Go.RowKit Go.Proofs.YtcmgdieeclninaaW.PrintWords Go.Proofs.YtcmgdieeclninaaW.PrintLast
theorem ShRow.at_ {w : World} {ok : Nat → Prop} {el : Nat → Nat → Prop} {A : Option Addr} {n c : Nat} (h : ShRow w ok el (.slice A n c)) (k : Nat) (hk : k < n) : ∃ g, A = some ⟨g, 0, none⟩ ∧ ok g ∧ el g k := by
  obtain ⟨A', n', c', he, hn, hr⟩ := h
  injection he with h1 h2 h3
  subst h1 h2 h3
  obtain ⟨g, h1, h2, h3⟩ := hr (by omega)
  exact ⟨g, h1, h2, h3 k hk⟩
/-- The kinds are kept, and these new blocks are as they are told. -/
def KJ (w wr : World) (ok : Nat → Prop) (L : List (Nat × Obj)) : Prop := Kin w wr ok ∧ ∀ p ∈ L, wr.heap[p.1]? = some p.2 ∧ w.heap.size ≤ p.1
theorem KJ.set {w wr : World} {ok : Nat → Prop} {L : List (Nat × Obj)} (h : KJ w wr ok L) {g i : Nat} {v : Value} (hh : Has w g i (tag v)) (hg : ok g) : KJ w (wr.setCell ⟨g, i, none⟩ v) ok L :=
  ⟨h.1.set hh hg, fun p hp => ⟨(Below.heap_setCell wr ⟨g, i, none⟩ v p.1 (fun he => by have := hh.lt; have h2 := (h.2 p hp).2; have h3 : p.1 = g := he; omega)).trans (h.2 p hp).1, (h.2 p hp).2⟩⟩
theorem KJ.alloc {w wr : World} {ok : Nat → Prop} {L : List (Nat × Obj)} (h : KJ w wr ok L) (o : Obj) : KJ w (wr.alloc o) ok ((wr.heap.size, o) :: L) :=
  ⟨h.1.below (below_alloc (Below.refl _ _) o), fun p hp => by
    rcases List.mem_cons.1 hp with rfl | hp
    · exact ⟨blk_alloc _ _, h.1.size⟩
    · exact ⟨blk_alloc' (h.2 p hp).1, (h.2 p hp).2⟩⟩
theorem KJ.drop {w wr : World} {ok : Nat → Prop} {p : Nat × Obj} {L : List (Nat × Obj)} (h : KJ w wr ok (p :: L)) : KJ w wr ok L := ⟨h.1, fun q hq => h.2 q (List.mem_cons_of_mem _ hq)⟩
theorem KJ.hd {w wr : World} {ok : Nat → Prop} {g : Nat} {o : Obj} {L : List (Nat × Obj)} (h : KJ w wr ok ((g, o) :: L)) : wr.heap[g]? = some o := (h.2 _ List.mem_cons_self).1
theorem KJ.nx {w wr : World} {ok : Nat → Prop} {g : Nat} {o : Obj} {q : Nat × Obj} {L : List (Nat × Obj)} (h : KJ w wr ok (q :: (g, o) :: L)) : wr.heap[g]? = some o := h.drop.hd
set_option maxRecDepth 100000 in
set_option maxHeartbeats 8000000 in
theorem turned_any (ok : Nat → Prop) (A1 : Option Addr) (n1 c1 : Nat) (A2 : Option Addr) (n2 c2 : Nat) (w : World) (hT0 : ShTab w ok (.slice A1 n1 c1)) (hP0 : ShPrc w ok (.slice A2 n2 c2)) :
    Calls Try.prog 19 #[.agg #[.slice A1 n1 c1, .slice A2 n2 c2]] w fun e w' => e = .returned (.tuple #[]) ∧ Kin w w' ok := by
  have hn1 : n1 ≤ 9223372036854775807 := by obtain ⟨_, _, _, he, hn, _⟩ := hT0; injection he with h1 h2 h3; omega
  have hn2 : n2 ≤ 9223372036854775807 := by obtain ⟨_, _, _, he, hn, _⟩ := hP0; injection he with h1 h2 h3; omega
  have HT := Aside0.mk hT0
  have HP := Aside0.mk hP0
  clear hT0 hP0
  go_enter Try.func19, Try.ntmps19
  go_wp2_with fail
  have hJ0 := (show KJ w w ok [] from ⟨Kin.refl w ok, fun p hp => by simp at hp⟩).alloc (Obj.cells #[.slice A1 n1 c1, .slice A2 n2 c2] 25)
  obtain ⟨b1, hb1⟩ : ∃ b, b = w.heap.size := ⟨_, rfl⟩
  rw [← hb1] at hJ0
  rw [← hb1]
  have HJ0 := Aside0.mk hJ0
  clear hJ0 hb1
  go_loopg [2] n1 (fun gn i wr => ∃ k : Nat, i = .int .i64 k ∧ Aside0 (k + gn = n1) ∧ Aside0 (KJ w wr ok [(b1, Obj.cells #[.slice A1 n1 c1, .slice A2 n2 c2] 25)]))
  case atStart => exact ⟨0, rfl, ⟨by omega⟩, HJ0⟩
  case round =>
    obtain ⟨k, rfl, ⟨hgn⟩, hJ⟩ := hrel
    have HGN := Lib.hid hgn
    clear hgn HJ0
    have f1 : wr.cell? ⟨b1, 0, none⟩ = some (.slice A1 n1 c1) := blk_cell hJ.out.hd 0
    by_cases hk : k < n1
    · obtain ⟨g, rfl, hokg, e0, e3, u1, u2, u3, e1, hc, e2, hi, e4, hx⟩ := HT.out.at_ k hk
      obtain ⟨B1, m1, d1, rfl, hm1, _⟩ := id hc
      obtain ⟨B2, m2, d2, rfl, hm2, _⟩ := id hi
      obtain ⟨B3, m3, d3, rfl, hm3, _⟩ := id hx
      obtain ⟨s, q0⟩ := (hJ.out.1.has e0).string
      have q1 := (hJ.out.1.has e1).slice
      have q2 := (hJ.out.1.has e2).slice
      obtain ⟨p, q3⟩ := (hJ.out.1.has e3).int
      have q4 := (hJ.out.1.has e4).slice
      have HC := Aside0.mk hc
      have HI := Aside0.mk hi
      have HX := Aside0.mk hx
      have E0 := Aside0.mk e0
      have HOKG := Aside0.mk hokg
      clear hc hi hx e0 e1 e2 e3 e4 hokg
      have p0 : (0 : Int) ≤ k := by omega
      have p1 : (k : Int) < n1 := by omega
      go_wp2_with fail
      have hJa := hJ.out.alloc (Obj.cells #[.string s, .slice B1 m1 d1, .slice B2 m2 d2, .int .i64 p, .slice B3 m3 d3] 30)
      obtain ⟨wa, hwa⟩ : ∃ u, u = wr.alloc (Obj.cells #[.string s, .slice B1 m1 d1, .slice B2 m2 d2, .int .i64 p, .slice B3 m3 d3] 30) := ⟨_, rfl⟩
      obtain ⟨b3, hb3⟩ : ∃ b, b = wr.heap.size := ⟨_, rfl⟩
      rw [← hwa, ← hb3] at hJa
      rw [← hwa, ← hb3]
      have HJA := Aside0.mk hJa
      clear hJa hwa hb3 q0 q1 q2 q3 q4 f1
      go_loopg [4] m1 (fun gn i wr => ∃ k2 : Nat, i = .int .i64 k2 ∧ Aside0 (k2 + gn = m1) ∧ Aside0 (KJ w wr ok [(b3, Obj.cells #[.string s, .slice B1 m1 d1, .slice B2 m2 d2, .int .i64 p, .slice B3 m3 d3] 30), (b1, Obj.cells #[.slice (some ⟨g, 0, none⟩) n1 c1, .slice A2 n2 c2] 25)]))
      case atStart => exact ⟨0, rfl, ⟨by omega⟩, HJA⟩
      case round =>
        obtain ⟨k2, rfl, ⟨hgn2⟩, hJ2⟩ := hrel
        have HGN2 := Lib.hid hgn2
        clear hgn2 HJA hJ
        have f1 : wr.cell? ⟨b3, 1, none⟩ = some (.slice B1 m1 d1) := blk_cell hJ2.out.hd 1
        by_cases hk2 : k2 < m1
        · obtain ⟨g2, rfl, hokg2, e0, e1, e2⟩ := HC.out.at_ k2 hk2
          obtain ⟨y0, q0⟩ := (hJ2.out.1.has e0).string
          obtain ⟨y1, q1⟩ := (hJ2.out.1.has e1).int
          obtain ⟨y2, q2⟩ := (hJ2.out.1.has e2).bool
          have z0 := (hJ2.out.1.has e0).frozen
          have z1 := (hJ2.out.1.has e1).frozen
          have z2 := (hJ2.out.1.has e2).frozen
          have hJ3 := Aside0.mk (((hJ2.out.set (v := .string ⟨#[]⟩) e0 hokg2).set (v := .int .i64 (-7)) e1 hokg2).set (v := .bool false) e2 hokg2)
          clear e0 e1 e2 hokg2
          have p2 : (0 : Int) ≤ k2 := by omega
          have p3 : (k2 : Int) < m1 := by omega
          go_wp2_with fail
          go_roundg (m1 - (k2 + 1))
          case measure => have := HGN2.out; omega
          case rel => exact ⟨k2 + 1, by go_num, ⟨by have := HGN2.out; omega⟩, hJ3⟩
        · go_wp2_with fail
          clear f1
          go_loopg [5] m2 (fun gn i wr => ∃ k3 : Nat, i = .int .i64 k3 ∧ Aside0 (k3 + gn = m2) ∧ Aside0 (KJ w wr ok [(b3, Obj.cells #[.string s, .slice B1 m1 d1, .slice B2 m2 d2, .int .i64 p, .slice B3 m3 d3] 30), (b1, Obj.cells #[.slice (some ⟨g, 0, none⟩) n1 c1, .slice A2 n2 c2] 25)]))
          case atStart => exact ⟨0, rfl, ⟨by omega⟩, hJ2⟩
          case round =>
            obtain ⟨k3, rfl, ⟨hgn3⟩, hJ3⟩ := hrel
            have HGN3 := Lib.hid hgn3
            clear hgn3 hJ2
            have f2 : wr.cell? ⟨b3, 2, none⟩ = some (.slice B2 m2 d2) := blk_cell hJ3.out.hd 2
            by_cases hk3 : k3 < m2
            · obtain ⟨g3, rfl, hokg3, e0⟩ := HI.out.at_ k3 hk3
              obtain ⟨y0, q0⟩ := (hJ3.out.1.has e0).int
              have z0 := (hJ3.out.1.has e0).frozen
              have hJ4 := Aside0.mk (hJ3.out.set (v := .int .i64 (-7)) e0 hokg3)
              clear e0 hokg3
              have p2 : (0 : Int) ≤ k3 := by omega
              have p3 : (k3 : Int) < m2 := by omega
              go_wp2_with fail
              go_roundg (m2 - (k3 + 1))
              case measure => have := HGN3.out; omega
              case rel => exact ⟨k3 + 1, by go_num, ⟨by have := HGN3.out; omega⟩, hJ4⟩
            · go_wp2_with fail
              clear f2
              go_loopg [6] m3 (fun gn i wr => ∃ k4 : Nat, i = .int .i64 k4 ∧ Aside0 (k4 + gn = m3) ∧ Aside0 (KJ w wr ok [(b3, Obj.cells #[.string s, .slice B1 m1 d1, .slice B2 m2 d2, .int .i64 p, .slice B3 m3 d3] 30), (b1, Obj.cells #[.slice (some ⟨g, 0, none⟩) n1 c1, .slice A2 n2 c2] 25)]))
              case atStart => exact ⟨0, rfl, ⟨by omega⟩, hJ3⟩
              case round =>
                obtain ⟨k4, rfl, ⟨hgn4⟩, hJ4⟩ := hrel
                have HGN4 := Lib.hid hgn4
                clear hgn4 hJ3
                have f4 : wr.cell? ⟨b3, 4, none⟩ = some (.slice B3 m3 d3) := blk_cell hJ4.out.hd 4
                by_cases hk4 : k4 < m3
                · obtain ⟨g4, rfl, hokg4, e0, u, e1, hu⟩ := HX.out.at_ k4 hk4
                  obtain ⟨C1, l1, r1, rfl, hl1, _⟩ := id hu
                  have HU := Aside0.mk hu
                  have EE0 := Aside0.mk e0
                  have EE1 := Aside0.mk e1
                  have HOKG4 := Aside0.mk hokg4
                  clear hu e0 e1 hokg4
                  have p4 : (0 : Int) ≤ k4 := by omega
                  have p5 : (k4 : Int) < m3 := by omega
                  go_wp2_with fail
                  clear f4
                  go_loopg [7] l1 (fun gn i wr => ∃ k5 : Nat, i = .int .i64 k5 ∧ Aside0 (k5 + gn = l1) ∧ Aside0 (KJ w wr ok [(b3, Obj.cells #[.string s, .slice B1 m1 d1, .slice B2 m2 d2, .int .i64 p, .slice (some ⟨g4, 0, none⟩) m3 d3] 30), (b1, Obj.cells #[.slice (some ⟨g, 0, none⟩) n1 c1, .slice A2 n2 c2] 25)]))
                  case atStart => exact ⟨0, rfl, ⟨by omega⟩, hJ4⟩
                  case round =>
                    obtain ⟨k5, rfl, ⟨hgn5⟩, hJ5⟩ := hrel
                    have HGN5 := Lib.hid hgn5
                    clear hgn5 hJ4
                    have f4 : wr.cell? ⟨b3, 4, none⟩ = some (.slice (some ⟨g4, 0, none⟩) m3 d3) := blk_cell hJ5.out.hd 4
                    have f5 := (hJ5.out.1.has EE1.out).slice
                    by_cases hk5 : k5 < l1
                    · obtain ⟨g5, rfl, hokg5, e0⟩ := HU.out.at_ k5 hk5
                      obtain ⟨y0, q0⟩ := (hJ5.out.1.has e0).int
                      have z0 := (hJ5.out.1.has e0).frozen
                      have hJ6 := Aside0.mk (hJ5.out.set (v := .int .i64 (-7)) e0 hokg5)
                      clear e0 hokg5
                      have p6 : (0 : Int) ≤ k5 := by omega
                      have p7 : (k5 : Int) < l1 := by omega
                      go_wp2_with fail
                      go_roundg (l1 - (k5 + 1))
                      case measure => have := HGN5.out; omega
                      case rel => exact ⟨k5 + 1, by go_num, ⟨by have := HGN5.out; omega⟩, hJ6⟩
                    · obtain ⟨y0, q0⟩ := (hJ5.out.1.has EE0.out).string
                      have z0 := (hJ5.out.1.has EE0.out).frozen
                      have hJ6 := Aside0.mk (hJ5.out.set (v := .string ⟨#[109, 97, 114, 107]⟩) EE0.out HOKG4.out)
                      go_wp2_with fail
                      go_roundg (m3 - (k4 + 1))
                      case measure => have := HGN4.out; omega
                      case rel => exact ⟨k4 + 1, by go_num, ⟨by have := HGN4.out; omega⟩, hJ6⟩
                · obtain ⟨y0, q0⟩ := (hJ4.out.1.has E0.out).string
                  have z0 := (hJ4.out.1.has E0.out).frozen
                  have hJ6 := Aside0.mk (hJ4.out.set (v := .string ⟨#[109, 97, 114, 107]⟩) E0.out HOKG.out).drop
                  have f0 : wr.cell? ⟨b1, 0, none⟩ = some (.slice (some ⟨g, 0, none⟩) n1 c1) := blk_cell hJ4.out.nx 0
                  go_wp2_with fail
                  go_roundg (n1 - (k + 1))
                  case measure => have := HGN.out; omega
                  case rel => exact ⟨k + 1, by go_num, ⟨by have := HGN.out; omega⟩, hJ6⟩
    · go_wp2_with fail
      clear f1
      go_loopg [8] n2 (fun gn i wr => ∃ k : Nat, i = .int .i64 k ∧ Aside0 (k + gn = n2) ∧ Aside0 (KJ w wr ok [(b1, Obj.cells #[.slice A1 n1 c1, .slice A2 n2 c2] 25)]))
      case atStart => exact ⟨0, rfl, ⟨by omega⟩, hJ⟩
      case round =>
        obtain ⟨k, rfl, ⟨hgn⟩, hJ1⟩ := hrel
        have HGN := Lib.hid hgn
        clear hgn hJ
        have f1 : wr.cell? ⟨b1, 1, none⟩ = some (.slice A2 n2 c2) := blk_cell hJ1.out.hd 1
        by_cases hk : k < n2
        · obtain ⟨g, rfl, hokg, e0, e3, e4, u1, u2, e1, hc, e2, hi⟩ := HP.out.at_ k hk
          obtain ⟨B1, m1, d1, rfl, hm1, _⟩ := id hc
          obtain ⟨B2, m2, d2, rfl, hm2, _⟩ := id hi
          obtain ⟨s, q0⟩ := (hJ1.out.1.has e0).string
          have q1 := (hJ1.out.1.has e1).slice
          have q2 := (hJ1.out.1.has e2).slice
          obtain ⟨p, q3⟩ := (hJ1.out.1.has e3).int
          obtain ⟨p4, q4⟩ := (hJ1.out.1.has e4).int
          have HC := Aside0.mk hc
          have HI := Aside0.mk hi
          have E0 := Aside0.mk e0
          have HOKG := Aside0.mk hokg
          clear hc hi e0 e1 e2 e3 e4 hokg
          have p0 : (0 : Int) ≤ k := by omega
          have p1 : (k : Int) < n2 := by omega
          go_wp2_with fail
          have hJa := hJ1.out.alloc (Obj.cells #[.string s, .slice B1 m1 d1, .slice B2 m2 d2, .int .i64 p, .int .i64 p4] 34)
          obtain ⟨wa, hwa⟩ : ∃ u, u = wr.alloc (Obj.cells #[.string s, .slice B1 m1 d1, .slice B2 m2 d2, .int .i64 p, .int .i64 p4] 34) := ⟨_, rfl⟩
          obtain ⟨b3, hb3⟩ : ∃ b, b = wr.heap.size := ⟨_, rfl⟩
          rw [← hwa, ← hb3] at hJa
          rw [← hwa, ← hb3]
          have HJA := Aside0.mk hJa
          clear hJa hwa hb3 q0 q1 q2 q3 q4 f1
          go_loopg [10] m1 (fun gn i wr => ∃ k2 : Nat, i = .int .i64 k2 ∧ Aside0 (k2 + gn = m1) ∧ Aside0 (KJ w wr ok [(b3, Obj.cells #[.string s, .slice B1 m1 d1, .slice B2 m2 d2, .int .i64 p, .int .i64 p4] 34), (b1, Obj.cells #[.slice A1 n1 c1, .slice (some ⟨g, 0, none⟩) n2 c2] 25)]))
          case atStart => exact ⟨0, rfl, ⟨by omega⟩, HJA⟩
          case round =>
            obtain ⟨k2, rfl, ⟨hgn2⟩, hJ2⟩ := hrel
            have HGN2 := Lib.hid hgn2
            clear hgn2 HJA hJ1
            have f1 : wr.cell? ⟨b3, 1, none⟩ = some (.slice B1 m1 d1) := blk_cell hJ2.out.hd 1
            by_cases hk2 : k2 < m1
            · obtain ⟨g2, rfl, hokg2, e0, e1⟩ := HC.out.at_ k2 hk2
              obtain ⟨y0, q0⟩ := (hJ2.out.1.has e0).string
              obtain ⟨y1, q1⟩ := (hJ2.out.1.has e1).int
              have z0 := (hJ2.out.1.has e0).frozen
              have z1 := (hJ2.out.1.has e1).frozen
              have hJ3 := Aside0.mk ((hJ2.out.set (v := .string ⟨#[]⟩) e0 hokg2).set (v := .int .i64 (-7)) e1 hokg2)
              clear e0 e1 hokg2
              have p2 : (0 : Int) ≤ k2 := by omega
              have p3 : (k2 : Int) < m1 := by omega
              go_wp2_with fail
              go_roundg (m1 - (k2 + 1))
              case measure => have := HGN2.out; omega
              case rel => exact ⟨k2 + 1, by go_num, ⟨by have := HGN2.out; omega⟩, hJ3⟩
            · go_wp2_with fail
              clear f1
              go_loopg [11] m2 (fun gn i wr => ∃ k3 : Nat, i = .int .i64 k3 ∧ Aside0 (k3 + gn = m2) ∧ Aside0 (KJ w wr ok [(b3, Obj.cells #[.string s, .slice B1 m1 d1, .slice B2 m2 d2, .int .i64 p, .int .i64 p4] 34), (b1, Obj.cells #[.slice A1 n1 c1, .slice (some ⟨g, 0, none⟩) n2 c2] 25)]))
              case atStart => exact ⟨0, rfl, ⟨by omega⟩, hJ2⟩
              case round =>
                obtain ⟨k3, rfl, ⟨hgn3⟩, hJ3⟩ := hrel
                have HGN3 := Lib.hid hgn3
                clear hgn3 hJ2
                have f2 : wr.cell? ⟨b3, 2, none⟩ = some (.slice B2 m2 d2) := blk_cell hJ3.out.hd 2
                by_cases hk3 : k3 < m2
                · obtain ⟨g3, rfl, hokg3, e0⟩ := HI.out.at_ k3 hk3
                  obtain ⟨y0, q0⟩ := (hJ3.out.1.has e0).string
                  have z0 := (hJ3.out.1.has e0).frozen
                  have hJ4 := Aside0.mk (hJ3.out.set (v := .string ⟨#[109, 97, 114, 107]⟩) e0 hokg3)
                  clear e0 hokg3
                  have p2 : (0 : Int) ≤ k3 := by omega
                  have p3 : (k3 : Int) < m2 := by omega
                  go_wp2_with fail
                  go_roundg (m2 - (k3 + 1))
                  case measure => have := HGN3.out; omega
                  case rel => exact ⟨k3 + 1, by go_num, ⟨by have := HGN3.out; omega⟩, hJ4⟩
                · obtain ⟨y0, q0⟩ := (hJ3.out.1.has E0.out).string
                  have z0 := (hJ3.out.1.has E0.out).frozen
                  have hJ6 := Aside0.mk (hJ3.out.set (v := .string ⟨#[109, 97, 114, 107]⟩) E0.out HOKG.out).drop
                  have f0 : wr.cell? ⟨b1, 1, none⟩ = some (.slice (some ⟨g, 0, none⟩) n2 c2) := blk_cell hJ3.out.nx 1
                  go_wp2_with fail
                  go_roundg (n2 - (k + 1))
                  case measure => have := HGN.out; omega
                  case rel => exact ⟨k + 1, by go_num, ⟨by have := HGN.out; omega⟩, hJ6⟩
        · go_wp2_with fail
          go_end0
          exact ⟨rfl, hJ1.out.1⟩
end Go.Proofs.Ytcmgdieeclninaa

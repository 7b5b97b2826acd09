/- Layer 8: the walk of weighs. -/
import Derived.Test.YtcmgdieeclninaaD29
set_option linter.unusedVariables false
set_option linter.unusedSimpArgs false
namespace Go.Proofs.Ytcmgdieeclninaa
open Go.RowKit Go.Proofs.YtcmgdieeclninaaW.PrintWords Go.Proofs.YtcmgdieeclninaaW.PrintLast
/-- What was there stays, and these new blocks are as they are told. -/
def PJ (w wr : World) (L : List (Nat × Obj)) : Prop := Below w.heap.size w wr ∧ ∀ p ∈ L, wr.heap[p.1]? = some p.2 ∧ w.heap.size ≤ p.1
theorem PJ.nil (w : World) : PJ w w [] := ⟨Below.refl _ _, fun p hp => by simp at hp⟩
theorem PJ.below {w wr wr' : World} {L : List (Nat × Obj)} (h : PJ w wr L) (hb : Below wr.heap.size wr wr') : PJ w wr' L :=
  ⟨below_then h.1 h.1.size hb, fun p hp => ⟨blk_below (h.2 p hp).1 hb, (h.2 p hp).2⟩⟩
theorem PJ.alloc {w wr : World} {L : List (Nat × Obj)} (h : PJ w wr L) (o : Obj) : PJ w (wr.alloc o) ((wr.heap.size, o) :: L) :=
  ⟨(h.below (below_alloc (Below.refl _ _) o)).1, fun p hp => by
    rcases List.mem_cons.1 hp with rfl | hp
    · exact ⟨blk_alloc _ _, h.1.size⟩
    · exact ⟨blk_alloc' (h.2 p hp).1, (h.2 p hp).2⟩⟩
theorem PJ.drop {w wr : World} {p : Nat × Obj} {L : List (Nat × Obj)} (h : PJ w wr (p :: L)) : PJ w wr L := ⟨h.1, fun q hq => h.2 q (List.mem_cons_of_mem _ hq)⟩
theorem PJ.hd {w wr : World} {g : Nat} {o : Obj} {L : List (Nat × Obj)} (h : PJ w wr ((g, o) :: L)) : wr.heap[g]? = some o := (h.2 _ List.mem_cons_self).1
theorem PJ.nx {w wr : World} {g : Nat} {o : Obj} {q : Nat × Obj} {L : List (Nat × Obj)} (h : PJ w wr (q :: (g, o) :: L)) : wr.heap[g]? = some o := h.drop.hd
theorem PJ.drewN {w wr : World} {L : List (Nat × Obj)} (h : PJ w wr L) (n : Nat) : PJ w (wr.drewN n) L := ⟨pw_below_drewN h.1 n, h.2⟩
set_option maxRecDepth 100000 in
set_option maxHeartbeats 16000000 in
theorem weighs_any (c : Cat) (A1 : Option Addr) (c1 : Nat) (A2 : Option Addr) (c2 : Nat) (w : World)
    (hC1 : kTab.C w A1 c.tables.length c.tables) (hC2 : kPrc.C w A2 c.procs.length c.procs) (hbd : BdCat c) (hsz : SzCat c) :
    Calls Try.prog 9 #[.agg #[.slice A1 c.tables.length c1, .slice A2 c.procs.length c2]] w fun e w' => ∃ n : Int, e = .returned (.int .i64 n) ∧ Below w.heap.size w w' := by
  have hn1 := hC1.2.1
  have hn2 := hC2.2.1
  have HC1 := Aside0.mk hC1
  have HC2 := Aside0.mk hC2
  have HBD := Lib.hid hbd
  have HSZ := Lib.hid hsz
  have hz1 := hsz.1
  have hz2 := hsz.2.1
  clear hC1 hC2 hbd hsz
  go_enter Try.func9, Try.ntmps9
  have hJ0 := (PJ.nil w).alloc (Obj.cells #[.slice A1 c.tables.length c1, .slice A2 c.procs.length c2] 25)
  go_wp2_with fail
  obtain ⟨b1, hb1⟩ : ∃ b, b = w.heap.size := ⟨_, rfl⟩
  rw [← hb1] at hJ0
  rw [← hb1]
  have HJ0 := Aside0.mk hJ0
  clear hJ0 hb1
  go_loopg [3, 4] c.tables.length (fun gn v i wr => ∃ (k : Nat) (m : Int), v = .int .i64 m ∧ i = .int .i64 k ∧ Aside0 (k + gn = c.tables.length) ∧ Aside0 (PJ w wr [(b1, Obj.cells #[.slice A1 c.tables.length c1, .slice A2 c.procs.length c2] 25)]))
  case atStart => exact ⟨0, _, rfl, rfl, ⟨by omega⟩, HJ0⟩
  case round =>
    obtain ⟨k1, m1, rfl, rfl, ⟨gn1⟩, hJ1⟩ := hrel
    have HGN1 := Lib.hid gn1
    clear gn1 HJ0
    have f1 : wr.cell? ⟨b1, 0, none⟩ = some (.slice A1 c.tables.length c1) := blk_cell hJ1.out.hd 0
    by_cases hk1 : k1 < c.tables.length
    · have p10 : (0 : Int) ≤ k1 := by omega
      have p11 : (k1 : Int) < c.tables.length := by omega
      by_cases hm1 : m1 ≤ 2147483647
      · skip
        skip
        obtain ⟨ad, x, B1, d1, B2, d2, B3, d3, rfl, hx, hmem0, hts0, q0, q1, q2, q3, q4, hc1, hc2, hc3⟩ := tab_at HC1.out hJ1.out.1 k1 hk1
        have HX1 := Aside0.mk hc1.2
        have HX3 := Aside0.mk hc3.2
        have hl1 := hc1.2.2.1
        have hl3 := hc3.2.2.1
        have HBX := Lib.hid (HBD.out.1 x hmem0)
        have hzx1 := (HSZ.out.2.2.1 x hmem0).1
        have hzx2 := (HSZ.out.2.2.1 x hmem0).2.1
        have hzx3 := (HSZ.out.2.2.1 x hmem0).2.2.1
        have HSX := Lib.hid (HSZ.out.2.2.1 x hmem0)
        clear hx hmem0 hts0 hc1 hc2 hc3
        have hJa := hJ1.out.alloc (Obj.cells #[.string x.name, .slice B1 x.cols.length d1, .slice B2 x.key.length d2, .int .i64 x.part, .slice B3 x.idx.length d3] 30)
        have g0 : (wr.alloc (Obj.cells #[.string x.name, .slice B1 x.cols.length d1, .slice B2 x.key.length d2, .int .i64 x.part, .slice B3 x.idx.length d3] 30)).cell? ⟨wr.heap.size, 0, none⟩ = some (.string x.name) := blk_cell hJa.hd 0
        have g1 : (wr.alloc (Obj.cells #[.string x.name, .slice B1 x.cols.length d1, .slice B2 x.key.length d2, .int .i64 x.part, .slice B3 x.idx.length d3] 30)).cell? ⟨wr.heap.size, 1, none⟩ = some (.slice B1 x.cols.length d1) := blk_cell hJa.hd 1
        have g2 : (wr.alloc (Obj.cells #[.string x.name, .slice B1 x.cols.length d1, .slice B2 x.key.length d2, .int .i64 x.part, .slice B3 x.idx.length d3] 30)).cell? ⟨wr.heap.size, 2, none⟩ = some (.slice B2 x.key.length d2) := blk_cell hJa.hd 2
        have g4 : (wr.alloc (Obj.cells #[.string x.name, .slice B1 x.cols.length d1, .slice B2 x.key.length d2, .int .i64 x.part, .slice B3 x.idx.length d3] 30)).cell? ⟨wr.heap.size, 4, none⟩ = some (.slice B3 x.idx.length d3) := blk_cell hJa.hd 4
        go_wp2_with fail
        obtain ⟨wa, hwa⟩ : ∃ u, u = wr.alloc (Obj.cells #[.string x.name, .slice B1 x.cols.length d1, .slice B2 x.key.length d2, .int .i64 x.part, .slice B3 x.idx.length d3] 30) := ⟨_, rfl⟩
        obtain ⟨b3, hb3⟩ : ∃ b, b = wr.heap.size := ⟨_, rfl⟩
        rw [← hwa, ← hb3] at hJa
        rw [← hwa, ← hb3]
        have HJA := Aside0.mk hJa
        clear hJa hwa hb3 q0 q1 q2 q3 q4 g0 g1 g2 g4 f1 hJ1
        go_loopg [3, 6] x.cols.length (fun gn v i wr => ∃ (k : Nat) (m : Int), v = .int .i64 m ∧ i = .int .i64 k ∧ Aside0 (k + gn = x.cols.length) ∧ Aside0 (PJ w wr [(b3, Obj.cells #[.string x.name, .slice B1 x.cols.length d1, .slice B2 x.key.length d2, .int .i64 x.part, .slice B3 x.idx.length d3] 30), (b1, Obj.cells #[.slice (some ad) c.tables.length c1, .slice A2 c.procs.length c2] 25)]))
        case atStart => exact ⟨0, _, rfl, rfl, ⟨by omega⟩, HJA⟩
        case round =>
          obtain ⟨k2, m2, rfl, rfl, ⟨gn2⟩, hJ2⟩ := hrel
          have HGN2 := Lib.hid gn2
          clear gn2 HJA
          have f2 : wr.cell? ⟨b3, 1, none⟩ = some (.slice B1 x.cols.length d1) := blk_cell hJ2.out.hd 1
          by_cases hk2 : k2 < x.cols.length
          · have p20 : (0 : Int) ≤ k2 := by omega
            have p21 : (k2 : Int) < x.cols.length := by omega
            by_cases hm2 : m2 ≤ 2147483647
            · skip
              obtain ⟨ad2, y, rfl, hy, hym, hyt, r0, r1, r2⟩ := col_at HX1.out hJ2.out.1 k2 hk2
              have hzn := HBX.out.2.1 y hym
              clear hy hym hyt
              go_wp2_with fail
              go_roundg (x.cols.length - (k2 + 1))
              case measure => have := HGN2.out; omega
              case rel => exact ⟨k2 + 1, _, rfl, by go_num, ⟨by have := HGN2.out; omega⟩, hJ2⟩
            · skip
              go_wp2_with fail
              clear f2
              go_loopg [3, 7] x.idx.length (fun gn v i wr => ∃ (k : Nat) (m : Int), v = .int .i64 m ∧ i = .int .i64 k ∧ Aside0 (k + gn = x.idx.length) ∧ Aside0 (PJ w wr [(b3, Obj.cells #[.string x.name, .slice B1 x.cols.length d1, .slice B2 x.key.length d2, .int .i64 x.part, .slice B3 x.idx.length d3] 30), (b1, Obj.cells #[.slice (some ad) c.tables.length c1, .slice A2 c.procs.length c2] 25)]))
              case atStart => exact ⟨0, _, rfl, rfl, ⟨by omega⟩, hJ2⟩
              case round =>
                obtain ⟨k3, m3, rfl, rfl, ⟨gn3⟩, hJ3⟩ := hrel
                have HGN3 := Lib.hid gn3
                clear gn3 hJ2
                have f2 : wr.cell? ⟨b3, 4, none⟩ = some (.slice B3 x.idx.length d3) := blk_cell hJ3.out.hd 4
                by_cases hk3 : k3 < x.idx.length
                · have p30 : (0 : Int) ≤ k3 := by omega
                  have p31 : (k3 : Int) < x.idx.length := by omega
                  by_cases hm3 : m3 ≤ 2147483647
                  · skip
                    obtain ⟨ad3, y, Y1, y1, rfl, hy, hym, hyt, r0, r1, r2, hlx, hCx⟩ := idx_at HX3.out hJ3.out.1 k3 hk3
                    have hzn := HBX.out.2.2 y hym
                    have hzc := HSX.out.2.2.2 y hym
                    clear hy hym hyt hCx
                    go_wp2_with fail
                    go_quiet (fail)
                    go_wp2_with fail
                    go_roundg (x.idx.length - (k3 + 1))
                    case measure => have := HGN3.out; omega
                    case rel => exact ⟨k3 + 1, _, rfl, by go_num, ⟨by have := HGN3.out; omega⟩, ⟨hJ3.out.drewN _⟩⟩
                  · skip
                    go_wp2_with fail
                    go_roundg (c.tables.length - (k1 + 1))
                    case measure => have := HGN1.out; omega
                    case rel => exact ⟨k1 + 1, _, rfl, by go_num, ⟨by have := HGN1.out; omega⟩, ⟨hJ3.out.drop⟩⟩
                · skip
                  go_wp2_with fail
                  go_roundg (c.tables.length - (k1 + 1))
                  case measure => have := HGN1.out; omega
                  case rel => exact ⟨k1 + 1, _, rfl, by go_num, ⟨by have := HGN1.out; omega⟩, ⟨hJ3.out.drop⟩⟩
          · skip
            go_wp2_with fail
            clear f2
            go_loopg [3, 7] x.idx.length (fun gn v i wr => ∃ (k : Nat) (m : Int), v = .int .i64 m ∧ i = .int .i64 k ∧ Aside0 (k + gn = x.idx.length) ∧ Aside0 (PJ w wr [(b3, Obj.cells #[.string x.name, .slice B1 x.cols.length d1, .slice B2 x.key.length d2, .int .i64 x.part, .slice B3 x.idx.length d3] 30), (b1, Obj.cells #[.slice (some ad) c.tables.length c1, .slice A2 c.procs.length c2] 25)]))
            case atStart => exact ⟨0, _, rfl, rfl, ⟨by omega⟩, hJ2⟩
            case round =>
              obtain ⟨k3, m3, rfl, rfl, ⟨gn3⟩, hJ3⟩ := hrel
              have HGN3 := Lib.hid gn3
              clear gn3 hJ2
              have f2 : wr.cell? ⟨b3, 4, none⟩ = some (.slice B3 x.idx.length d3) := blk_cell hJ3.out.hd 4
              by_cases hk3 : k3 < x.idx.length
              · have p30 : (0 : Int) ≤ k3 := by omega
                have p31 : (k3 : Int) < x.idx.length := by omega
                by_cases hm3 : m3 ≤ 2147483647
                · skip
                  obtain ⟨ad3, y, Y1, y1, rfl, hy, hym, hyt, r0, r1, r2, hlx, hCx⟩ := idx_at HX3.out hJ3.out.1 k3 hk3
                  have hzn := HBX.out.2.2 y hym
                  have hzc := HSX.out.2.2.2 y hym
                  clear hy hym hyt hCx
                  go_wp2_with fail
                  go_quiet (fail)
                  go_wp2_with fail
                  go_roundg (x.idx.length - (k3 + 1))
                  case measure => have := HGN3.out; omega
                  case rel => exact ⟨k3 + 1, _, rfl, by go_num, ⟨by have := HGN3.out; omega⟩, ⟨hJ3.out.drewN _⟩⟩
                · skip
                  go_wp2_with fail
                  go_roundg (c.tables.length - (k1 + 1))
                  case measure => have := HGN1.out; omega
                  case rel => exact ⟨k1 + 1, _, rfl, by go_num, ⟨by have := HGN1.out; omega⟩, ⟨hJ3.out.drop⟩⟩
              · skip
                go_wp2_with fail
                go_roundg (c.tables.length - (k1 + 1))
                case measure => have := HGN1.out; omega
                case rel => exact ⟨k1 + 1, _, rfl, by go_num, ⟨by have := HGN1.out; omega⟩, ⟨hJ3.out.drop⟩⟩
      · skip
        go_wp2_with fail
        clear f1
        go_loopg [3, 8] c.procs.length (fun gn v i wr => ∃ (k : Nat) (m : Int), v = .int .i64 m ∧ i = .int .i64 k ∧ Aside0 (k + gn = c.procs.length) ∧ Aside0 (PJ w wr [(b1, Obj.cells #[.slice A1 c.tables.length c1, .slice A2 c.procs.length c2] 25)]))
        case atStart => exact ⟨0, _, rfl, rfl, ⟨by omega⟩, hJ1⟩
        case round =>
          obtain ⟨k4, m4, rfl, rfl, ⟨gn4⟩, hJ4⟩ := hrel
          have HGN4 := Lib.hid gn4
          clear gn4 hJ1
          have f1 : wr.cell? ⟨b1, 1, none⟩ = some (.slice A2 c.procs.length c2) := blk_cell hJ4.out.hd 1
          by_cases hk4 : k4 < c.procs.length
          · have p40 : (0 : Int) ≤ k4 := by omega
            have p41 : (k4 : Int) < c.procs.length := by omega
            by_cases hm4 : m4 ≤ 2147483647
            · skip
              skip
              obtain ⟨ad, x, B1, d1, B2, d2, rfl, hx, hmem0, hts0, q0, q1, q2, q3, q4, hc1, hc2⟩ := prc_at HC2.out hJ4.out.1 k4 hk4
              have HX1 := Aside0.mk hc1.2
              have HX2 := Aside0.mk hc2.2
              have hl1 := hc1.2.2.1
              have hl2 := hc2.2.2.1
              have HBX := Lib.hid (HBD.out.2 x hmem0)
              have hzx1 := (HSZ.out.2.2.2 x hmem0).1
              have hzx2 := (HSZ.out.2.2.2 x hmem0).2
              clear hx hmem0 hts0 hc1 hc2
              have hJa := hJ4.out.alloc (Obj.cells #[.string x.name, .slice B1 x.params.length d1, .slice B2 x.body.length d2, .int .i64 x.rows, .int .i64 x.bytes] 34)
              have g0 : (wr.alloc (Obj.cells #[.string x.name, .slice B1 x.params.length d1, .slice B2 x.body.length d2, .int .i64 x.rows, .int .i64 x.bytes] 34)).cell? ⟨wr.heap.size, 0, none⟩ = some (.string x.name) := blk_cell hJa.hd 0
              have g1 : (wr.alloc (Obj.cells #[.string x.name, .slice B1 x.params.length d1, .slice B2 x.body.length d2, .int .i64 x.rows, .int .i64 x.bytes] 34)).cell? ⟨wr.heap.size, 1, none⟩ = some (.slice B1 x.params.length d1) := blk_cell hJa.hd 1
              have g2 : (wr.alloc (Obj.cells #[.string x.name, .slice B1 x.params.length d1, .slice B2 x.body.length d2, .int .i64 x.rows, .int .i64 x.bytes] 34)).cell? ⟨wr.heap.size, 2, none⟩ = some (.slice B2 x.body.length d2) := blk_cell hJa.hd 2
              go_wp2_with fail
              obtain ⟨wa, hwa⟩ : ∃ u, u = wr.alloc (Obj.cells #[.string x.name, .slice B1 x.params.length d1, .slice B2 x.body.length d2, .int .i64 x.rows, .int .i64 x.bytes] 34) := ⟨_, rfl⟩
              obtain ⟨b3, hb3⟩ : ∃ b, b = wr.heap.size := ⟨_, rfl⟩
              rw [← hwa, ← hb3] at hJa
              rw [← hwa, ← hb3]
              have HJA := Aside0.mk hJa
              clear hJa hwa hb3 q0 q1 q2 q3 q4 g0 g1 g2 f1 hJ4
              go_loopg [3, 10] x.params.length (fun gn v i wr => ∃ (k : Nat) (m : Int), v = .int .i64 m ∧ i = .int .i64 k ∧ Aside0 (k + gn = x.params.length) ∧ Aside0 (PJ w wr [(b3, Obj.cells #[.string x.name, .slice B1 x.params.length d1, .slice B2 x.body.length d2, .int .i64 x.rows, .int .i64 x.bytes] 34), (b1, Obj.cells #[.slice A1 c.tables.length c1, .slice (some ad) c.procs.length c2] 25)]))
              case atStart => exact ⟨0, _, rfl, rfl, ⟨by omega⟩, HJA⟩
              case round =>
                obtain ⟨k5, m5, rfl, rfl, ⟨gn5⟩, hJ5⟩ := hrel
                have HGN5 := Lib.hid gn5
                clear gn5 HJA
                have f2 : wr.cell? ⟨b3, 1, none⟩ = some (.slice B1 x.params.length d1) := blk_cell hJ5.out.hd 1
                by_cases hk5 : k5 < x.params.length
                · have p50 : (0 : Int) ≤ k5 := by omega
                  have p51 : (k5 : Int) < x.params.length := by omega
                  by_cases hm5 : m5 ≤ 2147483647
                  · skip
                    obtain ⟨ad2, y, rfl, hy, hym, hyt, r0, r1⟩ := prm_at HX1.out hJ5.out.1 k5 hk5
                    have hzn := HBX.out.2.1 y hym
                    clear hy hym hyt
                    go_wp2_with fail
                    go_roundg (x.params.length - (k5 + 1))
                    case measure => have := HGN5.out; omega
                    case rel => exact ⟨k5 + 1, _, rfl, by go_num, ⟨by have := HGN5.out; omega⟩, hJ5⟩
                  · skip
                    go_wp2_with fail
                    clear f2
                    go_loopg [3, 11] x.body.length (fun gn v i wr => ∃ (k : Nat) (m : Int), v = .int .i64 m ∧ i = .int .i64 k ∧ Aside0 (k + gn = x.body.length) ∧ Aside0 (PJ w wr [(b3, Obj.cells #[.string x.name, .slice B1 x.params.length d1, .slice B2 x.body.length d2, .int .i64 x.rows, .int .i64 x.bytes] 34), (b1, Obj.cells #[.slice A1 c.tables.length c1, .slice (some ad) c.procs.length c2] 25)]))
                    case atStart => exact ⟨0, _, rfl, rfl, ⟨by omega⟩, hJ5⟩
                    case round =>
                      obtain ⟨k6, m6, rfl, rfl, ⟨gn6⟩, hJ6⟩ := hrel
                      have HGN6 := Lib.hid gn6
                      clear gn6 hJ5
                      have f2 : wr.cell? ⟨b3, 2, none⟩ = some (.slice B2 x.body.length d2) := blk_cell hJ6.out.hd 2
                      by_cases hk6 : k6 < x.body.length
                      · have p60 : (0 : Int) ≤ k6 := by omega
                        have p61 : (k6 : Int) < x.body.length := by omega
                        by_cases hm6 : m6 ≤ 2147483647
                        · skip
                          obtain ⟨ad3, y, rfl, hy, hym, hyt, r0⟩ := str_el HX2.out hJ6.out.1 k6 hk6
                          have hzn := HBX.out.2.2 y hym
                          clear hy hym hyt
                          go_wp2_with fail
                          go_roundg (x.body.length - (k6 + 1))
                          case measure => have := HGN6.out; omega
                          case rel => exact ⟨k6 + 1, _, rfl, by go_num, ⟨by have := HGN6.out; omega⟩, hJ6⟩
                        · skip
                          go_wp2_with fail
                          go_roundg (c.procs.length - (k4 + 1))
                          case measure => have := HGN4.out; omega
                          case rel => exact ⟨k4 + 1, _, rfl, by go_num, ⟨by have := HGN4.out; omega⟩, ⟨hJ6.out.drop⟩⟩
                      · skip
                        go_wp2_with fail
                        go_roundg (c.procs.length - (k4 + 1))
                        case measure => have := HGN4.out; omega
                        case rel => exact ⟨k4 + 1, _, rfl, by go_num, ⟨by have := HGN4.out; omega⟩, ⟨hJ6.out.drop⟩⟩
                · skip
                  go_wp2_with fail
                  clear f2
                  go_loopg [3, 11] x.body.length (fun gn v i wr => ∃ (k : Nat) (m : Int), v = .int .i64 m ∧ i = .int .i64 k ∧ Aside0 (k + gn = x.body.length) ∧ Aside0 (PJ w wr [(b3, Obj.cells #[.string x.name, .slice B1 x.params.length d1, .slice B2 x.body.length d2, .int .i64 x.rows, .int .i64 x.bytes] 34), (b1, Obj.cells #[.slice A1 c.tables.length c1, .slice (some ad) c.procs.length c2] 25)]))
                  case atStart => exact ⟨0, _, rfl, rfl, ⟨by omega⟩, hJ5⟩
                  case round =>
                    obtain ⟨k6, m6, rfl, rfl, ⟨gn6⟩, hJ6⟩ := hrel
                    have HGN6 := Lib.hid gn6
                    clear gn6 hJ5
                    have f2 : wr.cell? ⟨b3, 2, none⟩ = some (.slice B2 x.body.length d2) := blk_cell hJ6.out.hd 2
                    by_cases hk6 : k6 < x.body.length
                    · have p60 : (0 : Int) ≤ k6 := by omega
                      have p61 : (k6 : Int) < x.body.length := by omega
                      by_cases hm6 : m6 ≤ 2147483647
                      · skip
                        obtain ⟨ad3, y, rfl, hy, hym, hyt, r0⟩ := str_el HX2.out hJ6.out.1 k6 hk6
                        have hzn := HBX.out.2.2 y hym
                        clear hy hym hyt
                        go_wp2_with fail
                        go_roundg (x.body.length - (k6 + 1))
                        case measure => have := HGN6.out; omega
                        case rel => exact ⟨k6 + 1, _, rfl, by go_num, ⟨by have := HGN6.out; omega⟩, hJ6⟩
                      · skip
                        go_wp2_with fail
                        go_roundg (c.procs.length - (k4 + 1))
                        case measure => have := HGN4.out; omega
                        case rel => exact ⟨k4 + 1, _, rfl, by go_num, ⟨by have := HGN4.out; omega⟩, ⟨hJ6.out.drop⟩⟩
                    · skip
                      go_wp2_with fail
                      go_roundg (c.procs.length - (k4 + 1))
                      case measure => have := HGN4.out; omega
                      case rel => exact ⟨k4 + 1, _, rfl, by go_num, ⟨by have := HGN4.out; omega⟩, ⟨hJ6.out.drop⟩⟩
            · skip
              go_wp2_with fail
              go_ret
              first | exact ⟨_, rfl, hJ4.out.1⟩ | exact ⟨⟨_, rfl⟩, hJ4.out.1⟩ | exact hJ4.out.1
          · skip
            go_wp2_with fail
            go_ret
            first | exact ⟨_, rfl, hJ4.out.1⟩ | exact ⟨⟨_, rfl⟩, hJ4.out.1⟩ | exact hJ4.out.1
    · skip
      go_wp2_with fail
      clear f1
      go_loopg [3, 8] c.procs.length (fun gn v i wr => ∃ (k : Nat) (m : Int), v = .int .i64 m ∧ i = .int .i64 k ∧ Aside0 (k + gn = c.procs.length) ∧ Aside0 (PJ w wr [(b1, Obj.cells #[.slice A1 c.tables.length c1, .slice A2 c.procs.length c2] 25)]))
      case atStart => exact ⟨0, _, rfl, rfl, ⟨by omega⟩, hJ1⟩
      case round =>
        obtain ⟨k4, m4, rfl, rfl, ⟨gn4⟩, hJ4⟩ := hrel
        have HGN4 := Lib.hid gn4
        clear gn4 hJ1
        have f1 : wr.cell? ⟨b1, 1, none⟩ = some (.slice A2 c.procs.length c2) := blk_cell hJ4.out.hd 1
        by_cases hk4 : k4 < c.procs.length
        · have p40 : (0 : Int) ≤ k4 := by omega
          have p41 : (k4 : Int) < c.procs.length := by omega
          by_cases hm4 : m4 ≤ 2147483647
          · skip
            skip
            obtain ⟨ad, x, B1, d1, B2, d2, rfl, hx, hmem0, hts0, q0, q1, q2, q3, q4, hc1, hc2⟩ := prc_at HC2.out hJ4.out.1 k4 hk4
            have HX1 := Aside0.mk hc1.2
            have HX2 := Aside0.mk hc2.2
            have hl1 := hc1.2.2.1
            have hl2 := hc2.2.2.1
            have HBX := Lib.hid (HBD.out.2 x hmem0)
            have hzx1 := (HSZ.out.2.2.2 x hmem0).1
            have hzx2 := (HSZ.out.2.2.2 x hmem0).2
            clear hx hmem0 hts0 hc1 hc2
            have hJa := hJ4.out.alloc (Obj.cells #[.string x.name, .slice B1 x.params.length d1, .slice B2 x.body.length d2, .int .i64 x.rows, .int .i64 x.bytes] 34)
            have g0 : (wr.alloc (Obj.cells #[.string x.name, .slice B1 x.params.length d1, .slice B2 x.body.length d2, .int .i64 x.rows, .int .i64 x.bytes] 34)).cell? ⟨wr.heap.size, 0, none⟩ = some (.string x.name) := blk_cell hJa.hd 0
            have g1 : (wr.alloc (Obj.cells #[.string x.name, .slice B1 x.params.length d1, .slice B2 x.body.length d2, .int .i64 x.rows, .int .i64 x.bytes] 34)).cell? ⟨wr.heap.size, 1, none⟩ = some (.slice B1 x.params.length d1) := blk_cell hJa.hd 1
            have g2 : (wr.alloc (Obj.cells #[.string x.name, .slice B1 x.params.length d1, .slice B2 x.body.length d2, .int .i64 x.rows, .int .i64 x.bytes] 34)).cell? ⟨wr.heap.size, 2, none⟩ = some (.slice B2 x.body.length d2) := blk_cell hJa.hd 2
            go_wp2_with fail
            obtain ⟨wa, hwa⟩ : ∃ u, u = wr.alloc (Obj.cells #[.string x.name, .slice B1 x.params.length d1, .slice B2 x.body.length d2, .int .i64 x.rows, .int .i64 x.bytes] 34) := ⟨_, rfl⟩
            obtain ⟨b3, hb3⟩ : ∃ b, b = wr.heap.size := ⟨_, rfl⟩
            rw [← hwa, ← hb3] at hJa
            rw [← hwa, ← hb3]
            have HJA := Aside0.mk hJa
            clear hJa hwa hb3 q0 q1 q2 q3 q4 g0 g1 g2 f1 hJ4
            go_loopg [3, 10] x.params.length (fun gn v i wr => ∃ (k : Nat) (m : Int), v = .int .i64 m ∧ i = .int .i64 k ∧ Aside0 (k + gn = x.params.length) ∧ Aside0 (PJ w wr [(b3, Obj.cells #[.string x.name, .slice B1 x.params.length d1, .slice B2 x.body.length d2, .int .i64 x.rows, .int .i64 x.bytes] 34), (b1, Obj.cells #[.slice A1 c.tables.length c1, .slice (some ad) c.procs.length c2] 25)]))
            case atStart => exact ⟨0, _, rfl, rfl, ⟨by omega⟩, HJA⟩
            case round =>
              obtain ⟨k5, m5, rfl, rfl, ⟨gn5⟩, hJ5⟩ := hrel
              have HGN5 := Lib.hid gn5
              clear gn5 HJA
              have f2 : wr.cell? ⟨b3, 1, none⟩ = some (.slice B1 x.params.length d1) := blk_cell hJ5.out.hd 1
              by_cases hk5 : k5 < x.params.length
              · have p50 : (0 : Int) ≤ k5 := by omega
                have p51 : (k5 : Int) < x.params.length := by omega
                by_cases hm5 : m5 ≤ 2147483647
                · skip
                  obtain ⟨ad2, y, rfl, hy, hym, hyt, r0, r1⟩ := prm_at HX1.out hJ5.out.1 k5 hk5
                  have hzn := HBX.out.2.1 y hym
                  clear hy hym hyt
                  go_wp2_with fail
                  go_roundg (x.params.length - (k5 + 1))
                  case measure => have := HGN5.out; omega
                  case rel => exact ⟨k5 + 1, _, rfl, by go_num, ⟨by have := HGN5.out; omega⟩, hJ5⟩
                · skip
                  go_wp2_with fail
                  clear f2
                  go_loopg [3, 11] x.body.length (fun gn v i wr => ∃ (k : Nat) (m : Int), v = .int .i64 m ∧ i = .int .i64 k ∧ Aside0 (k + gn = x.body.length) ∧ Aside0 (PJ w wr [(b3, Obj.cells #[.string x.name, .slice B1 x.params.length d1, .slice B2 x.body.length d2, .int .i64 x.rows, .int .i64 x.bytes] 34), (b1, Obj.cells #[.slice A1 c.tables.length c1, .slice (some ad) c.procs.length c2] 25)]))
                  case atStart => exact ⟨0, _, rfl, rfl, ⟨by omega⟩, hJ5⟩
                  case round =>
                    obtain ⟨k6, m6, rfl, rfl, ⟨gn6⟩, hJ6⟩ := hrel
                    have HGN6 := Lib.hid gn6
                    clear gn6 hJ5
                    have f2 : wr.cell? ⟨b3, 2, none⟩ = some (.slice B2 x.body.length d2) := blk_cell hJ6.out.hd 2
                    by_cases hk6 : k6 < x.body.length
                    · have p60 : (0 : Int) ≤ k6 := by omega
                      have p61 : (k6 : Int) < x.body.length := by omega
                      by_cases hm6 : m6 ≤ 2147483647
                      · skip
                        obtain ⟨ad3, y, rfl, hy, hym, hyt, r0⟩ := str_el HX2.out hJ6.out.1 k6 hk6
                        have hzn := HBX.out.2.2 y hym
                        clear hy hym hyt
                        go_wp2_with fail
                        go_roundg (x.body.length - (k6 + 1))
                        case measure => have := HGN6.out; omega
                        case rel => exact ⟨k6 + 1, _, rfl, by go_num, ⟨by have := HGN6.out; omega⟩, hJ6⟩
                      · skip
                        go_wp2_with fail
                        go_roundg (c.procs.length - (k4 + 1))
                        case measure => have := HGN4.out; omega
                        case rel => exact ⟨k4 + 1, _, rfl, by go_num, ⟨by have := HGN4.out; omega⟩, ⟨hJ6.out.drop⟩⟩
                    · skip
                      go_wp2_with fail
                      go_roundg (c.procs.length - (k4 + 1))
                      case measure => have := HGN4.out; omega
                      case rel => exact ⟨k4 + 1, _, rfl, by go_num, ⟨by have := HGN4.out; omega⟩, ⟨hJ6.out.drop⟩⟩
              · skip
                go_wp2_with fail
                clear f2
                go_loopg [3, 11] x.body.length (fun gn v i wr => ∃ (k : Nat) (m : Int), v = .int .i64 m ∧ i = .int .i64 k ∧ Aside0 (k + gn = x.body.length) ∧ Aside0 (PJ w wr [(b3, Obj.cells #[.string x.name, .slice B1 x.params.length d1, .slice B2 x.body.length d2, .int .i64 x.rows, .int .i64 x.bytes] 34), (b1, Obj.cells #[.slice A1 c.tables.length c1, .slice (some ad) c.procs.length c2] 25)]))
                case atStart => exact ⟨0, _, rfl, rfl, ⟨by omega⟩, hJ5⟩
                case round =>
                  obtain ⟨k6, m6, rfl, rfl, ⟨gn6⟩, hJ6⟩ := hrel
                  have HGN6 := Lib.hid gn6
                  clear gn6 hJ5
                  have f2 : wr.cell? ⟨b3, 2, none⟩ = some (.slice B2 x.body.length d2) := blk_cell hJ6.out.hd 2
                  by_cases hk6 : k6 < x.body.length
                  · have p60 : (0 : Int) ≤ k6 := by omega
                    have p61 : (k6 : Int) < x.body.length := by omega
                    by_cases hm6 : m6 ≤ 2147483647
                    · skip
                      obtain ⟨ad3, y, rfl, hy, hym, hyt, r0⟩ := str_el HX2.out hJ6.out.1 k6 hk6
                      have hzn := HBX.out.2.2 y hym
                      clear hy hym hyt
                      go_wp2_with fail
                      go_roundg (x.body.length - (k6 + 1))
                      case measure => have := HGN6.out; omega
                      case rel => exact ⟨k6 + 1, _, rfl, by go_num, ⟨by have := HGN6.out; omega⟩, hJ6⟩
                    · skip
                      go_wp2_with fail
                      go_roundg (c.procs.length - (k4 + 1))
                      case measure => have := HGN4.out; omega
                      case rel => exact ⟨k4 + 1, _, rfl, by go_num, ⟨by have := HGN4.out; omega⟩, ⟨hJ6.out.drop⟩⟩
                  · skip
                    go_wp2_with fail
                    go_roundg (c.procs.length - (k4 + 1))
                    case measure => have := HGN4.out; omega
                    case rel => exact ⟨k4 + 1, _, rfl, by go_num, ⟨by have := HGN4.out; omega⟩, ⟨hJ6.out.drop⟩⟩
          · skip
            go_wp2_with fail
            go_ret
            first | exact ⟨_, rfl, hJ4.out.1⟩ | exact ⟨⟨_, rfl⟩, hJ4.out.1⟩ | exact hJ4.out.1
        · skip
          go_wp2_with fail
          go_ret
          first | exact ⟨_, rfl, hJ4.out.1⟩ | exact ⟨⟨_, rfl⟩, hJ4.out.1⟩ | exact hJ4.out.1
end Go.Proofs.Ytcmgdieeclninaa

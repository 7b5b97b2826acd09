/- Layer 08: D60 the law Finds -/
import Derived.Test.YtcmgdieeclninaaD49
set_option linter.unusedVariables false
set_option linter.unusedSimpArgs false
namespace Go.Proofs.Ytcmgdieeclninaa
open Go.RowKit Go.Proofs.YtcmgdieeclninaaW.PrintWords
theorem foundV_cases (x : Int) : ∃ a e : Int, foundV x = (.int .i64 a, .int .i64 e) ∧ (x < 0 ∧ a = 0 ∧ e = 82 ∨ 0 ≤ x ∧ a = x ∧ e = 0) := by
  by_cases h : x < 0
  · exact ⟨0, 82, by unfold foundV; rw [if_pos h], .inl ⟨h, rfl, rfl⟩⟩
  · exact ⟨x, 0, by unfold foundV; rw [if_neg h], .inr ⟨by omega, rfl, rfl⟩⟩
set_option maxRecDepth 100000 in
set_option maxHeartbeats 8000000 in
theorem finds_any (cs0 : Array Value) (c : Cat) (name : ByteArray) (W : World) (hK0 : kCat.K W c cs0.toList) (hZ0 : SzCat c ∧ BdCat c) (hZ1 : name.size ≤ 140737488351232) :
    Calls Try.prog 8 #[.agg cs0, .string name] W fun e W' => e = .returned (.bool true) ∧ Below W.heap.size W W' := by
  obtain ⟨A1, a1, A2, a2, rfl, ⟨hA1, lA1⟩, hA2, lA2⟩ := kCat_open hK0
  clear hK0
  obtain ⟨w1, hw1, b1, s1, hb1⟩ := grow (W := W) rfl #[.slice A1 c.tables.length a1, .slice A2 c.procs.length a2] 25
  obtain ⟨g1, hg1⟩ : ∃ g, g = W.heap.size := ⟨_, rfl⟩
  have BX1 := Aside0.mk b1
  rw [← hg1] at BX1
  have HB1 := Aside0.mk hb1
  have CA1 := Aside0.mk (Kd.C_below hA1 hb1)
  have CA2 := Aside0.mk (Kd.C_below hA2 hb1)
  have Z0 := Aside0.mk hZ0
  have hcn : c.tables.length ≤ 9223372036854775807 := hA1.2.1
  clear hA1 hA2 hZ0 hb1 b1 s1
  go_enter Try.func8, Try.ntmps8
  go_wp2_with fail
  rw [← hw1, ← hg1]
  clear hw1 hg1
  refine (weighs_any c A1 a1 A2 a2 w1 CA1.out CA2.out Z0.out.2 Z0.out.1).mono ?_
  rintro e w2 ⟨n, rfl, hb2⟩
  have B2 := Aside0.mk hb2
  clear hb2
  by_cases hbig : 2147483647 < n ∨ 2147483647 < (name.size : Int)
  · have hend : Below W.heap.size W w2 := below_then HB1.out HB1.out.size B2.out
    by_cases h1 : 2147483647 < n
    · go_wp2_with fail
      go_ret
      exact ⟨rfl, hend⟩
    · have h2 : 2147483647 < (name.size : Int) := hbig.resolve_left h1
      go_wp2_with fail
      go_ret
      exact ⟨rfl, hend⟩
  · have h1 : ¬ 2147483647 < n := fun h => hbig (.inl h)
    have h2 : ¬ 2147483647 < (name.size : Int) := fun h => hbig (.inr h)
    clear hbig
    go_wp2_with fail
    refine (awake_any w2).mono ?_
    rintro e w3 ⟨rfl, hb3⟩
    have B3 := Aside0.mk (below_then B2.out B2.out.size hb3)
    clear hb3 B2
    have k0 : w3.cell? ⟨g1, 0, none⟩ = some (.slice A1 c.tables.length a1) := blk_cell (blk_below BX1.out B3.out) 0
    have k1 : w3.cell? ⟨g1, 1, none⟩ = some (.slice A2 c.procs.length a2) := blk_cell (blk_below BX1.out B3.out) 1
    go_wp2_with fail
    obtain ⟨x, hx⟩ : ∃ x, x = posF (c.tables.map (·.name)) name := ⟨_, rfl⟩
    obtain ⟨y, hy⟩ : ∃ y, y = posF (c.procs.map (·.name)) name := ⟨_, rfl⟩
    obtain ⟨xa, xe, hxf, hxc⟩ := foundV_cases x
    obtain ⟨ya, ye, hyf, hyc⟩ := foundV_cases y
    have HX := Aside0.mk (And.intro hx hxf)
    have HY := Aside0.mk (And.intro hy hyf)
    have HXC := Lib.hid hxc
    have HYC := Lib.hid hyc
    clear hx hxf hy hyf hxc hyc
    refine (findTable_any A1 c.tables.length a1 A2 c.procs.length a2 c.tables name w3 (Kd.C_below CA1.out B3.out)).mono ?_
    intro e w4 hq
    rw [← HX.out.1, HX.out.2] at hq
    dsimp only at hq
    obtain ⟨rfl, hb4⟩ := hq
    have B4 := Aside0.mk (below_then B3.out B3.out.size hb4)
    clear k0 k1 hb4
    have k0 : w4.cell? ⟨g1, 0, none⟩ = some (.slice A1 c.tables.length a1) := blk_cell (blk_below BX1.out B4.out) 0
    have k1 : w4.cell? ⟨g1, 1, none⟩ = some (.slice A2 c.procs.length a2) := blk_cell (blk_below BX1.out B4.out) 1
    go_wp2_with fail
    refine (findProc_any A1 c.tables.length a1 A2 c.procs.length a2 c.procs name w4 (Kd.C_below CA2.out B4.out)).mono ?_
    intro e w5 hq
    rw [← HY.out.1, HY.out.2] at hq
    dsimp only at hq
    obtain ⟨rfl, hb5⟩ := hq
    have B5 := Aside0.mk (below_then B4.out B4.out.size hb5)
    clear k0 k1 hb5 B3 B4
    have k0 : w5.cell? ⟨g1, 0, none⟩ = some (.slice A1 c.tables.length a1) := blk_cell (blk_below BX1.out B5.out) 0
    have k1 : w5.cell? ⟨g1, 1, none⟩ = some (.slice A2 c.procs.length a2) := blk_cell (blk_below BX1.out B5.out) 1
    go_wp2_with fail
    refine (posTable_any A1 c.tables.length a1 A2 c.procs.length a2 c.tables name w5 (Kd.C_below CA1.out B5.out)).mono ?_
    intro e w6 hq
    rw [← HX.out.1] at hq
    obtain ⟨rfl, hb6⟩ := hq
    have B6 := Aside0.mk (below_then B5.out B5.out.size hb6)
    clear k0 k1 hb6 B5
    have k0 : w6.cell? ⟨g1, 0, none⟩ = some (.slice A1 c.tables.length a1) := blk_cell (blk_below BX1.out B6.out) 0
    have k1 : w6.cell? ⟨g1, 1, none⟩ = some (.slice A2 c.procs.length a2) := blk_cell (blk_below BX1.out B6.out) 1
    go_wp2_with fail
    refine (posProc_any A1 c.tables.length a1 A2 c.procs.length a2 c.procs name w6 (Kd.C_below CA2.out B6.out)).mono ?_
    intro e w7 hq
    rw [← HY.out.1] at hq
    obtain ⟨rfl, hb7⟩ := hq
    have B7 := Aside0.mk (below_then B6.out B6.out.size hb7)
    clear k0 k1 hb7 B6
    have hxc := HXC.out
    have hyc := HYC.out
    clear HXC HYC HX HY
    rcases hxc with ⟨hx0, rfl, rfl⟩ | ⟨hx0, rfl, rfl⟩ <;> rcases hyc with ⟨hy0, rfl, rfl⟩ | ⟨hy0, rfl, rfl⟩
    all_goals
      go_wp2_with fail
      go_loopg [13] c.tables.length (fun gn i wr => ∃ k : Nat, i = .int .i64 k ∧ Aside0 (k + gn = c.tables.length) ∧ Aside0 (Below w1.heap.size w1 wr))
      case atStart => exact ⟨0, rfl, ⟨by omega⟩, B7⟩
      case round =>
        obtain ⟨k, rfl, hgn, hB⟩ := hrel
        have k0 : wr.cell? ⟨g1, 0, none⟩ = some (.slice A1 c.tables.length a1) := blk_cell (blk_below BX1.out hB.out) 0
        by_cases hk : k < c.tables.length
        · obtain ⟨ad, t, T1, t1, T2, t2, T3, t3, rfl, _, _, _, q0, q1, q2, q3, q4, hc1, hc2, hc3⟩ := tab_at CA1.out hB.out k hk
          have CT := Aside0.mk (And.intro hc1.2 (And.intro hc2.2 hc3.2))
          clear hc1 hc2 hc3
          have p0 : (0 : Int) ≤ k := by omega
          have p1 : (k : Int) < c.tables.length := by omega
          have HQ := Aside0.mk (And.intro k0 (And.intro q0 (And.intro q1 (And.intro q2 (And.intro q3 q4)))))
          go_wp2_with fail
          obtain ⟨z, hz⟩ : ∃ z, z = posF (t.cols.map (·.name)) name := ⟨_, rfl⟩
          obtain ⟨za, ze, hzf, hzc⟩ := foundV_cases z
          have HZ := Aside0.mk (And.intro hz hzf)
          have HZC := Lib.hid hzc
          clear hz hzf hzc k0 q0 q1 q2 q3 q4
          refine (findColumn_any t.name T1 t.cols.length t1 T2 t.key.length t2 t.part T3 t.idx.length t3 t.cols name wr (Kd.C_below CT.out.1 hB.out)).mono ?_
          intro e u1 hq
          rw [← HZ.out.1, HZ.out.2] at hq
          dsimp only at hq
          obtain ⟨rfl, hb8⟩ := hq
          have B8 := Aside0.mk (below_then hB.out hB.out.size hb8)
          have k0 := pw_cell_below hb8 HQ.out.1
          have q0 := pw_cell_below hb8 HQ.out.2.1
          have q1 := pw_cell_below hb8 HQ.out.2.2.1
          have q2 := pw_cell_below hb8 HQ.out.2.2.2.1
          have q3 := pw_cell_below hb8 HQ.out.2.2.2.2.1
          have q4 := pw_cell_below hb8 HQ.out.2.2.2.2.2
          clear hb8
          go_wp2_with fail
          clear k0 q0 q1 q2 q3 q4 HQ
          refine (posColumn_any t.name T1 t.cols.length t1 T2 t.key.length t2 t.part T3 t.idx.length t3 t.cols name u1 (Kd.C_below CT.out.1 B8.out)).mono ?_
          intro e u2 hq
          rw [← HZ.out.1] at hq
          obtain ⟨rfl, hb9⟩ := hq
          have B9 := Aside0.mk (below_then B8.out B8.out.size hb9)
          clear hb9 B8 CT
          have hzc := HZC.out
          clear HZC HZ
          rcases hzc with ⟨hz0, rfl, rfl⟩ | ⟨hz0, rfl, rfl⟩
          all_goals
            go_wp2_with fail
            go_roundg (c.tables.length - (k + 1))
            case measure => have := hgn.out; omega
            case rel => exact ⟨k + 1, by go_num, ⟨by have := hgn.out; omega⟩, B9⟩
        · have p1 : ¬ (k : Int) < c.tables.length := by omega
          have hend : Below W.heap.size W wr := below_then HB1.out HB1.out.size hB.out
          go_wp2_with fail
          go_ret
          exact ⟨rfl, hend⟩
end Go.Proofs.Ytcmgdieeclninaa

/- Layer 8: the walks of SameInts and SameTable. -/
import Derived.Test.YtcmgdieeclninaaD14
import Derived.Test.YtcmgdieeclninaaWEqStruct
set_option linter.unusedVariables false
set_option linter.unusedSimpArgs false
namespace Go.Proofs.Ytcmgdieeclninaa
open Go.RowKit Go.Proofs.YtcmgdieeclninaaW.PrintWords
theorem Col.ext' {a b : Col} (h1 : a.name = b.name) (h2 : a.type = b.type) (h3 : a.notNull = b.notNull) : a = b := by cases a; cases b; simp_all
theorem Idx.ext' {a b : Idx} (h1 : a.name = b.name) (h2 : a.columns = b.columns) (h3 : a.unique = b.unique) : a = b := by cases a; cases b; simp_all
theorem Prm.ext' {a b : Prm} (h1 : a.name = b.name) (h2 : a.type = b.type) : a = b := by cases a; cases b; simp_all
theorem Tab.ext' {a b : Tab} (h1 : a.name = b.name) (h2 : a.cols = b.cols) (h3 : a.key = b.key) (h4 : a.part = b.part) (h5 : a.idx = b.idx) : a = b := by cases a; cases b; simp_all
theorem Prc.ext' {a b : Prc} (h1 : a.name = b.name) (h2 : a.params = b.params) (h3 : a.body = b.body) (h4 : a.rows = b.rows) (h5 : a.bytes = b.bytes) : a = b := by cases a; cases b; simp_all
theorem Cat.ext' {a b : Cat} (h1 : a.tables = b.tables) (h2 : a.procs = b.procs) : a = b := by cases a; cases b; simp_all
instance : DecidableEq Col := fun a b => decidable_of_iff (a.name = b.name ∧ a.type = b.type ∧ a.notNull = b.notNull) ⟨fun h => Col.ext' h.1 h.2.1 h.2.2, fun h => by subst h; exact ⟨rfl, rfl, rfl⟩⟩
instance : DecidableEq Idx := fun a b => decidable_of_iff (a.name = b.name ∧ a.columns = b.columns ∧ a.unique = b.unique) ⟨fun h => Idx.ext' h.1 h.2.1 h.2.2, fun h => by subst h; exact ⟨rfl, rfl, rfl⟩⟩
instance : DecidableEq Prm := fun a b => decidable_of_iff (a.name = b.name ∧ a.type = b.type) ⟨fun h => Prm.ext' h.1 h.2, fun h => by subst h; exact ⟨rfl, rfl⟩⟩
instance : DecidableEq Tab := fun a b => decidable_of_iff (a.name = b.name ∧ a.cols = b.cols ∧ a.key = b.key ∧ a.part = b.part ∧ a.idx = b.idx) ⟨fun h => Tab.ext' h.1 h.2.1 h.2.2.1 h.2.2.2.1 h.2.2.2.2, fun h => by subst h; exact ⟨rfl, rfl, rfl, rfl, rfl⟩⟩
instance : DecidableEq Prc := fun a b => decidable_of_iff (a.name = b.name ∧ a.params = b.params ∧ a.body = b.body ∧ a.rows = b.rows ∧ a.bytes = b.bytes) ⟨fun h => Prc.ext' h.1 h.2.1 h.2.2.1 h.2.2.2.1 h.2.2.2.2, fun h => by subst h; exact ⟨rfl, rfl, rfl, rfl, rfl⟩⟩
instance : DecidableEq Cat := fun a b => decidable_of_iff (a.tables = b.tables ∧ a.procs = b.procs) ⟨fun h => Cat.ext' h.1 h.2, fun h => by subst h; exact ⟨rfl, rfl⟩⟩
theorem take_all {α : Type} {xs ys : List α} {k : Nat} (h : xs.take k = ys.take k) (h1 : xs.length ≤ k) (h2 : ys.length ≤ k) : xs = ys := by
  rwa [List.take_of_length_le h1, List.take_of_length_le h2] at h
theorem take_step {α : Type} {xs ys : List α} {k : Nat} {x y : α} (h : xs.take k = ys.take k) (h1 : xs.take (k + 1) = xs.take k ++ [x]) (h2 : ys.take (k + 1) = ys.take k ++ [y]) (e : x = y) : xs.take (k + 1) = ys.take (k + 1) := by
  rw [h1, h2, h, e]
theorem take_ne {α : Type} {xs ys : List α} {k : Nat} {x y : α} (h1 : xs.take (k + 1) = xs.take k ++ [x]) (h2 : ys.take (k + 1) = ys.take k ++ [y]) (e : ¬ x = y) : ¬ xs = ys := by
  rintro rfl
  rw [h1] at h2
  have := List.append_cancel_left h2
  injection this with h _
  exact e h
theorem len_ne {α : Type} {xs ys : List α} (h : ¬ xs.length = ys.length) : ¬ xs = ys := by rintro rfl; exact h rfl
set_option maxHeartbeats 1000000 in
theorem sameInts_any (A : Option Addr) (c : Nat) (xs : List Int) (B : Option Addr) (d : Nat) (ys : List Int) (w : World) (hA : (Kd.int .i64).C w A xs.length xs) (hB : (Kd.int .i64).C w B ys.length ys) :
    Calls Try.prog 43 #[.slice A xs.length c, .slice B ys.length d] w fun e w' => e = .returned (.bool (decide (xs = ys))) ∧ ∃ m, w' = w.drewN m := by
  have hn := hA.2.1
  have HA := Aside0.mk hA
  have HB := Aside0.mk hB
  clear hA hB
  go_enter Try.func43, Try.ntmps43
  by_cases hl : xs.length = ys.length
  · have he : ((xs.length : Int) == (ys.length : Int)) = true := by rw [beq_iff_eq, hl]
    have he2 : ((xs.length : Int) != (ys.length : Int)) = false := by rw [bne_eq_false_iff_eq, hl]
    have HL := Lib.hid hl
    clear hl
    go_wp2_with fail
    clear he he2
    go_loopg [5] xs.length (fun gn i wr => ∃ k : Nat, i = .int .i64 k ∧ Aside0 (k + gn = xs.length ∧ xs.take k = ys.take k) ∧ Drawn0 w wr)
    case atStart => exact ⟨0, rfl, ⟨by omega, rfl⟩, Drawn0.refl _⟩
    case round =>
      obtain ⟨k, rfl, ⟨hg, hall⟩, ⟨nq, rfl⟩⟩ := hrel
      have HALL := Lib.hid hall
      have HG := Lib.hid hg
      clear hall hg
      by_cases hk : k < xs.length
      · obtain ⟨ad, x, rfl, hx, hm, ht, q0⟩ := int_el HA.out (Below.refl _ _) k hk
        obtain ⟨bd, y, rfl, hy, hm2, ht2, r0⟩ := int_el HB.out (Below.refl _ _) k (by rw [← HL.out]; exact hk)
        have HT := Lib.hid ht
        have HT2 := Lib.hid ht2
        clear hx hm ht hy hm2 ht2
        have p0 : (0 : Int) ≤ k := by omega
        have p1 : (k : Int) < xs.length := by omega
        have p2 : (k : Int) < ys.length := by rw [← HL.out]; omega
        by_cases hE : x = y
        · have he : (x == y) = true := by rw [beq_iff_eq]; exact hE
          have he2 : (x != y) = false := by rw [bne_eq_false_iff_eq]; exact hE
          have HE := Lib.hid hE
          clear hE
          go_wp2_with fail
          go_quiet (fail)
          go_wp2_with fail
          go_roundg (xs.length - (k + 1))
          case measure => have := HG.out; omega
          case rel => exact ⟨k + 1, by go_num, ⟨by have := HG.out; omega, take_step HALL.out HT.out HT2.out HE.out⟩, ⟨⟨_, rfl⟩⟩⟩
        · have he : (x == y) = false := by rw [beq_eq_false_iff_ne]; exact hE
          have he2 : (x != y) = true := by rw [bne_iff_ne]; exact hE
          have HE := Lib.hid hE
          clear hE
          go_wp2_with fail
          go_quiet (fail)
          go_wp2_with fail
          go_ret
          exact ⟨ret_bool (decide_eq_false (take_ne HT.out HT2.out HE.out)).symm, (Drawn0.step ⟨⟨_, rfl⟩⟩ _ : Drawn0 w _).out⟩
      · go_wp2_with fail
        go_ret
        exact ⟨ret_bool (decide_eq_true (take_all HALL.out (by omega) (by rw [← HL.out]; omega))).symm, ⟨_, rfl⟩⟩
  · have he : ((xs.length : Int) == (ys.length : Int)) = false := by rw [beq_eq_false_iff_ne]; omega
    have he2 : ((xs.length : Int) != (ys.length : Int)) = true := by rw [bne_iff_ne]; omega
    have HL := Lib.hid hl
    clear hl
    go_wp2_with fail
    go_ret
    exact ⟨ret_bool (decide_eq_false (len_ne HL.out)).symm, ⟨0, rfl⟩⟩
theorem quiet_add {P : Program} {f : FuncId} {args : Array Value} {w : World} {a n : Nat} {v : Value}
    (h : Calls P f args (w.drewN (a + n)) fun e w' => e = .returned v ∧ ∃ m, w' = (w.drewN (a + n)).drewN m) : Calls P f args (w.drewN (a + n)) fun e w'' => e = .returned v ∧ ∃ m, w'' = w.drewN (a + m) :=
  h.mono fun _ _ ⟨he, m, hm⟩ => ⟨he, n + m, by rw [hm, World.drewN_drewN, Nat.add_assoc]⟩
theorem eqg62 : Try.prog.eqGuardType Try.prog.depth 62 = false := by kernel_rfl
theorem eqg66 : Try.prog.eqGuardType Try.prog.depth 66 = false := by kernel_rfl
theorem str_beq (a b : ByteArray) : (a.toList == b.toList) = decide (a = b) := by
  by_cases h : a = b
  · rw [decide_eq_true h]; exact str_eq_true h
  · rw [decide_eq_false h]; exact str_eq_false h
theorem eq62 (x y : Col) (r : Bool) (hr : decide (x = y) = r) (w : World) : (Op.equalIn 10000 62 (.agg #[.string x.name, .int .i64 x.type, .bool x.notNull]) (.agg #[.string y.name, .int .i64 y.type, .bool y.notNull])).run Try.prog w = .ok r w := by
  have h : (Op.equalIn 10000 62 (.agg #[.string x.name, .int .i64 x.type, .bool x.notNull]) (.agg #[.string y.name, .int .i64 y.type, .bool y.notNull])).run Try.prog w = .ok (x.name.toList == y.name.toList && (x.type == y.type && (x.notNull == y.notNull))) w := by
    refine eqA_of Try.underlying62 (by kernel_rfl) ?_
    refine eqf_cons (by rfl) (by go_simp; rfl) (by go_simp; rfl) (by go_simp) ?_
    refine eqf_cons (by rfl) (by go_simp; rfl) (by go_simp; rfl) (by go_simp) ?_
    exact eqf_last (by rfl) (by go_simp; rfl) (by go_simp; rfl) (by go_simp)
  have e : (x.name.toList == y.name.toList && (x.type == y.type && (x.notNull == y.notNull))) = decide (x = y) := by
    rw [str_beq, Bool.eq_iff_iff]
    simp only [Bool.and_eq_true, decide_eq_true_eq, beq_iff_eq]
    exact ⟨fun h => Col.ext' h.1 h.2.1 h.2.2, fun h => by subst h; exact ⟨rfl, rfl, rfl⟩⟩
  rw [h, e, hr]
theorem eq66 (x y : Prm) (r : Bool) (hr : decide (x = y) = r) (w : World) : (Op.equalIn 10000 66 (.agg #[.string x.name, .int .i64 x.type]) (.agg #[.string y.name, .int .i64 y.type])).run Try.prog w = .ok r w := by
  have h : (Op.equalIn 10000 66 (.agg #[.string x.name, .int .i64 x.type]) (.agg #[.string y.name, .int .i64 y.type])).run Try.prog w = .ok (x.name.toList == y.name.toList && (x.type == y.type)) w := by
    refine eqA_of Try.underlying66 (by kernel_rfl) ?_
    refine eqf_cons (by rfl) (by go_simp; rfl) (by go_simp; rfl) (by go_simp) ?_
    exact eqf_last (by rfl) (by go_simp; rfl) (by go_simp; rfl) (by go_simp)
  have e : (x.name.toList == y.name.toList && (x.type == y.type)) = decide (x = y) := by
    rw [str_beq, Bool.eq_iff_iff]
    simp only [Bool.and_eq_true, decide_eq_true_eq, beq_iff_eq]
    exact ⟨fun h => Prm.ext' h.1 h.2, fun h => by subst h; exact ⟨rfl, rfl⟩⟩
  rw [h, e, hr]
set_option maxRecDepth 100000 in
set_option maxHeartbeats 4000000 in
theorem sameTab_any (a : Tab) (A1 : Option Addr) (c1 : Nat) (A2 : Option Addr) (c2 : Nat) (A3 : Option Addr) (c3 : Nat) (b : Tab) (B1 : Option Addr) (d1 : Nat) (B2 : Option Addr) (d2 : Nat) (B3 : Option Addr) (d3 : Nat) (w : World)
    (hA1 : kCol.C w A1 a.cols.length a.cols) (hA2 : (Kd.int .i64).C w A2 a.key.length a.key) (hA3 : kIdx.C w A3 a.idx.length a.idx)
    (hB1 : kCol.C w B1 b.cols.length b.cols) (hB2 : (Kd.int .i64).C w B2 b.key.length b.key) (hB3 : kIdx.C w B3 b.idx.length b.idx) :
    Calls Try.prog 20 #[.agg #[.string a.name, .slice A1 a.cols.length c1, .slice A2 a.key.length c2, .int .i64 a.part, .slice A3 a.idx.length c3], .agg #[.string b.name, .slice B1 b.cols.length d1, .slice B2 b.key.length d2, .int .i64 b.part, .slice B3 b.idx.length d3]] w fun e w' => e = .returned (.bool (decide (a = b))) ∧ Below w.heap.size w w' := by
  have hn1 := hA1.2.1
  have hn3 := hA3.2.1
  go_enter Try.func20, Try.ntmps20
  go_wp2_with fail
  have hw0 : (w.alloc (Obj.cells #[.string a.name, .slice A1 a.cols.length c1, .slice A2 a.key.length c2, .int .i64 a.part, .slice A3 a.idx.length c3] 30)).alloc (Obj.cells #[.string b.name, .slice B1 b.cols.length d1, .slice B2 b.key.length d2, .int .i64 b.part, .slice B3 b.idx.length d3] 30) = (w.alloc (tabBox a A1 c1 A2 c2 A3 c3)).alloc (tabBox b B1 d1 B2 d2 B3 d3) := rfl
  rw [hw0]
  obtain ⟨W, hW⟩ : ∃ W, W = (w.alloc (tabBox a A1 c1 A2 c2 A3 c3)).alloc (tabBox b B1 d1 B2 d2 B3 d3) := ⟨_, rfl⟩
  obtain ⟨g, hg⟩ : ∃ g, g = w.heap.size := ⟨_, rfl⟩
  have hb : Below w.heap.size w W := by rw [hW]; exact below_alloc (below_alloc (Below.refl _ _) _) _
  have hg1 : W.heap[g]? = some (tabBox a A1 c1 A2 c2 A3 c3) := by rw [hW, hg]; exact blk_alloc' (blk_alloc w _)
  have hg2 : W.heap[g + 1]? = some (tabBox b B1 d1 B2 d2 B3 d3) := by rw [hW, hg]; have := blk_alloc (w.alloc (tabBox a A1 c1 A2 c2 A3 c3)) (tabBox b B1 d1 B2 d2 B3 d3); rw [show (w.alloc (tabBox a A1 c1 A2 c2 A3 c3)).heap.size = w.heap.size + 1 from by simp] at this; exact this
  rw [← hW, ← hg]
  have HB := Aside0.mk hb
  have a1 : W.cell? ⟨g, 1, none⟩ = some (.slice A1 a.cols.length c1) := blk_cell hg1 1
  have a4 : W.cell? ⟨g, 4, none⟩ = some (.slice A3 a.idx.length c3) := blk_cell hg1 4
  have a0 : W.cell? ⟨g, 0, none⟩ = some (.string a.name) := blk_cell hg1 0
  have a3 : W.cell? ⟨g, 3, none⟩ = some (.int .i64 a.part) := blk_cell hg1 3
  have b1 : W.cell? ⟨g + 1, 1, none⟩ = some (.slice B1 b.cols.length d1) := blk_cell hg2 1
  have b4 : W.cell? ⟨g + 1, 4, none⟩ = some (.slice B3 b.idx.length d3) := blk_cell hg2 4
  have b0 : W.cell? ⟨g + 1, 0, none⟩ = some (.string b.name) := blk_cell hg2 0
  have b3 : W.cell? ⟨g + 1, 3, none⟩ = some (.int .i64 b.part) := blk_cell hg2 3
  have HA1 := Aside0.mk (Kd.C_below hA1 hb)
  have HA2 := Aside0.mk (Kd.C_below hA2 hb)
  have HA3 := Aside0.mk (Kd.C_below hA3 hb)
  have HB1 := Aside0.mk (Kd.C_below hB1 hb)
  have HB2 := Aside0.mk (Kd.C_below hB2 hb)
  have HB3 := Aside0.mk (Kd.C_below hB3 hb)
  clear hA1 hA2 hA3 hB1 hB2 hB3 hW hg hb hg1 hg2 hw0
  refine (sameInts_any A2 c2 a.key B2 d2 b.key _ HA2.out HB2.out).mono ?_
  rintro e w1 ⟨rfl, m1, rfl⟩
  have h2 : Below w.heap.size w (W.drewN m1) := pw_below_drewN HB.out _
  have HB' := Aside0.mk h2
  clear h2
  by_cases e1 : a.key = b.key
  · rw [decide_eq_true e1]
    have E1 := Lib.hid e1
    clear e1
    by_cases e2 : a.name = b.name
    · have t1 := str_eq_true e2
      have t1' : (a.name.toList != b.name.toList) = false := by rw [bne, t1]; rfl
      have E2 := Lib.hid e2
      clear e2
      by_cases e3 : a.part = b.part
      · have t2 : (a.part == b.part) = true := by rw [beq_iff_eq]; exact e3
        have t2' : (a.part != b.part) = false := by rw [bne_eq_false_iff_eq]; exact e3
        have E3 := Lib.hid e3
        clear e3
        by_cases e4 : a.cols.length = b.cols.length
        · have t3 : ((a.cols.length : Int) == (b.cols.length : Int)) = true := by rw [beq_iff_eq]; omega
          have t3' : ((a.cols.length : Int) != (b.cols.length : Int)) = false := by rw [bne_eq_false_iff_eq]; omega
          have E4 := Lib.hid e4
          clear e4
          by_cases e5 : a.idx.length = b.idx.length
          · have t4 : ((a.idx.length : Int) == (b.idx.length : Int)) = true := by rw [beq_iff_eq]; omega
            have t4' : ((a.idx.length : Int) != (b.idx.length : Int)) = false := by rw [bne_eq_false_iff_eq]; omega
            have E5 := Lib.hid e5
            clear e5
            go_wp2_with fail
            clear t1 t1' t2 t2' t3 t3' t4 t4'
            go_loopg [6] a.cols.length (fun gn i wr => ∃ k : Nat, i = .int .i64 k ∧ Aside0 (k + gn = a.cols.length ∧ a.cols.take k = b.cols.take k) ∧ Drawn0 W wr)
            case atStart => exact ⟨0, rfl, ⟨by omega, rfl⟩, ⟨⟨_, rfl⟩⟩⟩
            case round =>
              obtain ⟨k, rfl, ⟨hg, hall⟩, ⟨nq, rfl⟩⟩ := hrel
              have HALL := Lib.hid hall
              have HG := Lib.hid hg
              clear hall hg
              by_cases hk : k < a.cols.length
              · obtain ⟨ad, x, rfl, hx, hm, ht, q0, q1, q2⟩ := col_at HA1.out (Below.refl _ _) k hk
                obtain ⟨bd, y, rfl, hy, hm2, ht2, r0, r1, r2⟩ := col_at HB1.out (Below.refl _ _) k (by rw [← E4.out]; exact hk)
                have HT := Lib.hid ht
                have HT2 := Lib.hid ht2
                clear hx hm ht hy hm2 ht2
                have p0 : (0 : Int) ≤ k := by omega
                have p1 : (k : Int) < a.cols.length := by omega
                have p2 : (k : Int) < b.cols.length := by rw [← E4.out]; omega
                have hgd := eqg62
                by_cases hE : x = y
                · have hq := eq62 x y true (decide_eq_true hE)
                  have HE := Lib.hid hE
                  clear hE
                  go_wp2_with fail
                  go_quiet (fail)
                  go_wp2_with fail
                  go_roundg (a.cols.length - (k + 1))
                  case measure => have := HG.out; omega
                  case rel => exact ⟨k + 1, by go_num, ⟨by have := HG.out; omega, take_step HALL.out HT.out HT2.out HE.out⟩, ⟨⟨_, rfl⟩⟩⟩
                · have hq := eq62 x y false (decide_eq_false hE)
                  have HE := Lib.hid hE
                  clear hE
                  go_wp2_with fail
                  go_quiet (fail)
                  go_wp2_with fail
                  go_ret
                  exact ⟨ret_bool (decide_eq_false (fun h => take_ne HT.out HT2.out HE.out (by rw [h]))).symm, pw_below_drewN (pw_below_drewN HB.out _) _⟩
              · have hcs : a.cols = b.cols := take_all HALL.out (by omega) (by rw [← E4.out]; omega)
                have HCS := Lib.hid hcs
                clear hcs
                go_wp2_with fail
                go_loopg [7] a.idx.length (fun gn i wr => ∃ k : Nat, i = .int .i64 k ∧ Aside0 (k + gn = a.idx.length ∧ a.idx.take k = b.idx.take k) ∧ Drawn0 W wr)
                case atStart => exact ⟨0, rfl, ⟨by omega, rfl⟩, ⟨⟨_, rfl⟩⟩⟩
                case round =>
                  obtain ⟨k, rfl, ⟨hg, hall⟩, ⟨nq, rfl⟩⟩ := hrel
                  have HALL := Lib.hid hall
                  have HG := Lib.hid hg
                  clear hall hg
                  by_cases hk : k < a.idx.length
                  · obtain ⟨ad, x, Ax, cx, rfl, hx, hm, ht, q0, q1, q2, hlx, hCx⟩ := idx_at HA3.out (Below.refl _ _) k hk
                    obtain ⟨bd, y, Ay, cy, rfl, hy, hm2, ht2, r0, r1, r2, hly, hCy⟩ := idx_at HB3.out (Below.refl _ _) k (by rw [← E5.out]; exact hk)
                    have HT := Lib.hid ht
                    have HT2 := Lib.hid ht2
                    have hq := fun (n : Nat) => sameInts_any Ax cx x.columns Ay cy y.columns (W.drewN n) (Kd.C_below hCx (pw_below_drewN (Below.refl _ _) _)) (Kd.C_below hCy (pw_below_drewN (Below.refl _ _) _))
                    clear hx hm ht hy hm2 ht2 hlx hly hCx hCy
                    have p0 : (0 : Int) ≤ k := by omega
                    have p1 : (k : Int) < a.idx.length := by omega
                    have p2 : (k : Int) < b.idx.length := by rw [← E5.out]; omega
                    by_cases f1 : x.columns = y.columns
                    · rw [decide_eq_true f1] at hq
                      have F1 := Lib.hid f1
                      have HQ := Aside0.mk hq
                      clear f1 hq
                      by_cases f2 : x.name = y.name
                      · have t1 := str_eq_true f2
                        have t1' : (x.name.toList != y.name.toList) = false := by rw [bne, t1]; rfl
                        have F2 := Lib.hid f2
                        clear f2
                        by_cases f3 : x.unique = y.unique
                        · have t2 : (x.unique == y.unique) = true := by rw [beq_iff_eq]; exact f3
                          have t2' : (x.unique != y.unique) = false := by rw [bne_eq_false_iff_eq]; exact f3
                          have F3 := Lib.hid f3
                          clear f3
                          go_wp2_with fail
                          go_quiet ((go_at_call 43; exact quiet_add (HQ.out _)))
                          go_wp2_with fail
                          go_quiet (fail)
                          go_wp2_with fail
                          go_roundg (a.idx.length - (k + 1))
                          case measure => have := HG.out; omega
                          case rel => exact ⟨k + 1, by go_num, ⟨by have := HG.out; omega, take_step HALL.out HT.out HT2.out (Idx.ext' F2.out F1.out F3.out)⟩, ⟨⟨_, rfl⟩⟩⟩
                        · have t2 : (x.unique == y.unique) = false := by rw [beq_eq_false_iff_ne]; exact f3
                          have t2' : (x.unique != y.unique) = true := by rw [bne_iff_ne]; exact f3
                          have F3 := Lib.hid f3
                          clear f3
                          go_wp2_with fail
                          go_quiet ((go_at_call 43; exact quiet_add (HQ.out _)))
                          go_wp2_with fail
                          go_quiet (fail)
                          go_wp2_with fail
                          go_ret
                          exact ⟨ret_bool (decide_eq_false (fun h => take_ne HT.out HT2.out (fun e => F3.out (by rw [e])) (by rw [h]))).symm, pw_below_drewN (pw_below_drewN (pw_below_drewN HB.out _) _) _⟩
                      · have t1 := str_eq_false f2
                        have t1' : (x.name.toList != y.name.toList) = true := by rw [bne, t1]; rfl
                        have F2 := Lib.hid f2
                        clear f2
                        go_wp2_with fail
                        go_quiet ((go_at_call 43; exact quiet_add (HQ.out _)))
                        go_wp2_with fail
                        go_quiet (fail)
                        go_wp2_with fail
                        go_ret
                        exact ⟨ret_bool (decide_eq_false (fun h => take_ne HT.out HT2.out (fun e => F2.out (by rw [e])) (by rw [h]))).symm, pw_below_drewN (pw_below_drewN (pw_below_drewN HB.out _) _) _⟩
                    · rw [decide_eq_false f1] at hq
                      have F1 := Lib.hid f1
                      have HQ := Aside0.mk hq
                      clear f1 hq
                      go_wp2_with fail
                      go_quiet ((go_at_call 43; exact quiet_add (HQ.out _)))
                      go_wp2_with fail
                      go_quiet (fail)
                      go_wp2_with fail
                      go_ret
                      exact ⟨ret_bool (decide_eq_false (fun h => take_ne HT.out HT2.out (fun e => F1.out (by rw [e])) (by rw [h]))).symm, pw_below_drewN (pw_below_drewN (pw_below_drewN HB.out _) _) _⟩
                  · go_wp2_with fail
                    go_ret
                    exact ⟨ret_bool (decide_eq_true (Tab.ext' E2.out HCS.out E1.out E3.out (take_all HALL.out (by omega) (by rw [← E5.out]; omega)))).symm, pw_below_drewN HB.out _⟩
          · have t4 : ((a.idx.length : Int) == (b.idx.length : Int)) = false := by rw [beq_eq_false_iff_ne]; omega
            have t4' : ((a.idx.length : Int) != (b.idx.length : Int)) = true := by rw [bne_iff_ne]; omega
            have E5 := Lib.hid e5
            clear e5
            go_wp2_with fail
            go_ret
            exact ⟨ret_bool (decide_eq_false (fun h => E5.out (by rw [h]))).symm, HB'.out⟩
        · have t3 : ((a.cols.length : Int) == (b.cols.length : Int)) = false := by rw [beq_eq_false_iff_ne]; omega
          have t3' : ((a.cols.length : Int) != (b.cols.length : Int)) = true := by rw [bne_iff_ne]; omega
          have E4 := Lib.hid e4
          clear e4
          go_wp2_with fail
          go_ret
          exact ⟨ret_bool (decide_eq_false (fun h => E4.out (by rw [h]))).symm, HB'.out⟩
      · have t2 : (a.part == b.part) = false := by rw [beq_eq_false_iff_ne]; exact e3
        have t2' : (a.part != b.part) = true := by rw [bne_iff_ne]; exact e3
        have E3 := Lib.hid e3
        clear e3
        go_wp2_with fail
        go_ret
        exact ⟨ret_bool (decide_eq_false (fun h => E3.out (by rw [h]))).symm, HB'.out⟩
    · have t1 := str_eq_false e2
      have t1' : (a.name.toList != b.name.toList) = true := by rw [bne, t1]; rfl
      have E2 := Lib.hid e2
      clear e2
      go_wp2_with fail
      go_ret
      exact ⟨ret_bool (decide_eq_false (fun h => E2.out (by rw [h]))).symm, HB'.out⟩
  · rw [decide_eq_false e1]
    have E1 := Lib.hid e1
    clear e1
    go_wp2_with fail
    go_ret
    exact ⟨ret_bool (decide_eq_false (fun h => E1.out (by rw [h]))).symm, HB'.out⟩
end Go.Proofs.Ytcmgdieeclninaa

/- Layer 19: the walks of ints, same, has, weighs. -/
import Derived.Test.YtajblhainchplaaJ10
import Derived.Test.YtajblhainchplaaWEqStruct
set_option linter.unusedVariables false
set_option linter.unusedSimpArgs false
namespace Go.Proofs.Ytajblhainchplaa
open Go.RowKit Go.Proofs.YtajblhainchplaaW.PrintWords Go.Proofs.YtajblhainchplaaW.PrintLast
set_option maxHeartbeats 1000000 in
theorem ints_any (A : Option Addr) (c : Nat) (xs : List Int) (B : Option Addr) (d : Nat) (ys : List Int) (w : World) (hA : (Kd.int .i64).C w A xs.length xs) (hB : (Kd.int .i64).C w B ys.length ys) :
    Calls Try.prog 18 #[.slice A xs.length c, .slice B ys.length d] w fun e w' => e = .returned (.bool (decide (xs = ys))) ∧ ∃ m, w' = w.drewN m := by
  have hn := hA.2.1
  have HA := Aside0.mk hA
  have HB := Aside0.mk hB
  clear hA hB
  go_enter Try.func18, Try.ntmps18
  by_cases hl : xs.length = ys.length
  · have he : ((xs.length : Int) == (ys.length : Int)) = true := by rw [beq_iff_eq, hl]
    have he2 : ((xs.length : Int) != (ys.length : Int)) = false := by rw [bne_eq_false_iff_eq, hl]
    have HL := Lib.hid hl
    clear hl
    go_wp2_with fail
    clear he he2
    go_loopg [5] xs.length (fun gn i wr => ∃ k : Nat, i = .int .i64 k ∧ Aside0 (k + gn = xs.length ∧ xs.take k = ys.take k) ∧ Drawn0 w wr)
    case atStart => exact ⟨0, rfl, ⟨by omega, rfl⟩, Drawn0.refl _⟩
    case round =>
      obtain ⟨k, rfl, ⟨hg, hall⟩, ⟨nq, rfl⟩⟩ := hrel
      have HALL := Lib.hid hall
      have HG := Lib.hid hg
      clear hall hg
      by_cases hk : k < xs.length
      · obtain ⟨ad, x, rfl, hx, hm, ht, q0⟩ := int_el HA.out (Below.refl _ _) k hk
        obtain ⟨bd, y, rfl, hy, hm2, ht2, r0⟩ := int_el HB.out (Below.refl _ _) k (by rw [← HL.out]; exact hk)
        have HT := Lib.hid ht
        have HT2 := Lib.hid ht2
        clear hx hm ht hy hm2 ht2
        have p0 : (0 : Int) ≤ k := by omega
        have p1 : (k : Int) < xs.length := by omega
        have p2 : (k : Int) < ys.length := by rw [← HL.out]; omega
        by_cases hE : x = y
        · have he : (x == y) = true := by rw [beq_iff_eq]; exact hE
          have he2 : (x != y) = false := by rw [bne_eq_false_iff_eq]; exact hE
          have HE := Lib.hid hE
          clear hE
          go_wp2_with fail
          go_quiet (fail)
          go_wp2_with fail
          go_roundg (xs.length - (k + 1))
          case measure => have := HG.out; omega
          case rel => exact ⟨k + 1, by go_num, ⟨by have := HG.out; omega, take_step HALL.out HT.out HT2.out HE.out⟩, ⟨⟨_, rfl⟩⟩⟩
        · have he : (x == y) = false := by rw [beq_eq_false_iff_ne]; exact hE
          have he2 : (x != y) = true := by rw [bne_iff_ne]; exact hE
          have HE := Lib.hid hE
          clear hE
          go_wp2_with fail
          go_quiet (fail)
          go_wp2_with fail
          go_ret
          exact ⟨ret_bool (decide_eq_false (take_ne HT.out HT2.out HE.out)).symm, (Drawn0.step ⟨⟨_, rfl⟩⟩ _ : Drawn0 w _).out⟩
      · go_wp2_with fail
        go_ret
        exact ⟨ret_bool (decide_eq_true (take_all HALL.out (by omega) (by rw [← HL.out]; omega))).symm, ⟨_, rfl⟩⟩
  · have he : ((xs.length : Int) == (ys.length : Int)) = false := by rw [beq_eq_false_iff_ne]; omega
    have he2 : ((xs.length : Int) != (ys.length : Int)) = true := by rw [bne_iff_ne]; omega
    have HL := Lib.hid hl
    clear hl
    go_wp2_with fail
    go_ret
    exact ⟨ret_bool (decide_eq_false (len_ne HL.out)).symm, ⟨0, rfl⟩⟩
theorem eqg23 : Try.prog.eqGuardType Try.prog.depth 23 = false := by kernel_rfl
theorem eq23 (x y : Lk) (r : Bool) (hr : decide (x = y) = r) (w : World) : (Op.equalIn 10000 23 (.agg #[.int .i64 x.table, .string x.lo, .string x.hi, .bool x.write]) (.agg #[.int .i64 y.table, .string y.lo, .string y.hi, .bool y.write])).run Try.prog w = .ok r w := by
  have h : (Op.equalIn 10000 23 (.agg #[.int .i64 x.table, .string x.lo, .string x.hi, .bool x.write]) (.agg #[.int .i64 y.table, .string y.lo, .string y.hi, .bool y.write])).run Try.prog w = .ok (x.table == y.table && (x.lo.toList == y.lo.toList && (x.hi.toList == y.hi.toList && (x.write == y.write)))) w := by
    refine eqA_of Try.underlying23 (by kernel_rfl) ?_
    refine eqf_cons (by rfl) (by go_simp; rfl) (by go_simp; rfl) (by go_simp) ?_
    refine eqf_cons (by rfl) (by go_simp; rfl) (by go_simp; rfl) (by go_simp) ?_
    refine eqf_cons (by rfl) (by go_simp; rfl) (by go_simp; rfl) (by go_simp) ?_
    exact eqf_last (by rfl) (by go_simp; rfl) (by go_simp; rfl) (by go_simp)
  have e : (x.table == y.table && (x.lo.toList == y.lo.toList && (x.hi.toList == y.hi.toList && (x.write == y.write)))) = decide (x = y) := by
    rw [str_beq, str_beq, Bool.eq_iff_iff]
    simp only [Bool.and_eq_true, decide_eq_true_eq, beq_iff_eq]
    exact ⟨fun h => Lk.ext' ⟨h.1, h.2.1, h.2.2.1, h.2.2.2⟩, fun h => by subst h; exact ⟨rfl, rfl, rfl, rfl⟩⟩
  rw [h, e, hr]
set_option maxRecDepth 100000 in
set_option maxHeartbeats 2000000 in
theorem same_any (A : Option Addr) (c : Nat) (xs : List Lk) (B : Option Addr) (d : Nat) (ys : List Lk) (w : World) (hA : kLk.C w A xs.length xs) (hB : kLk.C w B ys.length ys) :
    Calls Try.prog 39 #[.slice A xs.length c, .slice B ys.length d] w fun e w' => e = .returned (.bool (decide (xs = ys))) ∧ ∃ m, w' = w.drewN m := by
  have hn := hA.2.1
  have HA := Aside0.mk hA
  have HB := Aside0.mk hB
  clear hA hB
  go_enter Try.func39, Try.ntmps39
  by_cases hl : xs.length = ys.length
  · have he : ((xs.length : Int) == (ys.length : Int)) = true := by rw [beq_iff_eq, hl]
    have he2 : ((xs.length : Int) != (ys.length : Int)) = false := by rw [bne_eq_false_iff_eq, hl]
    have HL := Lib.hid hl
    clear hl
    go_wp2_with fail
    clear he he2
    go_loopg [5] xs.length (fun gn i wr => ∃ k : Nat, i = .int .i64 k ∧ Aside0 (k + gn = xs.length ∧ xs.take k = ys.take k) ∧ Drawn0 w wr)
    case atStart => exact ⟨0, rfl, ⟨by omega, rfl⟩, Drawn0.refl _⟩
    case round =>
      obtain ⟨k, rfl, ⟨hg, hall⟩, ⟨nq, rfl⟩⟩ := hrel
      have HALL := Lib.hid hall
      have HG := Lib.hid hg
      clear hall hg
      by_cases hk : k < xs.length
      · obtain ⟨ad, x, rfl, hx, hm, ht, q0, q1, q2, q3⟩ := lk_at HA.out (Below.refl _ _) k hk
        obtain ⟨bd, y, rfl, hy, hm2, ht2, r0, r1, r2, r3⟩ := lk_at HB.out (Below.refl _ _) k (by rw [← HL.out]; exact hk)
        have HT := Lib.hid ht
        have HT2 := Lib.hid ht2
        clear hx hm ht hy hm2 ht2
        have p0 : (0 : Int) ≤ k := by omega
        have p1 : (k : Int) < xs.length := by omega
        have p2 : (k : Int) < ys.length := by rw [← HL.out]; omega
        by_cases hE : x = y
        · have hgd := eqg23
          have hq := eq23 x y true (decide_eq_true hE)
          have HE := Lib.hid hE
          clear hE
          go_wp2_with fail
          go_quiet (fail)
          go_wp2_with fail
          go_roundg (xs.length - (k + 1))
          case measure => have := HG.out; omega
          case rel => exact ⟨k + 1, by go_num, ⟨by have := HG.out; omega, take_step HALL.out HT.out HT2.out HE.out⟩, ⟨⟨_, rfl⟩⟩⟩
        · have hgd := eqg23
          have hq := eq23 x y false (decide_eq_false hE)
          have HE := Lib.hid hE
          clear hE
          go_wp2_with fail
          go_quiet (fail)
          go_wp2_with fail
          go_ret
          exact ⟨ret_bool (decide_eq_false (take_ne HT.out HT2.out HE.out)).symm, (Drawn0.step ⟨⟨_, rfl⟩⟩ _ : Drawn0 w _).out⟩
      · go_wp2_with fail
        go_ret
        exact ⟨ret_bool (decide_eq_true (take_all HALL.out (by omega) (by rw [← HL.out]; omega))).symm, ⟨_, rfl⟩⟩
  · have he : ((xs.length : Int) == (ys.length : Int)) = false := by rw [beq_eq_false_iff_ne]; omega
    have he2 : ((xs.length : Int) != (ys.length : Int)) = true := by rw [bne_iff_ne]; omega
    have HL := Lib.hid hl
    clear hl
    go_wp2_with fail
    go_ret
    exact ⟨ret_bool (decide_eq_false (len_ne HL.out)).symm, ⟨0, rfl⟩⟩
set_option maxRecDepth 100000 in
set_option maxHeartbeats 1000000 in
theorem has_any (A : Option Addr) (n c : Nat) (xs : List Int) (v : Int) (w : World) (hC : (Kd.int .i64).C w A n xs) :
    Calls Try.prog 21 #[.slice A n c, .int .i64 v] w fun e w' => e = .returned (.bool (decide (v ∈ xs))) ∧ w' = w := by
  have HC := Aside0.mk hC
  have HN := Lib.hid hC.1
  have hn := hC.2.1
  clear hC
  go_enter Try.func21, Try.ntmps21
  go_wp2_with fail
  go_loopg [5] n (fun gn i wr => ∃ k : Nat, i = .int .i64 k ∧ Aside0 (k + gn = n ∧ v ∉ xs.take k) ∧ wr = w)
  case atStart => exact ⟨0, rfl, ⟨by omega, by simp⟩, rfl⟩
  case round =>
    obtain ⟨k, rfl, ⟨hgn, hall⟩, rfl⟩ := hrel
    have HGN := Lib.hid hgn
    have HALL := Lib.hid hall
    clear hgn hall
    by_cases hk : k < n
    · obtain ⟨ad, x, rfl, hx, hxm, hts0, q0⟩ := int_el HC.out (Below.refl _ _) k hk
      have HTS := Lib.hid hts0
      have HXM := Lib.hid hxm
      have p0 : (0 : Int) ≤ k := by omega
      have p1 : (k : Int) < n := by omega
      clear hts0 hx hxm
      by_cases hE : x = v
      · have e1 := int_beq_true hE
        have HE := Lib.hid hE
        clear hE
        go_wp2_with fail
        go_ret
        exact ⟨ret_bool (decide_eq_true (by rw [← HE.out]; exact HXM.out)).symm, rfl⟩
      · have e1 := int_beq_false hE
        have HE := Lib.hid hE
        clear hE
        go_wp2_with fail
        go_roundg (n - (k + 1))
        case measure => have := HGN.out; omega
        case rel => exact ⟨k + 1, by go_num, ⟨by have := HGN.out; omega, fun hy => by
          rw [HTS.out, List.mem_append, List.mem_singleton] at hy
          rcases hy with h | h
          · exact HALL.out h
          · exact HE.out h.symm⟩, rfl⟩
    · have hxs : xs.take k = xs := List.take_of_length_le (by rw [HN.out]; omega)
      rw [hxs] at HALL
      clear hxs
      have p1 : ¬ (k : Int) < n := by omega
      go_wp2_with fail
      go_ret
      exact ⟨ret_bool (decide_eq_false HALL.out).symm, rfl⟩
/-- One of a script: what it does, a place, locks. -/
structure Opn where
  what : Int
  pos : Int
  l : List Lk
instance : Inhabited Opn := ⟨⟨0, 0, []⟩⟩
def kOp : Kd Opn := Kd.iso (Kd.pair (Kd.int .i64) (Kd.pair (Kd.int .i64) (Kd.slice 23 kLk))) (fun x => (x.what, x.pos, x.l))
theorem kOp_K {w : World} {x : Opn} {cs : List Value} : kOp.K w x cs ↔ ∃ A c, cs = [.int .i64 x.what, .int .i64 x.pos, .slice A x.l.length c] ∧ x.l.length ≤ c ∧ kLk.C w A x.l.length x.l := by
  constructor
  · rintro ⟨_, _, rfl, rfl, _, _, rfl, rfl, A, c, rfl, hl, hC⟩
    exact ⟨A, c, rfl, hl, hC⟩
  · rintro ⟨A, c, rfl, hl, hC⟩
    exact ⟨[_], [_, _], rfl, rfl, [_], [_], rfl, rfl, A, c, rfl, hl, hC⟩
theorem op_at {w wr : World} {A : Option Addr} {n : Nat} {xs : List Opn} (h : kOp.C w A n xs) (hb : Below w.heap.size w wr) (k : Nat) (hk : k < n) :
    ∃ ad x B d, A = some ad ∧ xs.getD k default = x ∧ x ∈ xs ∧ wr.cell? (ad.add (k * 3)) = some (.int .i64 x.what) ∧
      wr.cell? { block := (ad.add (k * 3)).block, off := (ad.add (k * 3)).off + 1 } = some (.int .i64 x.pos) ∧ wr.cell? { block := (ad.add (k * 3)).block, off := (ad.add (k * 3)).off + 2 } = some (.slice B x.l.length d) ∧
      x.l.length ≤ d ∧ kLk.C w B x.l.length x.l := by
  obtain ⟨ad, cs, rfl, hlen, hcs, hcell⟩ := C_at h k hk default
  rw [kOp_K] at hcs
  obtain ⟨B, d, rfl, hl, hC⟩ := hcs
  have hkl : k < xs.length := by rw [h.1]; exact hk
  exact ⟨ad, _, B, d, rfl, rfl, getD_mem xs k default hkl, pw_cell_below hb (hcell 0 _ rfl), pw_cell_below hb (cell_off (j := 0) (hcell 1 _ rfl)), pw_cell_below hb (cell_off (j := 1) (hcell 2 _ rfl)), hl, hC⟩
end Go.Proofs.Ytajblhainchplaa

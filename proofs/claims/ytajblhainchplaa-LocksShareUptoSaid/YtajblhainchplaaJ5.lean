/- Layer 19: the walks of slices.IndexFunc, slices.ContainsFunc, over any function. -/
import Derived.Test.YtajblhainchplaaJ3
set_option linter.unusedVariables false
set_option linter.unusedSimpArgs false
namespace Go.Proofs.Ytajblhainchplaa
open Go.RowKit Go.Proofs.YtajblhainchplaaW.PrintWords Go.Proofs.YtajblhainchplaaW.PrintLast
/-- Where the first one stands of which P is true; -1: none. -/
def First {α : Type} (P : α → Prop) (xs : List α) (r : Int) : Prop := (r = -1 ∧ ∀ x ∈ xs, ¬ P x) ∨ ∃ k : Nat, r = k ∧ ∃ x, xs[k]? = some x ∧ P x ∧ ∀ y ∈ xs.take k, ¬ P y
theorem First.iff {α : Type} {P : α → Prop} {xs : List α} {r : Int} (h : First P xs r) : 0 ≤ r ↔ ∃ x ∈ xs, P x := by
  rcases h with ⟨rfl, h⟩ | ⟨k, rfl, x, hx, hp, _⟩
  · exact ⟨fun h => by omega, fun ⟨x, hx, hp⟩ => absurd hp (h x hx)⟩
  · exact ⟨fun _ => ⟨x, List.mem_of_getElem? hx, hp⟩, fun _ => by omega⟩
theorem getD_get? {α : Type} {xs : List α} {k : Nat} {d x : α} (hk : k < xs.length) (h : xs.getD k d = x) : xs[k]? = some x := by
  rw [List.getD_eq_getElem?_getD, List.getElem?_eq_getElem hk] at h
  rw [List.getElem?_eq_getElem hk, ← h]; rfl
set_option maxRecDepth 100000 in
set_option maxHeartbeats 1000000 in
theorem indexLk (K : Nat) (hK : ∀ args w, Sem.run Try.prog (callFunc K args) w = .ok (Next.enter K args) w) (caps : Array Value) (P : Lk → Prop) [DecidablePred P] (A : Option Addr) (n c : Nat) (xs : List Lk) (w : World) (hC : kLk.C w A n xs)
    (hf : ∀ x ∈ xs, ∀ w', Below w.heap.size w w' → Calls Try.prog K (#[.agg #[.int .i64 x.table, .string x.lo, .string x.hi, .bool x.write]] ++ caps) w' fun e w'' => e = .returned (.bool (decide (P x))) ∧ Below w'.heap.size w' w'') :
    Calls Try.prog 46 #[.slice A n c, .func (.func K) #[] caps] w fun e w' => ∃ r : Int, e = .returned (.int .i64 r) ∧ First P xs r ∧ Below w.heap.size w w' := by
  have HC := Aside0.mk hC
  have HN := Lib.hid hC.1
  have hn := hC.2.1
  have HF := Aside0.mk hf
  clear hC hf
  go_enter Try.func46, Try.ntmps46
  go_wp2_with fail
  go_loopg [8] n (fun gn i wr => ∃ k : Nat, i = .int .i64 k ∧ Aside0 (k + gn = n ∧ ∀ y ∈ xs.take k, ¬ P y) ∧ Aside0 (Below w.heap.size w wr))
  case atStart => exact ⟨0, rfl, ⟨by omega, by simp⟩, ⟨Below.refl _ _⟩⟩
  case round =>
    obtain ⟨k, rfl, ⟨hgn, hall⟩, hB⟩ := hrel
    have HGN := Lib.hid hgn
    have HALL := Lib.hid hall
    clear hgn hall
    by_cases hk : k < n
    · obtain ⟨ad, x, rfl, hx, hmem0, hts0, q0, q1, q2, q3⟩ := lk_at HC.out hB.out k hk
      have hts := Lib.hid hts0
      have hmem := Lib.hid hmem0
      have HX := Lib.hid (getD_get? (by rw [HN.out]; exact hk) hx)
      have p0 : (0 : Int) ≤ k := by omega
      have p1 : (k : Int) < n := by omega
      clear hts0 hmem0 hx
      go_wp2_with fail
      refine (HF.out x hmem.out wr hB.out).mono ?_
      rintro e w1 ⟨rfl, hb1⟩
      have HB1 := Aside0.mk (below_then hB.out hB.out.size hb1)
      clear hb1
      by_cases hE : P x
      · rw [decide_eq_true hE]
        have HE := Lib.hid hE
        clear hE
        go_wp2_with fail
        go_ret
        exact ⟨(k : Int), rfl, .inr ⟨k, rfl, x, HX.out, HE.out, HALL.out⟩, HB1.out⟩
      · rw [decide_eq_false hE]
        have HE := Lib.hid hE
        clear hE
        go_wp2_with fail
        go_roundg (n - (k + 1))
        case measure => have := HGN.out; omega
        case rel => exact ⟨k + 1, by go_num, ⟨by have := HGN.out; omega, fun y hy => by
          rw [hts.out, List.mem_append, List.mem_singleton] at hy
          rcases hy with h | h
          · exact HALL.out y h
          · rw [h]; exact HE.out⟩, HB1⟩
    · have hxs : xs.take k = xs := List.take_of_length_le (by rw [HN.out]; omega)
      rw [hxs] at HALL
      clear hxs
      go_wp2_with fail
      go_ret
      exact ⟨-1, rfl, .inl ⟨rfl, HALL.out⟩, hB.out⟩
set_option maxRecDepth 100000 in
set_option maxHeartbeats 1000000 in
theorem indexPl (K : Nat) (hK : ∀ args w, Sem.run Try.prog (callFunc K args) w = .ok (Next.enter K args) w) (caps : Array Value) (P : Plc → Prop) [DecidablePred P] (A : Option Addr) (n c : Nat) (xs : List Plc) (w : World) (hC : kPl.C w A n xs)
    (hf : ∀ x ∈ xs, ∀ (B : Option Addr) (d : Nat) w', Below w.heap.size w w' → kLk.C w B x.l.length x.l → Calls Try.prog K (#[.agg #[.int .i64 x.pos, .slice B x.l.length d]] ++ caps) w' fun e w'' => e = .returned (.bool (decide (P x))) ∧ Below w'.heap.size w' w'') :
    Calls Try.prog 47 #[.slice A n c, .func (.func K) #[] caps] w fun e w' => ∃ r : Int, e = .returned (.int .i64 r) ∧ First P xs r ∧ Below w.heap.size w w' := by
  have HC := Aside0.mk hC
  have HN := Lib.hid hC.1
  have hn := hC.2.1
  have HF := Aside0.mk hf
  clear hC hf
  go_enter Try.func47, Try.ntmps47
  go_wp2_with fail
  go_loopg [8] n (fun gn i wr => ∃ k : Nat, i = .int .i64 k ∧ Aside0 (k + gn = n ∧ ∀ y ∈ xs.take k, ¬ P y) ∧ Aside0 (Below w.heap.size w wr))
  case atStart => exact ⟨0, rfl, ⟨by omega, by simp⟩, ⟨Below.refl _ _⟩⟩
  case round =>
    obtain ⟨k, rfl, ⟨hgn, hall⟩, hB⟩ := hrel
    have HGN := Lib.hid hgn
    have HALL := Lib.hid hall
    clear hgn hall
    by_cases hk : k < n
    · obtain ⟨ad, x, B, d, rfl, hx, hmem0, hts0, q0, q1, hl, hCb⟩ := pl_at HC.out hB.out k hk
      have hts := Lib.hid hts0
      have hmem := Lib.hid hmem0
      have HX := Lib.hid (getD_get? (by rw [HN.out]; exact hk) hx)
      have p0 : (0 : Int) ≤ k := by omega
      have p1 : (k : Int) < n := by omega
      clear hts0 hmem0 hx
      go_wp2_with fail
      refine (HF.out x hmem.out B d wr hB.out hCb).mono ?_
      rintro e w1 ⟨rfl, hb1⟩
      have HB1 := Aside0.mk (below_then hB.out hB.out.size hb1)
      clear hb1
      by_cases hE : P x
      · rw [decide_eq_true hE]
        have HE := Lib.hid hE
        clear hE
        go_wp2_with fail
        go_ret
        exact ⟨(k : Int), rfl, .inr ⟨k, rfl, x, HX.out, HE.out, HALL.out⟩, HB1.out⟩
      · rw [decide_eq_false hE]
        have HE := Lib.hid hE
        clear hE
        go_wp2_with fail
        go_roundg (n - (k + 1))
        case measure => have := HGN.out; omega
        case rel => exact ⟨k + 1, by go_num, ⟨by have := HGN.out; omega, fun y hy => by
          rw [hts.out, List.mem_append, List.mem_singleton] at hy
          rcases hy with h | h
          · exact HALL.out y h
          · rw [h]; exact HE.out⟩, HB1⟩
    · have hxs : xs.take k = xs := List.take_of_length_le (by rw [HN.out]; omega)
      rw [hxs] at HALL
      clear hxs
      go_wp2_with fail
      go_ret
      exact ⟨-1, rfl, .inl ⟨rfl, HALL.out⟩, hB.out⟩
set_option maxRecDepth 100000 in
set_option maxHeartbeats 1000000 in
theorem contLk (K : Nat) (hK : ∀ args w, Sem.run Try.prog (callFunc K args) w = .ok (Next.enter K args) w) (caps : Array Value) (P : Lk → Prop) [DecidablePred P] (A : Option Addr) (n c : Nat) (xs : List Lk) (w : World) (hC : kLk.C w A n xs)
    (hf : ∀ x ∈ xs, ∀ w', Below w.heap.size w w' → Calls Try.prog K (#[.agg #[.int .i64 x.table, .string x.lo, .string x.hi, .bool x.write]] ++ caps) w' fun e w'' => e = .returned (.bool (decide (P x))) ∧ Below w'.heap.size w' w'') :
    Calls Try.prog 31 #[.slice A n c, .func (.func K) #[] caps] w fun e w' => e = .returned (.bool (decide (∃ x ∈ xs, P x))) ∧ Below w.heap.size w w' := by
  have HC := Aside0.mk hC
  have HF := Aside0.mk hf
  clear hC hf
  go_enter Try.func31, Try.ntmps31
  go_wp2_with fail
  refine (indexLk K hK caps P A n c xs w HC.out HF.out).mono ?_
  rintro e w1 ⟨r, rfl, hr, hb⟩
  have HR := Lib.hid hr.iff
  have HB := Aside0.mk hb
  clear hr hb
  go_wp2_with fail
  go_ret
  exact ⟨ret_bool (decide_eq_decide.2 HR.out), HB.out⟩
set_option maxRecDepth 100000 in
set_option maxHeartbeats 1000000 in
theorem contPl (K : Nat) (hK : ∀ args w, Sem.run Try.prog (callFunc K args) w = .ok (Next.enter K args) w) (caps : Array Value) (P : Plc → Prop) [DecidablePred P] (A : Option Addr) (n c : Nat) (xs : List Plc) (w : World) (hC : kPl.C w A n xs)
    (hf : ∀ x ∈ xs, ∀ (B : Option Addr) (d : Nat) w', Below w.heap.size w w' → kLk.C w B x.l.length x.l → Calls Try.prog K (#[.agg #[.int .i64 x.pos, .slice B x.l.length d]] ++ caps) w' fun e w'' => e = .returned (.bool (decide (P x))) ∧ Below w'.heap.size w' w'') :
    Calls Try.prog 34 #[.slice A n c, .func (.func K) #[] caps] w fun e w' => e = .returned (.bool (decide (∃ x ∈ xs, P x))) ∧ Below w.heap.size w w' := by
  have HC := Aside0.mk hC
  have HF := Aside0.mk hf
  clear hC hf
  go_enter Try.func34, Try.ntmps34
  go_wp2_with fail
  refine (indexPl K hK caps P A n c xs w HC.out HF.out).mono ?_
  rintro e w1 ⟨r, rfl, hr, hb⟩
  have HR := Lib.hid hr.iff
  have HB := Aside0.mk hb
  clear hr hb
  go_wp2_with fail
  go_ret
  exact ⟨ret_bool (decide_eq_decide.2 HR.out), HB.out⟩
theorem enter32 : ∀ args w, Sem.run Try.prog (callFunc 32 args) w = .ok (Next.enter 32 args) w := fun _ _ => by kernel_rfl
theorem enter48 : ∀ args w, Sem.run Try.prog (callFunc 48 args) w = .ok (Next.enter 48 args) w := fun _ _ => by kernel_rfl
theorem enter49 : ∀ args w, Sem.run Try.prog (callFunc 49 args) w = .ok (Next.enter 49 args) w := fun _ _ => by kernel_rfl
theorem enter50 : ∀ args w, Sem.run Try.prog (callFunc 50 args) w = .ok (Next.enter 50 args) w := fun _ _ => by kernel_rfl
theorem enter51 : ∀ args w, Sem.run Try.prog (callFunc 51 args) w = .ok (Next.enter 51 args) w := fun _ _ => by kernel_rfl
end Go.Proofs.Ytajblhainchplaa

/- Layer 19: plain laws of what is granted. -/
import Derived.Test.YtajblhainchplaaJ15
set_option linter.unusedVariables false
set_option linter.unusedSimpArgs false
namespace Go.Proofs.Ytajblhainchplaa
/-- The first open place waits for none. -/
theorem head_free {x : Plc} {r : List Plc} (h : (x :: r).Pairwise (fun a b => a.pos < b.pos)) : ¬ ∃ q ∈ x :: r, Ahead x q := by
  rintro ⟨q, hq, ha⟩
  rcases List.mem_cons.1 hq with rfl | hq
  · exact absurd ha.1 (by omega)
  · have := List.rel_of_pairwise_cons h hq
    exact absurd ha.1 (by omega)
theorem ready_head {x : Plc} {r : List Plc} (h : (x :: r).Pairwise (fun a b => a.pos < b.pos)) : ∃ m, readyL (x :: r) (x :: r) = x.pos :: m := by
  unfold readyL
  rw [List.filter_cons, if_pos (decide_eq_true (head_free h))]
  exact ⟨_, rfl⟩
theorem mem_ready {l m : List Plc} {v : Int} : v ∈ readyL l m ↔ ∃ p ∈ m, p.pos = v ∧ ¬ ∃ q ∈ l, Ahead p q := by
  unfold readyL
  rw [List.mem_map]
  constructor
  · rintro ⟨p, hp, rfl⟩
    rw [List.mem_filter] at hp
    exact ⟨p, hp.1, rfl, of_decide_eq_true hp.2⟩
  · rintro ⟨p, hp, rfl, hn⟩
    exact ⟨p, List.mem_filter.2 ⟨hp, decide_eq_true hn⟩, rfl⟩
/-- What was granted stays so when places are freed. -/
theorem ready_stays {l l' : List Plc} (hs : ∀ q ∈ l', q ∈ l) {p : Plc} (hp : p ∈ l') (h : ¬ ∃ q ∈ l, Ahead p q) : p.pos ∈ readyL l' l' :=
  mem_ready.2 ⟨p, hp, rfl, fun ⟨q, hq, ha⟩ => h ⟨q, hs q hq, ha⟩⟩
/-- No two that are granted meet. -/
theorem ready_apart {l : List Plc} {p q : Plc} (hp : p ∈ l) (hq : q ∈ l) (np : ¬ ∃ x ∈ l, Ahead p x) (nq : ¬ ∃ x ∈ l, Ahead q x) (hne : p.pos ≠ q.pos) : ¬ MeetAny p.l q.l := by
  intro h
  rcases Int.lt_or_gt_of_ne hne with h1 | h1
  · exact nq ⟨p, hp, h1, h⟩
  · exact np ⟨q, hq, h1, meetAny_comm.1 h⟩
end Go.Proofs.Ytajblhainchplaa

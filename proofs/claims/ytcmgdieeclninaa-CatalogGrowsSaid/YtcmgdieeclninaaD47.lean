/- Layer 08: D47 table() -/
import Derived.Test.YtcmgdieeclninaaD45
set_option linter.unusedVariables false
set_option linter.unusedSimpArgs false
namespace Go.Proofs.Ytcmgdieeclninaa
open Go.RowKit Go.Proofs.YtcmgdieeclninaaW.PrintWords
theorem R_block {α : Type} {d : Kd α} {e : Nat} {w : World} {base g : Nat} {ok : Nat → Prop} {xs : List α} {cs : Array Value} (hg : w.heap[g]? = some (.cells cs e (0, 0))) (hb : base ≤ g) (hok : ok g) (hm : xs.length ≤ 9223372036854775807)
    (hr : Reps (d.M w base (fun k => ok k ∧ k ≠ g)) d.sz xs cs.toList) : d.R e w base ok (.slice (some ⟨g, 0, none⟩) xs.length xs.length) xs := by
  refine ⟨fun k hk => ?_, cs.toList, ⟨hr.1, .inr ⟨g, xs.length, cs, rfl, hb, hg, Nat.le_refl _, hm, ?_, ?_⟩⟩, hr.imp_ (fun p c h => d.M_mono (fun k hk => ⟨hk.1, fun he => hk.2 ?_⟩) h)⟩
  · have : g = k := by simpa [Value.ownBlock] using hk
    exact this ▸ hok
  · have := hr.1; simpa using this
  · rw [List.take_of_length_le (by have := hr.1; omega)]
  · simpa [Value.ownBlock] using he
theorem reps1 {α : Type} {R : α → List Value → Prop} {size : Nat} {x : α} {c : List Value} (hl : c.length = size) (h : R x c) : Reps R size [x] c := by
  have := (Reps.none R size).snoc (p := x) h hl
  simpa using this
theorem reps2 {α : Type} {R : α → List Value → Prop} {size : Nat} {x y : α} {c e : List Value} (hl : c.length = size) (h : R x c) (hl2 : e.length = size) (h2 : R y e) : Reps R size [x, y] (c ++ e) := by
  have := ((Reps.none R size).snoc (p := x) h hl).snoc (p := y) h2 hl2
  simpa using this
/-- The chapter's table. -/
def t0 : Tab := ⟨⟨#[116]⟩, [⟨⟨#[105, 100]⟩, 1, true⟩, ⟨⟨#[118]⟩, 3, false⟩], [0], 0, [⟨⟨#[98, 121, 95, 118]⟩, [1], false⟩]⟩
theorem grow {W : World} {m : Nat} (hs : W.heap.size = m) (cs : Array Value) (e : TypeId) : ∃ u, u = W.alloc (Obj.cells cs e) ∧ u.heap[m]? = some (Obj.cells cs e (0, 0)) ∧ u.heap.size = m + 1 ∧ Below W.heap.size W u := by
  subst hs
  exact ⟨_, rfl, blk_alloc _ _, by simp, below_alloc (Below.refl _ _) _⟩
set_option maxRecDepth 100000 in
set_option maxHeartbeats 2000000 in
theorem table_any (w : World) : Calls Try.prog 34 #[] w fun e w' => ∃ v, e = .returned v ∧ vTab w.heap.size w' v t0 ∧ Below w.heap.size w w' := by
  go_enter Try.func34, Try.ntmps34
  go_wp2_with fail
  obtain ⟨W0, h0, b0, s0, B0⟩ := grow (W := w) rfl #[Value.string { data := #[116] }, Value.slice (some { block := w.heap.size + 1, off := 0 }) 2 2, Value.slice (some { block := w.heap.size + 1 + 1, off := 0 }) 1 1, Value.int IntKind.i64 0, Value.slice (some { block := w.heap.size + 1 + 1 + 1 + 1, off := 0 }) 1 1] 30
  obtain ⟨W1, h1, b1, s1, B1⟩ := grow s0 #[Value.string { data := #[105, 100] }, Value.int IntKind.i64 1, Value.bool true, Value.string { data := #[118] }, Value.int IntKind.i64 3, Value.bool false] 62
  obtain ⟨W2, h2, b2, s2, B2⟩ := grow s1 #[Value.int IntKind.i64 0] 3
  obtain ⟨W3, h3, b3, s3, B3⟩ := grow s2 #[Value.int IntKind.i64 1] 3
  obtain ⟨W4, h4, b4, s4, B4⟩ := grow s3 #[Value.string { data := #[98, 121, 95, 118] }, Value.slice (some { block := w.heap.size + 1 + 1 + 1, off := 0 }) 1 1, Value.bool false] 64
  rw [← h0, ← h1, ← h2, ← h3, ← h4]
  clear h0 h1 h2 h3 h4
  have c3 := blk_below b3 B4
  have c2 := blk_below (blk_below b2 B3) B4
  have c1 := blk_below (blk_below (blk_below b1 B2) B3) B4
  have c0 := blk_below (blk_below (blk_below (blk_below b0 B1) B2) B3) B4
  have B : Below w.heap.size w W4 := below_then (below_then (below_then (below_then B0 (by omega) B1) (by omega) B2) (by omega) B3) (by omega) B4
  refine bodyPost_ret (results_cell_row rfl _ _ w.heap.size 30 #[Value.string { data := #[116] }, Value.slice (some { block := w.heap.size + 1, off := 0 }) 2 2, Value.slice (some { block := w.heap.size + 1 + 1, off := 0 }) 1 1, Value.int IntKind.i64 0, Value.slice (some { block := w.heap.size + 1 + 1 + 1 + 1, off := 0 }) 1 1] (0, 0) _ rfl c0 Try.underlying30 rfl (by kernel_rfl)) rfl ?_
  refine ⟨_, rfl, ⟨_, _, _, rfl, ?_, ?_, ?_⟩, B⟩
  · exact R_block (xs := t0.cols) c1 (by omega) trivial (by decide) (reps2 rfl (kCol_M.2 rfl) rfl (kCol_M.2 rfl))
  · exact R_block (xs := t0.key) c2 (by omega) trivial (by decide) (reps1 rfl rfl)
  · refine R_block (xs := t0.idx) b4 (by omega) trivial (by decide) (reps1 rfl (kIdx_M.2 ⟨_, rfl, ?_⟩))
    exact R_block (xs := [1]) c3 (by omega) ⟨trivial, by omega⟩ (by decide) (reps1 rfl rfl)
end Go.Proofs.Ytcmgdieeclninaa

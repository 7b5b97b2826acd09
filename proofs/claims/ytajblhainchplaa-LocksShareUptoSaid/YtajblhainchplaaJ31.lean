/- Layer 19: plain laws of LocksShare: a table of places that only read; the first that writes. -/
import Derived.Test.YtajblhainchplaaJ28
set_option linter.unusedVariables false
set_option linter.unusedSimpArgs false
namespace Go.Proofs.Ytajblhainchplaa
def unW (x : Lk) : Lk := ⟨x.table, x.lo, x.hi, false⟩
def enW (x : Lk) : Lk := ⟨x.table, x.lo, x.hi, true⟩
/-- The right ones of some locks, made to read only. -/
def readsOf (l : List Lk) : List Lk := (l.map unW).filter (fun x => decide (RightL x))
theorem readsOf_yes {m m' : List Lk} {s : Lk} (h : m' = m ++ [s]) (hs : RightL (unW s)) : readsOf m' = readsOf m ++ [unW s] := by
  unfold readsOf; rw [h, List.map_append, List.filter_append]; simp only [List.map_cons, List.map_nil, List.filter_cons, List.filter_nil]; rw [if_pos (decide_eq_true hs)]
theorem readsOf_no {m m' : List Lk} {s : Lk} (h : m' = m ++ [s]) (hs : ¬ RightL (unW s)) : readsOf m' = readsOf m := by
  unfold readsOf; rw [h, List.map_append, List.filter_append]; simp only [List.map_cons, List.map_nil, List.filter_cons, List.filter_nil]; rw [if_neg (by rw [decide_eq_false hs]; decide), List.append_nil]
theorem readsOf_len (m : List Lk) : (readsOf m).length ≤ m.length := by unfold readsOf; exact Nat.le_trans (List.length_filter_le _ _) (by rw [List.length_map]; exact Nat.le_refl _)
theorem readsOf_right (m : List Lk) : ¬ ∃ x ∈ readsOf m, ¬ RightL x := by
  rintro ⟨x, hx, hn⟩
  exact hn (of_decide_eq_true (List.mem_filter.1 hx).2)
theorem readsOf_read (m : List Lk) : ∀ x ∈ readsOf m, x.write = false := by
  intro x hx
  obtain ⟨y, _, rfl⟩ := List.mem_map.1 (List.mem_filter.1 hx).1
  rfl
def plcAt (all : List (List Lk)) (i : Nat) : Plc := ⟨i, all.getD i default⟩
structure SK (t : TS) (k : Nat) (all : List (List Lk)) : Prop where
  srt : Srt t
  last : t.last < k
  l : t.l = (List.range k).map (plcAt all)
  len : all.length = k
  rd : ∀ l ∈ all, ∀ x ∈ l, x.write = false
theorem SK.start : SK t0 0 [] := ⟨Srt.start, by decide, rfl, rfl, by simp⟩
theorem SK.size {t : TS} {k : Nat} {all : List (List Lk)} (h : SK t k all) : t.l.length = k := by rw [h.l, List.length_map, List.length_range]
theorem SK.step {t : TS} {k : Nat} {all : List (List Lk)} (h : SK t k all) {l : List Lk} (hl : ¬ ∃ x ∈ l, ¬ RightL x) (hw : ∀ x ∈ l, x.write = false) : (t.ask k l).1 = 0 ∧ SK (t.ask k l).2 (k + 1) (all ++ [l]) := by
  have h1 := h.last
  have h4 := h.srt.ask k l
  have h0 : t.ask k l = (0, ⟨t.l ++ [⟨k, l⟩], k⟩) := ask_ok (by omega) hl
  rw [h0] at h4 ⊢
  refine ⟨rfl, h4, by show (k : Int) < ((k + 1 : Nat) : Int); omega, ?_, by rw [List.length_append, List.length_singleton, h.len], fun m hm => ?_⟩
  · show t.l ++ [_] = _
    rw [List.range_succ, List.map_append, h.l]
    congr 1
    · refine List.map_congr_left (fun i hi => ?_)
      have hik := List.mem_range.1 hi
      unfold plcAt
      rw [getD_app (by rw [h.len]; exact hik)]
    · show [_] = [_]
      unfold plcAt
      rw [← h.len, getD_end]
  · rcases List.mem_append.1 hm with hm | hm
    · exact h.rd m hm
    · rw [List.mem_singleton.1 hm]; exact hw
theorem SK.reads {t : TS} {k : Nat} {all : List (List Lk)} (h : SK t k all) {p : Plc} (hp : p ∈ t.l) : ∀ x ∈ p.l, x.write = false := by
  rw [h.l] at hp
  obtain ⟨i, hi, rfl⟩ := List.mem_map.1 hp
  have hik := List.mem_range.1 hi
  exact h.rd _ (getD_mem all i default (by rw [h.len]; exact hik))
/-- Calls that only read are all granted. -/
theorem SK.granted {t : TS} {k : Nat} {all : List (List Lk)} (h : SK t k all) : t.ready.length = k := by
  unfold TS.ready readyL
  rw [List.length_map, List.filter_eq_self.2, h.size]
  intro p hp
  refine decide_eq_true ?_
  rintro ⟨q, hq, _, x, hx, y, hy, hm⟩
  have h1 := h.reads hq x hx
  have h2 := h.reads hp y hy
  rcases hm.2.1 with h3 | h3
  · rw [h1] at h3; cases h3
  · rw [h2] at h3; cases h3
def wantOf (all : List (List Lk)) (b : List Lk) (k : Nat) : List Int := ((List.range k).filter (fun i => decide (MeetAny (all.getD i default) b))).map (fun i : Nat => (i : Int))
theorem wantOf_yes {all : List (List Lk)} {b : List Lk} {k : Nat} (h : MeetAny (all.getD k default) b) : wantOf all b (k + 1) = wantOf all b k ++ [(k : Int)] := by
  unfold wantOf
  rw [List.range_succ, List.filter_append, List.map_append]; simp only [List.filter_cons, List.filter_nil]; rw [if_pos (decide_eq_true h)]; rfl
theorem wantOf_no {all : List (List Lk)} {b : List Lk} {k : Nat} (h : ¬ MeetAny (all.getD k default) b) : wantOf all b (k + 1) = wantOf all b k := by
  unfold wantOf
  rw [List.range_succ, List.filter_append, List.map_append]; simp only [List.filter_cons, List.filter_nil]; rw [if_neg (by rw [decide_eq_false h]; decide)]; simp
theorem wantOf_len (all : List (List Lk)) (b : List Lk) (k : Nat) : (wantOf all b k).length ≤ k := by
  unfold wantOf
  rw [List.length_map]
  exact Nat.le_trans (List.length_filter_le _ _) (by rw [List.length_range]; exact Nat.le_refl _)
/-- The one that writes waits for just those whose locks it meets. -/
theorem SK.waits {t : TS} {k : Nat} {all : List (List Lk)} (h : SK t k all) {b : List Lk} (hb : ¬ ∃ x ∈ b, ¬ RightL x) : (t.ask k b).1 = 0 ∧ (t.ask k b).2.l.length = k + 1 ∧ (t.ask k b).2.waits k = (wantOf all b k, 0) := by
  have h1 := h.last
  have h0 : t.ask k b = (0, ⟨t.l ++ [⟨k, b⟩], k⟩) := ask_ok (by omega) hb
  rw [h0]
  refine ⟨rfl, by show (t.l ++ [_]).length = _; rw [List.length_append, List.length_singleton, h.size], ?_⟩
  have hlen : (t.l ++ [(⟨k, b⟩ : Plc)]).length = k + 1 := by rw [List.length_append, List.length_singleton, h.size]
  have hf : findP (t.l ++ [(⟨k, b⟩ : Plc)]) k = some k := by
    unfold findP
    rw [List.findIdx?_eq_some_iff_getElem]
    refine ⟨by omega, ?_, fun j hj => ?_⟩
    · rw [List.getElem_append_right (by rw [h.size]; exact Nat.le_refl _)]
      simp
    · rw [List.getElem_append_left (by rw [h.size]; exact hj)]
      have hm : t.l[j]'(by rw [h.size]; exact hj) = plcAt all j := by
        have := h.l
        have h2 : ((List.range k).map (plcAt all))[j]'(by simpa using hj) = plcAt all j := by simp
        rw [← h2]
        congr 1
      rw [hm]
      show ¬ decide ((j : Int) = k) = true
      rw [decide_eq_false (by omega)]; decide
  have hg : (t.l ++ [(⟨k, b⟩ : Plc)]).getD k default = ⟨k, b⟩ := by
    have := getD_end (l := t.l) (x := (⟨k, b⟩ : Plc)) (d := default)
    rwa [h.size] at this
  rw [waits_yes hf]
  show (keepL ((t.l ++ [(⟨k, b⟩ : Plc)]).getD k default) (t.l ++ [(⟨k, b⟩ : Plc)]), (0 : Int)) = _
  rw [hg, keepL_stay rfl (fun ha => by have h5 : (k : Int) < k := ha.1; omega)]
  congr 1
  unfold keepL wantOf
  rw [h.l, List.filter_map, List.map_map]
  have hc : ∀ i ∈ List.range k, ((fun q => decide (Ahead (⟨k, b⟩ : Plc) q)) ∘ plcAt all) i = decide (MeetAny (all.getD i default) b) := by
    intro i hi
    have hik := List.mem_range.1 hi
    refine decide_eq_decide.2 ⟨fun ha => ha.2, fun hm => ⟨by show (i : Int) < k; omega, hm⟩⟩
  rw [List.filter_congr hc]
  rfl
theorem right_one {x : Lk} : (¬ ∃ y ∈ [x], ¬ RightL y) ↔ RightL x := by
  constructor
  · intro h
    by_cases hx : RightL x
    · exact hx
    · exact absurd ⟨x, List.mem_singleton.2 rfl, hx⟩ h
  · rintro h ⟨y, hy, hn⟩
    rw [List.mem_singleton.1 hy] at hn
    exact hn h
theorem SK.refused {t : TS} {k : Nat} {all : List (List Lk)} (h : SK t k all) {x : Lk} (hb : ¬ RightL x) : (t.ask k [x]).1 = 190 := by
  have h1 := h.last
  rw [ask_no2 (by omega) ⟨x, List.mem_singleton.2 rfl, hb⟩]
end Go.Proofs.Ytajblhainchplaa

/- Layer 19: plain laws of a table that takes places in order and frees granted ones. -/
import Derived.Test.YtajblhainchplaaJ27
set_option linter.unusedVariables false
set_option linter.unusedSimpArgs false
namespace Go.Proofs.Ytajblhainchplaa
/-- What a table holds after the places 0 .. k-1 were asked, 'all' being what it took of each. -/
structure TK (t : TS) (k : Nat) (all : List (List Lk)) : Prop where
  srt : Srt t
  last : t.last < k
  at_ : ∀ q ∈ t.l, ∃ i : Nat, i < k ∧ q.pos = i ∧ q.l = all.getD i default
  len : t.l.length ≤ k
theorem TK.start : TK t0 0 [] := ⟨Srt.start, by decide, by simp [t0], by simp [t0]⟩
theorem getD_app {α : Type} {l m : List α} {i : Nat} {d : α} (h : i < l.length) : (l ++ m).getD i d = l.getD i d := by
  simp [List.getD, List.getElem?_append_left h]
theorem getD_end {α : Type} {l : List α} {x d : α} : (l ++ [x]).getD l.length d = x := by
  simp [List.getD]
theorem TK.no {t : TS} {k : Nat} {all : List (List Lk)} (h : TK t k all) (hk : all.length = k) {l : List Lk} (hl : ∃ x ∈ l, ¬ RightL x) : (t.ask k l).1 = 190 ∧ TK (t.ask k l).2 (k + 1) (all ++ [[]]) := by
  have h1 := h.last
  have h0 : t.ask k l = (190, t) := ask_no2 (by omega) hl
  rw [h0]
  refine ⟨rfl, h.srt, by show t.last < ((k + 1 : Nat) : Int); omega, fun q hq => ?_, Nat.le_succ_of_le h.len⟩
  obtain ⟨i, hi, h2, h3⟩ := h.at_ q hq
  exact ⟨i, by omega, h2, by rw [getD_app (by omega)]; exact h3⟩
theorem TK.yes {t : TS} {k : Nat} {all : List (List Lk)} (h : TK t k all) (hk : all.length = k) {l : List Lk} (hl : ¬ ∃ x ∈ l, ¬ RightL x) : (t.ask k l).1 = 0 ∧ TK (t.ask k l).2 (k + 1) (all ++ [l]) := by
  have h1 := h.last
  have h4 := h.srt.ask k l
  have h0 : t.ask k l = (0, ⟨t.l ++ [⟨k, l⟩], k⟩) := ask_ok (by omega) hl
  rw [h0] at h4 ⊢
  refine ⟨rfl, h4, by show (k : Int) < ((k + 1 : Nat) : Int); omega, fun q hq => ?_, ?_⟩
  · rcases List.mem_append.1 hq with hq | hq
    · obtain ⟨i, hi, h2, h3⟩ := h.at_ q hq
      exact ⟨i, by omega, h2, by rw [getD_app (by omega)]; exact h3⟩
    · rw [List.mem_singleton.1 hq]
      exact ⟨k, by omega, rfl, by subst hk; exact getD_end.symm⟩
  · show (t.l ++ [_]).length ≤ k + 1
    rw [List.length_append, List.length_singleton]; have := h.len; omega
theorem pos_inj {l : List Plc} (h : l.Pairwise (fun a b => a.pos < b.pos)) {p q : Plc} (hp : p ∈ l) (hq : q ∈ l) (e : p.pos = q.pos) : p = q := by
  induction l with
  | nil => cases hp
  | cons x r ih =>
    rw [List.pairwise_cons] at h
    rcases List.mem_cons.1 hp with h1 | h1
    · rcases List.mem_cons.1 hq with h2 | h2
      · rw [h1, h2]
      · have := h.1 q h2; rw [h1] at e; omega
    · rcases List.mem_cons.1 hq with h2 | h2
      · have := h.1 p h1; rw [h2] at e; omega
      · exact ih h.2 h1 h2
/-- A granted place is freed, and no other. -/
theorem release_granted {t : TS} (h : Srt t) {g : Int} (hg : g ∈ t.ready) :
    (t.release g).1 = 0 ∧ (t.release g).2.l.length + 1 = t.l.length ∧ (∀ q ∈ (t.release g).2.l, q ∈ t.l) ∧ ∀ q ∈ t.l, q.pos ≠ g → q ∈ (t.release g).2.l := by
  obtain ⟨p, hp, hpg, hn⟩ := mem_ready.1 hg
  obtain ⟨k, hf⟩ : ∃ k, findP t.l g = some k := by
    cases hf : findP t.l g with
    | some k => exact ⟨k, rfl⟩
    | none =>
      unfold findP at hf
      rw [List.findIdx?_eq_none_iff] at hf
      have := hf p hp
      rw [decide_eq_true hpg] at this
      cases this
  have hf2 := hf
  unfold findP at hf2
  rw [List.findIdx?_eq_some_iff_getElem] at hf2
  obtain ⟨hk, hk2, _⟩ := hf2
  have hkp : t.l[k] = p := pos_inj h.up (List.getElem_mem hk) hp ((of_decide_eq_true hk2).trans hpg.symm)
  have hgd : t.l.getD k default = p := by rw [List.getD, List.getElem?_eq_getElem hk]; exact hkp
  have h0 : t.release g = (0, ⟨t.l.eraseIdx k, t.last⟩) := release_ok hf (by rw [hgd]; exact hn)
  rw [h0]
  refine ⟨rfl, ?_, fun q hq => List.mem_of_mem_eraseIdx hq, fun q hq hne => ?_⟩
  · show (t.l.eraseIdx k).length + 1 = _
    rw [List.length_eraseIdx_of_lt hk]; omega
  · show q ∈ t.l.eraseIdx k
    rw [List.mem_eraseIdx_iff_getElem]
    obtain ⟨i, hi, rfl⟩ := List.mem_iff_getElem.1 hq
    refine ⟨i, hi, ?_, rfl⟩
    rintro rfl
    exact hne (by rw [hkp, hpg])
/-- A turn of the law LocksEnd. -/
structure EI (t : TS) (all : List (List Lk)) (freed before : List Int) (n : Nat) : Prop where
  srt : Srt t
  at_ : ∀ q ∈ t.l, ∃ i : Nat, i < all.length ∧ q.pos = i ∧ q.l = all.getD i default
  len : t.l.length + n ≤ all.length
  bef : ∀ b ∈ before, b ∈ t.ready ∨ b ∈ freed
  fl : freed.length ≤ n
theorem EI.start {t : TS} {all : List (List Lk)} (h : TK t all.length all) : EI t all [] [] 0 := ⟨h.srt, h.at_, h.len, (by simp), Nat.le_refl _⟩
theorem EI.step {t : TS} {all : List (List Lk)} {freed before : List Int} {n : Nat} (h : EI t all freed before n) {g : Int} (hg : g ∈ t.ready) : EI (t.release g).2 all (freed ++ [g]) t.ready (n + 1) := by
  obtain ⟨_, h1, h2, h3⟩ := release_granted h.srt hg
  refine ⟨h.srt.release g, fun q hq => h.at_ q (h2 q hq), by have := h.len; omega, fun b hb => ?_, by rw [List.length_append, List.length_singleton]; have := h.fl; omega⟩
  by_cases hbg : b = g
  · exact .inr (List.mem_append_right _ (by rw [hbg]; exact List.mem_singleton.2 rfl))
  · obtain ⟨p, hp, rfl, hn⟩ := mem_ready.1 hb
    exact .inl (ready_stays (l := t.l) h2 (h3 p hp hbg) hn)
theorem EI.inside {t : TS} {all : List (List Lk)} {freed before : List Int} {n : Nat} (h : EI t all freed before n) : ∀ o ∈ t.ready, (0 : Int) ≤ o ∧ o < all.length := by
  intro o ho
  obtain ⟨p, hp, rfl, _⟩ := mem_ready.1 ho
  obtain ⟨i, hi, h1, _⟩ := h.at_ p hp
  rw [h1]; omega
theorem ready_up {t : TS} (h : Srt t) : t.ready.Pairwise (· < ·) := by
  unfold TS.ready readyL
  rw [List.pairwise_map]
  exact h.up.filter _
theorem EI.apart {t : TS} {all : List (List Lk)} {freed before : List Int} {n : Nat} (h : EI t all freed before n) :
    ∀ i m, m < i → i < t.ready.length → ¬ MeetAny (all.getD (t.ready.getD i 0).toNat default) (all.getD (t.ready.getD m 0).toNat default) := by
  intro i m hm hi
  obtain ⟨p, hp, hp1, hp2⟩ := mem_ready.1 (getD_mem t.ready i 0 hi)
  obtain ⟨q, hq, hq1, hq2⟩ := mem_ready.1 (getD_mem t.ready m 0 (by omega))
  have hlt : t.ready.getD m 0 < t.ready.getD i 0 := by
    have := List.pairwise_iff_getElem.1 (ready_up h.srt) m i (by omega) hi hm
    simpa [List.getD, List.getElem?_eq_getElem hi, List.getElem?_eq_getElem (show m < t.ready.length by omega)] using this
  obtain ⟨a, _, ha1, ha2⟩ := h.at_ p hp
  obtain ⟨b, _, hb1, hb2⟩ := h.at_ q hq
  have h1 := ready_apart hp hq hp2 hq2 (by omega)
  rw [← hp1, ← hq1, ha1, hb1, Int.toNat_natCast, Int.toNat_natCast, ← ha2, ← hb2]
  exact h1
/-- A granted place has no open one ahead that meets it. -/
theorem EI.first {t : TS} {all : List (List Lk)} {freed before : List Int} {n : Nat} (h : EI t all freed before n) {g : Nat} (hg : (g : Int) ∈ t.ready) :
    ∀ o ∈ t.l.map (fun q : Plc => q.pos), (0 : Int) ≤ o ∧ o < all.length ∧ (o < g → ¬ MeetAny (all.getD o.toNat default) (all.getD g default)) := by
  intro o ho
  obtain ⟨q, hq, rfl⟩ := List.mem_map.1 ho
  obtain ⟨p, hp, hp1, hp2⟩ := mem_ready.1 hg
  obtain ⟨a, _, ha1, ha2⟩ := h.at_ p hp
  obtain ⟨b, hb, hb1, hb2⟩ := h.at_ q hq
  have hag : a = g := by omega
  refine ⟨by omega, by omega, fun hlt hm => hp2 ⟨q, hq, by omega, ?_⟩⟩
  rw [hb1, Int.toNat_natCast, ← hb2, ← hag, ← ha2] at hm
  exact hm
theorem EI.head {t : TS} {all : List (List Lk)} {freed before : List Int} {n : Nat} (h : EI t all freed before n) (hl : t.l ≠ []) : 0 < t.ready.length ∧ t.ready.getD 0 0 = (t.l.map (fun q : Plc => q.pos)).getD 0 0 := by
  cases hx : t.l with
  | nil => exact absurd hx hl
  | cons x r =>
    have h1 := h.srt.up
    rw [hx] at h1
    obtain ⟨m, hm⟩ := ready_head h1
    have h2 : t.ready = x.pos :: m := by unfold TS.ready; rw [hx]; exact hm
    rw [h2]
    exact ⟨by simp, rfl⟩
end Go.Proofs.Ytajblhainchplaa

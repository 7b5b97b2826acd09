/- From the reading of an argument to the kinds' words: what is read at a type is of a kind, and within the form's reach. Over any program. -/
import Derived.Test.YtajblhainchplaaWWords
import Derived.Deep.Slices
import Derived.ProofKit
import Derived.OpenShut
import Derived.SizedLaws
set_option linter.unusedVariables false
set_option linter.unusedSimpArgs false
namespace Go.Proofs.Ytajblhainchplaa.Opn
open Go.RowKit Go.Proofs.YtajblhainchplaaW.PrintWords Go.ChangeShapes Go.WideShapes Go.ChangeAt

/-- What is read at type t is of kind d, and meets Z. -/
def Opens {α : Type} (P : Program) (t : TypeId) (d : Kd α) (Z : α → Prop) : Prop :=
  ∀ {H : Type} {enc : TypeId × Value → H} {W : World} {base : Nat} {spare : Nat → Bool} {held : Bool} {fuel : Nat} {cs : List Value} {x : DataW H × List MemPlace},
    DataW.trod enc P W base spare held fuel t cs = some x → (∀ n ∈ x.1.weights P t, n ≤ reachBytes) → ∃ v, d.K W v cs ∧ Z v
theorem opens_int {P : Program} {t : TypeId} {k : IntKind} (hu : P.underlying t = some (.int k)) : Opens P t (Kd.int k) (fun n => (Lit.int k n).wf = true) := by
  intro H enc W base spare held fuel cs x h _
  obtain ⟨n, rfl, _, hw⟩ := DataW.trod_int hu h
  exact ⟨n, rfl, hw⟩
theorem opens_bool {P : Program} {t : TypeId} (hu : P.underlying t = some .bool) : Opens P t Kd.bool (fun _ => True) := by
  intro H enc W base spare held fuel cs x h _
  obtain ⟨b, rfl, _⟩ := DataW.trod_bool hu h
  exact ⟨b, rfl, trivial⟩
theorem opens_string {P : Program} {t : TypeId} (hu : P.underlying t = some .string) : Opens P t Kd.string (fun s => s.size ≤ 140737488351232) := by
  intro H enc W base spare held fuel cs x h hz
  obtain ⟨s, rfl, rfl, hs⟩ := DataW.trod_string hu h
  refine ⟨s, rfl, ?_⟩
  have := hz s.data.toList.length (by simp [DataW.weights])
  have h2 : s.data.toList.length = s.size := by simp
  have h3 : reachBytes = 140737488351232 := rfl
  omega
theorem cells?_get {w : World} {base : Nat} {a : Addr} {n : Nat} {cs : List Value} (h : w.cells? base a n = some cs) : cs.length = n ∧ ∀ i u, cs[i]? = some u → w.cell? (a.add i) = some u := by
  obtain ⟨h1, h2, h3⟩ := World.cells?_some h
  refine ⟨h2, fun i u hu => ?_⟩
  have hi : i < cs.length := (List.getElem?_eq_some_iff.1 hu).1
  have := h3 i (by omega)
  rw [this]
  exact hu
theorem addr_add_add (a : Addr) (i j : Nat) : (a.add i).add j = a.add (i + j) := by
  unfold Addr.add
  by_cases h1 : i = 0
  · subst h1; simp
  · by_cases h2 : j = 0
    · subst h2; simp
    · have : i + j ≠ 0 := by omega
      simp [h1, h2, this, Nat.add_assoc]
theorem mem_weightsAll {H : Type} {P : Program} {e : TypeId} {l : List (DataW H)} {d : DataW H} {n : Nat} (hd : d ∈ l) (hn : n ∈ d.weights P e) : n ∈ DataW.weightsAll P e l := by
  induction l with
  | nil => cases hd
  | cons x l ih =>
    simp only [DataW.weightsAll, List.mem_append]
    cases hd with
    | head => exact .inl hn
    | tail _ h => exact .inr (ih h)
theorem opens_slice {α : Type} {P : Program} {t e : TypeId} {d : Kd α} {Z : α → Prop} (hu : P.underlying t = some (.slice e)) (hc : P.cellsOf e = d.sz) {B : Nat} (hB : P.bytesOf e = B) (he : Opens P e d Z) :
    Opens P t (Kd.slice e d) (fun xs => xs.length * B ≤ 140737488351232 ∧ ∀ x ∈ xs, Z x) := by
  intro H enc W base spare held fuel cs x h hz
  rcases Deep.open_slice hu h with ⟨rfl, rfl⟩ | ⟨a, len, cap, m, n, D, Pl, rfl, hb, hl, hm, rfl, rfl, hall⟩
  · exact ⟨[], ⟨none, 0, rfl, Nat.le_refl _, rfl, by simp, fun h => absurd h (Nat.lt_irrefl 0)⟩, by simp, by simp⟩
  · have hlm : len ≤ (if spare a.block then cap else len) := by split <;> omega
    have hzs : ∀ i, i < len → ∃ v c, c.length = d.sz ∧ d.K W v c ∧ Z v ∧ ∀ j u, c[j]? = some u → W.cell? (a.add (i * d.sz + j)) = some u := by
      intro i hi
      obtain ⟨c, h1, h2⟩ := hall i (by omega)
      obtain ⟨v, hv, hZ⟩ := he h2 (fun k hk => hz k (by
        simp only [DataW.weights, hu, List.mem_cons, List.mem_append]
        exact .inr (.inl (mem_weightsAll (List.mem_map.2 ⟨i, List.mem_range.2 hi, rfl⟩) hk))))
      obtain ⟨g1, g2⟩ := cells?_get h1
      refine ⟨v, c, by rw [g1, hc], hv, hZ, fun j u hj => ?_⟩
      have := g2 j u hj
      rw [hc] at this
      rw [← this, addr_add_add]
    have hbytes := hz ((((List.range len).map D).length + ((List.range ((if spare a.block then cap else len) - len)).map fun j => D (len + j)).length) * P.bytesOf e) (by
      simp only [DataW.weights, hu, List.mem_cons, true_or])
    rw [hB] at hbytes
    have hlen : len * B ≤ 140737488351232 := by
      refine Nat.le_trans (Nat.mul_le_mul_right _ ?_) hbytes
      simp
    by_cases h0 : len = 0
    · subst h0
      exact ⟨[], ⟨_, cap, rfl, by simp, rfl, by simp, fun h => absurd h (Nat.lt_irrefl 0)⟩, by simp, by simp⟩
    · have hx : ∃ xs : List α, xs.length = len ∧ ∀ i v, xs[i]? = some v → ∃ c, c.length = d.sz ∧ d.K W v c ∧ Z v ∧ ∀ j u, c[j]? = some u → W.cell? (a.add (i * d.sz + j)) = some u := by
        clear hbytes hlen hall hz hlm h hl h0
        induction len with
        | zero => exact ⟨[], rfl, fun i v h => by simp at h⟩
        | succ k ih =>
          obtain ⟨xs, hxl, hxs⟩ := ih (fun i hi => hzs i (by omega))
          obtain ⟨v, c, hv⟩ := hzs k (by omega)
          refine ⟨xs ++ [v], by simp [hxl], fun i u hu => ?_⟩
          rcases Nat.lt_or_ge i xs.length with hi | hi
          · rw [List.getElem?_append_left hi] at hu
            exact hxs i u hu
          · rw [List.getElem?_append_right hi] at hu
            have hik : i = k := by
              have : i - xs.length < 1 := by
                have := (List.getElem?_eq_some_iff.1 hu).1
                simpa using this
              omega
            subst hik
            simp [hxl] at hu
            subst hu
            exact ⟨c, hv⟩
      obtain ⟨xs, hxl, hxs⟩ := hx
      refine ⟨xs, ⟨some a, cap, by rw [hxl], by rw [hxl]; exact hl, ⟨by rw [hxl], ?_, fun _ => ⟨a, rfl, fun j p hp => ?_⟩⟩⟩, by rw [hxl]; exact hlen, fun x hx => ?_⟩
      · rw [hxl]; simp only [maxLen] at hm; omega
      · obtain ⟨c, h1, h2, _, h4⟩ := hxs j p hp
        exact ⟨c, h1, h2, h4⟩
      · obtain ⟨i, hi, rfl⟩ := List.mem_iff_getElem.1 hx
        obtain ⟨_, _, _, hZ, _⟩ := hxs i _ (List.getElem?_eq_getElem hi)
        exact hZ
/-- The fields of a struct, from an offset on. -/
def OpensF {α : Type} (P : Program) (fs : List Field) (off : Nat) (d : Kd α) (Z : α → Prop) : Prop :=
  ∀ {H : Type} {enc : TypeId × Value → H} {W : World} {base : Nat} {spare : Nat → Bool} {held : Bool} {fuel : Nat} {cs : List Value} {xs : List (DataW H × List MemPlace)},
    cs.length = off + d.sz → xs.length = fs.length → (∀ (i : Nat) (f : Field), fs[i]? = some f → DataW.trod enc P W base spare held fuel f.type ((cs.drop f.offset).take (P.cellsOf f.type)) = xs[i]?) →
    (∀ n ∈ DataW.weightsEach P (fs.map (·.type)) (xs.map (·.1)), n ≤ reachBytes) → ∃ v, d.K W v (cs.drop off) ∧ Z v
theorem opensF_one {α : Type} {P : Program} {f : Field} {off : Nat} {d : Kd α} {Z : α → Prop} (ho : f.offset = off) (hc : P.cellsOf f.type = d.sz) (he : Opens P f.type d Z) : OpensF P [f] off d Z := by
  intro H enc W base spare held fuel cs xs hl hx hf hz
  match xs, hx with
  | [y], _ =>
    have h := hf 0 f rfl
    rw [ho, hc, List.take_of_length_le (by rw [List.length_drop]; omega)] at h
    exact he h (fun n hn => hz n (by simp only [List.map_cons, List.map_nil, DataW.weightsEach, List.mem_append]; exact .inl hn))
theorem opensF_cons {α β : Type} {P : Program} {f : Field} {fs : List Field} {off : Nat} {a : Kd α} {b : Kd β} {Z : α → Prop} {Z' : β → Prop} (ho : f.offset = off) (hc : P.cellsOf f.type = a.sz) (he : Opens P f.type a Z)
    (hr : OpensF P fs (off + a.sz) b Z') : OpensF P (f :: fs) off (Kd.pair a b) (fun x => Z x.1 ∧ Z' x.2) := by
  intro H enc W base spare held fuel cs xs hl hx hf hz
  match xs, hx with
  | y :: ys, hx =>
    have h := hf 0 f rfl
    rw [ho, hc] at h
    obtain ⟨v, hv, hZ⟩ := he h (fun n hn => hz n (by simp only [List.map_cons, DataW.weightsEach, List.mem_append]; exact .inl hn))
    have hl' : cs.length = off + a.sz + b.sz := by have : (Kd.pair a b).sz = a.sz + b.sz := rfl; omega
    obtain ⟨v', hv', hZ'⟩ := hr hl' (by simpa using hx) (fun i g hg => by simpa using hf (i + 1) g (by simpa using hg)) (fun n hn => hz n (by simp only [List.map_cons, DataW.weightsEach, List.mem_append]; exact .inr hn))
    refine ⟨(v, v'), ⟨(cs.drop off).take a.sz, cs.drop (off + a.sz), ?_, hv, hv'⟩, hZ, hZ'⟩
    rw [← List.drop_drop, List.take_append_drop]
theorem opens_struct {α : Type} {P : Program} {t : TypeId} {fs : Array Field} {d : Kd α} {Z : α → Prop} (hu : P.underlying t = some (.struct fs)) (hc : P.cellsOf t = d.sz) (hf : OpensF P fs.toList 0 d Z) : Opens P t d Z := by
  intro H enc W base spare held fuel cs x h hz
  obtain ⟨xs, n, _, rfl, hl, hlen, hfs⟩ := DataW.trod_struct hu h
  have := hf (W := W) (fuel := n) (cs := cs) (xs := xs) (by omega) (by simpa using hlen) (fun i f hi => hfs i f (by simpa using hi)) (fun k hk => hz k (by simp only [DataW.weights, hu]; exact hk))
  simpa using this
/-- A Lean structure by its fields. -/
theorem opens_iso {α β : Type} {P : Program} {t : TypeId} {d : Kd α} {Z : α → Prop} (f : β → α) (g : α → β) (hfg : ∀ x, f (g x) = x) (h : Opens P t d Z) : Opens P t (Kd.iso d f) (fun y => Z (f y)) := by
  intro H enc W base spare held fuel cs x ht hz
  obtain ⟨v, hv, hZ⟩ := h ht hz
  refine ⟨g v, ?_, ?_⟩
  · show d.K W (f (g v)) cs
    rw [hfg]; exact hv
  · show Z (f (g v))
    rw [hfg]; exact hZ
theorem opens_imp {α : Type} {P : Program} {t : TypeId} {d : Kd α} {Z Z' : α → Prop} (h : Opens P t d Z) (hz : ∀ x, Z x → Z' x) : Opens P t d Z' := by
  intro H enc W base spare held fuel cs x ht hw
  obtain ⟨v, hv, hZ⟩ := h ht hw
  exact ⟨v, hv, hz _ hZ⟩
/-- An argument, opened. -/
theorem arg_open {α H : Type} {enc : TypeId × Value → H} {P : Program} {t : TypeId} {d : Kd α} {Z : α → Prop} {W : World} {base : Nat} {spare : Nat → Bool} {held : Bool} {v : Value} {x : DataW H} {ps : List MemPlace} {ts : List TypeId} {ds : List (DataW H)} {j : Nat}
    (ho : Opens P t d Z) (hsz : (DataW.weightsEach P ts ds).all (· ≤ reachBytes) = true) (ht : ts[j]? = some t) (hd : ds[j]? = some x) (h : DataW.Trod enc P W base spare held t v x ps) : ∃ y, d.K W y v.cells.toList ∧ Z y := by
  obtain ⟨fuel, hf⟩ := h
  exact ho hf (fun n hn => by
    have := List.all_eq_true.1 hsz _ (DataW.weights_mem_each ht hd n hn)
    simpa using this)
/-- All arguments read as they did where nothing old has turned. -/
theorem trodAll_stays {H : Type} {enc : TypeId × Value → H} {P : Program} (hl : laidOutB P = true) {W W' : World} (hb : Below W.heap.size W W') : ∀ {ts : List TypeId} {vs : List Value} {ds : List (DataW H)} {ps : List MemPlace},
    (∀ t ∈ ts, P.readableRec t = true ∧ t < P.types.size) → DataW.TrodAll enc P W 0 (fun _ => true) true ts vs ds ps → DataW.TrodAll enc P W' 0 (fun b => decide (b < W.heap.size)) true ts vs ds ps
  | [], [], [], ps, _, h => h
  | t :: ts, v :: vs, d :: ds, ps, ht, h => by
    obtain ⟨p, q, h1, h2, rfl⟩ := h
    obtain ⟨hr, hrow⟩ := ht t List.mem_cons_self
    refine ⟨p, q, Below.trod hl hr hrow h1 hb (fun x hx => ?_), trodAll_stays hl hb (fun u hu => ht u (List.mem_cons_of_mem _ hu)) h2, rfl⟩
    obtain ⟨m, hm⟩ := h1
    exact DataW.trod_lt m _ _ _ hm x hx
end Go.Proofs.Ytajblhainchplaa.Opn

/- Layer 08: D54 plain: bytes back -/
import Derived.Test.YtcmgdieeclninaaD45
set_option linter.unusedVariables false
set_option linter.unusedSimpArgs false
namespace Go.Proofs.Ytcmgdieeclninaa
open Go.RowKit Go.Proofs.YtcmgdieeclninaaW.PrintWords
theorem nums_back (l : List Int) (h : ∀ b ∈ l, 0 ≤ b ∧ b ≤ 255) : bytesOf (strOfNums l) = l := by
  induction l with
  | nil => rfl
  | cons x l ih =>
    have h1 := h x List.mem_cons_self
    have h2 := ih (fun b hb => h b (List.mem_cons_of_mem _ hb))
    have h3 : bytesOf (strOfNums (x :: l)) = (((UInt8.ofNat x.toNat).toNat : Nat) : Int) :: bytesOf (strOfNums l) := by
      simp [bytesOf, strOfNums]
    rw [h3, h2]
    congr 1
    simp
    omega
theorem str_back (s : ByteArray) : strOfNums (bytesOf s) = s := bytesOf_inj (nums_back _ (bytes_range s))
def InB (l : List Int) : Prop := ∀ b ∈ l, 0 ≤ b ∧ b ≤ 255
theorem InB.app {a b : List Int} (h : InB a) (k : InB b) : InB (a ++ b) := fun x hx => by
  rcases List.mem_append.1 hx with hx | hx
  · exact h x hx
  · exact k x hx
theorem InB.flat {α : Type} {f : α → List Int} {l : List α} (h : ∀ x, InB (f x)) : InB (l.flatMap f) := fun x hx => by
  obtain ⟨a, _, ha⟩ := List.mem_flatMap.1 hx
  exact h a x ha
theorem inb_N (n : Nat) : InB (wN n) := by
  induction n using Nat.strongRecOn with
  | _ n ih =>
    by_cases h : n < 128
    · rw [wN_small h]; intro b hb; rw [List.mem_singleton.1 hb]; omega
    · rw [wN_big h]
      intro b hb
      rcases List.mem_cons.1 hb with rfl | hb
      · omega
      · exact ih (n / 128) (by omega) b hb
theorem inb_T (s : ByteArray) : InB (wT s) := (inb_N _).app (bytes_range s)
theorem inb_F (b : Bool) : InB (wF b) := fun x hx => by cases b <;> (rw [List.mem_singleton.1 hx]; decide)
theorem inb_L (l : List Int) : InB (wL l) := (inb_N _).app (InB.flat (fun n => inb_N _))
theorem inb_C (c : Col) : InB (wC c) := (inb_T _).app ((inb_N _).app (inb_F _))
theorem inb_I (c : Idx) : InB (wI c) := (inb_T _).app ((inb_F _).app (inb_L _))
theorem inb_Tab (t : Tab) : InB (wTab t) := (inb_T _).app (((inb_N _).app (InB.flat inb_C)).app ((inb_L _).app ((inb_N _).app ((inb_N _).app (InB.flat inb_I)))))
theorem inb_P (c : Prm) : InB (wP c) := (inb_T _).app (inb_N _)
theorem inb_Prc (t : Prc) : InB (wPrc t) := (inb_T _).app (((inb_N _).app (InB.flat inb_P)).app (((inb_N _).app (InB.flat inb_T)).app ((inb_N _).app (inb_N _))))
theorem inb_Cat (c : Cat) : InB (wCat c) := ((inb_N _).app (InB.flat inb_Tab)).app ((inb_N _).app (InB.flat inb_Prc))
/-- The lenient reading, written again, tells. -/
theorem decRel_len {s : ByteArray} {c : Cat} {l' : List Int} (h : Cp wCat okCat (bytesOf s) c l') : ((encO c).2 = 0 ∧ (encO c).1 = s → DecRel s (0, c)) ∧ (¬ ((encO c).2 = 0 ∧ (encO c).1 = s) → DecRel s (80, ⟨[], []⟩)) := by
  constructor
  · rintro ⟨h1, h2⟩
    by_cases hR : RightCat c
    · unfold encO at h2
      rw [if_pos hR] at h2
      refine ⟨fun c' hc' he => ?_, fun hn => ?_⟩
      · obtain ⟨h3, _⟩ := h c' [] (okCat_of hc') (by rw [he, List.append_nil])
        rw [h3]
      · exact absurd (by rw [← h2]; exact nums_back _ (inb_Cat c)) (hn c hR)
    · unfold encO at h1
      rw [if_neg hR] at h1
      cases h1
  · intro hno
    refine ⟨fun c' hc' he => ?_, fun _ => rfl⟩
    exfalso
    obtain ⟨h3, _⟩ := h c' [] (okCat_of hc') (by rw [he, List.append_nil])
    subst h3
    apply hno
    unfold encO
    rw [if_pos hc', ← he]
    exact ⟨rfl, str_back s⟩
end Go.Proofs.Ytcmgdieeclninaa

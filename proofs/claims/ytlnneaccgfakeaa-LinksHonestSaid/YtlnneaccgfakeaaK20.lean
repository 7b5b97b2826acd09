/- Layer 23: the walk of the law LinksHonest. -/
import Derived.Test.YtlnneaccgfakeaaK18
import Derived.StillTailTactics
set_option linter.unusedVariables false
set_option linter.unusedSimpArgs false
namespace Go.Proofs.Ytlnneaccgfakeaa
open Go.RowKit Go.Proofs.YtlnneaccgfakeaaW.PrintWords Go.Proofs.YtlnneaccgfakeaaW.PrintLast
/-- A message whose body came in with the arguments. -/
def kFx (W0 : World) : Kd Msg := Kd.fixed kMsg W0
theorem fx_at {W0 w wr : World} {A : Option Addr} {n : Nat} {xs : List Msg} (h : (kFx W0).C w A n xs) (hb : Below w.heap.size w wr) (k : Nat) (hk : k < n) :
    ∃ ad x B d, A = some ad ∧ xs.getD k default = x ∧ x ∈ xs ∧ xs.take (k + 1) = xs.take k ++ [x] ∧ wr.cell? (ad.add (k * 5)) = some (.int .i64 x.src) ∧
      wr.cell? { block := (ad.add (k * 5)).block, off := (ad.add (k * 5)).off + 1 } = some (.int .i64 x.dst) ∧ wr.cell? { block := (ad.add (k * 5)).block, off := (ad.add (k * 5)).off + 2 } = some (.int .i64 x.kind) ∧
      wr.cell? { block := (ad.add (k * 5)).block, off := (ad.add (k * 5)).off + 3 } = some (.int .i64 x.pos) ∧ wr.cell? { block := (ad.add (k * 5)).block, off := (ad.add (k * 5)).off + 4 } = some (.slice B x.body.length d) ∧
      x.body.length ≤ d ∧ Kd.string.C W0 B x.body.length x.body := by
  obtain ⟨ad, cs, rfl, hlen, hcs, hcell⟩ := C_at h k hk default
  have hcs' : kMsg.K W0 (xs.getD k default) cs := hcs
  rw [kMsg_K] at hcs'
  obtain ⟨B, d, rfl, hl, hC⟩ := hcs'
  have hkl : k < xs.length := by rw [h.1]; exact hk
  exact ⟨ad, _, B, d, rfl, rfl, getD_mem xs k default hkl, take_snoc xs k default hkl, pw_cell_below hb (hcell 0 _ rfl), pw_cell_below hb (cell_off (j := 0) (hcell 1 _ rfl)), pw_cell_below hb (cell_off (j := 1) (hcell 2 _ rfl)), pw_cell_below hb (cell_off (j := 2) (hcell 3 _ rfl)), pw_cell_below hb (cell_off (j := 3) (hcell 4 _ rfl)), hl, hC⟩
/-- The counts tell what was done, and the network made nothing up. -/
def HonOk (n : NS) (L : List Msg) (k : Nat) : Prop :=
  (L.length : Int) = n.sent ∧ n.sent + n.doubled = n.lost + n.delivered + n.l.length ∧ NB n k ∧ ∀ m ∈ n.l, m ∈ L
theorem hon_start : HonOk (n0 9) [] 0 := ⟨rfl, rfl, by unfold NB n0; simp, by simp [n0]⟩
theorem hon_more {n : NS} {L : List Msg} {k : Nat} (h : HonOk n L k) : HonOk n L (k + 1) := ⟨h.1, h.2.1, by have := h.2.2.1.more; rw [show ((k + 1 : Nat) : Int) = (k : Int) + 1 from by omega]; exact this, h.2.2.2⟩
theorem nb_cast {n : NS} {k : Nat} (h : NB n ((k : Int) + 1)) : NB n ((k + 1 : Nat) : Int) := by rw [show ((k + 1 : Nat) : Int) = (k : Int) + 1 from by omega]; exact h
theorem hon_send {n : NS} {L : List Msg} {k : Nat} (h : HonOk n L k) (m : Msg) : HonOk (n.send m).2 (if (n.send m).1 = 0 then L ++ [m] else L) (k + 1) := by
  have hnb := nb_cast (nb_send h.2.2.1 m).1
  obtain ⟨h1, h2, h3, h4⟩ := h
  unfold NS.send at hnb ⊢
  split
  · simp only [show ¬ (230 : Int) = 0 by decide, if_false]
    rename_i hc
    rw [if_pos hc] at hnb
    exact ⟨h1, h2, hnb, h4⟩
  · rename_i hc
    rw [if_neg hc] at hnb
    split
    · rename_i hd
      rw [if_pos hd] at hnb
      simp only [show ¬ (2 : Int) = 0 by decide, if_false]
      exact ⟨h1, h2, hnb, h4⟩
    · rename_i hd
      rw [if_neg hd] at hnb
      simp only [if_true]
      refine ⟨by simp; omega, by simp only [List.length_append, List.length_singleton]; omega, hnb, fun y hy => ?_⟩
      rcases List.mem_append.1 hy with hy | hy
      · exact List.mem_append_left _ (h4 y hy)
      · exact List.mem_append_right _ hy
theorem hon_deliver {n : NS} {L : List Msg} {k : Nat} (h : HonOk n L k) (i : Int) : HonOk (n.deliver i).2 L (k + 1) := by
  have hnb := nb_cast (nb_deliver h.2.2.1 i).1
  obtain ⟨h1, h2, h3, h4⟩ := h
  unfold NS.deliver at hnb ⊢
  split
  · rename_i hc
    rw [if_pos hc] at hnb
    have hl := List.length_eraseIdx_of_lt (l := n.l) (i := i.toNat) (by have := hc.1; have := hc.2; omega)
    have := hc.2
    refine ⟨h1, ?_, hnb, fun y hy => h4 y (List.mem_of_mem_eraseIdx hy)⟩
    simp only [hl]
    have := hc.1
    omega
  · rename_i hc
    rw [if_neg hc] at hnb
    exact ⟨h1, h2, hnb, h4⟩
theorem hon_lose {n : NS} {L : List Msg} {k : Nat} (h : HonOk n L k) (i : Int) : HonOk (n.lose i).2 L (k + 1) := by
  have hnb := nb_cast (nb_lose h.2.2.1 i).1
  obtain ⟨h1, h2, h3, h4⟩ := h
  unfold NS.lose at hnb ⊢
  split
  · rename_i hc
    rw [if_pos hc] at hnb
    have hl := List.length_eraseIdx_of_lt (l := n.l) (i := i.toNat) (by have := hc.1; have := hc.2; omega)
    have := hc.2
    refine ⟨h1, ?_, hnb, fun y hy => h4 y (List.mem_of_mem_eraseIdx hy)⟩
    simp only [hl]
    have := hc.1
    omega
  · rename_i hc
    rw [if_neg hc] at hnb
    exact ⟨h1, h2, hnb, h4⟩
theorem hon_double {n : NS} {L : List Msg} {k : Nat} (h : HonOk n L k) (i : Int) : HonOk (n.double i).2 L (k + 1) := by
  have hnb := nb_cast (nb_double h.2.2.1 i).1
  obtain ⟨h1, h2, h3, h4⟩ := h
  unfold NS.double at hnb ⊢
  split
  · rename_i hc
    rw [if_pos hc] at hnb
    exact ⟨h1, h2, hnb, h4⟩
  · rename_i hc
    rw [if_neg hc] at hnb
    split
    · rename_i hd
      rw [if_pos hd] at hnb
      exact ⟨h1, h2, hnb, h4⟩
    · rename_i hd
      rw [if_neg hd] at hnb
      have hc' : n.isAt i := Decidable.not_not.1 hc
      refine ⟨h1, by simp only [List.length_append, List.length_singleton]; omega, hnb, fun y hy => ?_⟩
      rcases List.mem_append.1 hy with hy | hy
      · exact h4 y hy
      · rw [List.mem_singleton.1 hy]
        exact h4 _ (getD_mem n.l i.toNat default (by have := hc'.1; have := hc'.2; omega))
end Go.Proofs.Ytlnneaccgfakeaa

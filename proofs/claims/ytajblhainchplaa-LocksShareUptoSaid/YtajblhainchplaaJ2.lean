/- Layer 19, plain: locks, places, when two meet; and the kinds of their cells. -/
import Derived.Test.YtajblhainchplaaK1
set_option linter.unusedVariables false
set_option linter.unusedSimpArgs false
namespace Go.Proofs.Ytajblhainchplaa
open Go.RowKit Go.Proofs.YtajblhainchplaaW.PrintWords Go.Proofs.YtajblhainchplaaW.PrintLast
structure Lk where
  table : Int
  lo : ByteArray
  hi : ByteArray
  write : Bool
instance : Inhabited Lk := ⟨⟨0, ByteArray.empty, ByteArray.empty, false⟩⟩
theorem Lk.ext' {a b : Lk} (h : a.table = b.table ∧ a.lo = b.lo ∧ a.hi = b.hi ∧ a.write = b.write) : a = b := by cases a; cases b; simp_all
instance : DecidableEq Lk := fun a b =>
  if h : a.table = b.table ∧ a.lo = b.lo ∧ a.hi = b.hi ∧ a.write = b.write then .isTrue (Lk.ext' h) else .isFalse (by rintro rfl; exact h ⟨rfl, rfl, rfl, rfl⟩)
structure Plc where
  pos : Int
  l : List Lk
instance : Inhabited Plc := ⟨⟨0, []⟩⟩
def kLk : Kd Lk := Kd.iso (Kd.pair (Kd.int .i64) (Kd.pair Kd.string (Kd.pair Kd.string Kd.bool))) (fun m => (m.table, m.lo, m.hi, m.write))
theorem kLk_K {w : World} {x : Lk} {cs : List Value} : kLk.K w x cs ↔ cs = [.int .i64 x.table, .string x.lo, .string x.hi, .bool x.write] := by
  constructor
  · rintro ⟨_, _, rfl, rfl, _, _, rfl, rfl, _, _, rfl, rfl, rfl⟩; rfl
  · rintro rfl; exact ⟨[_], [_, _, _], rfl, rfl, [_], [_, _], rfl, rfl, [_], [_], rfl, rfl, rfl⟩
theorem kLk_M {w : World} {base : Nat} {ok : Nat → Prop} {x : Lk} {cs : List Value} : kLk.M w base ok x cs ↔ cs = [.int .i64 x.table, .string x.lo, .string x.hi, .bool x.write] := by
  constructor
  · rintro ⟨_, _, rfl, rfl, _, _, rfl, rfl, _, _, rfl, rfl, rfl⟩; rfl
  · rintro rfl; exact ⟨[_], [_, _, _], rfl, rfl, [_], [_, _], rfl, rfl, [_], [_], rfl, rfl, rfl⟩
def kPl : Kd Plc := Kd.iso (Kd.pair (Kd.int .i64) (Kd.slice 23 kLk)) (fun m => (m.pos, m.l))
theorem kPl_K {w : World} {x : Plc} {cs : List Value} : kPl.K w x cs ↔ ∃ A c, cs = [.int .i64 x.pos, .slice A x.l.length c] ∧ x.l.length ≤ c ∧ kLk.C w A x.l.length x.l := by
  constructor
  · rintro ⟨_, _, rfl, rfl, A, c, rfl, hl, hC⟩; exact ⟨A, c, rfl, hl, hC⟩
  · rintro ⟨A, c, rfl, hl, hC⟩; exact ⟨[_], [_], rfl, rfl, A, c, rfl, hl, hC⟩
theorem kPl_M {w : World} {base : Nat} {ok : Nat → Prop} {x : Plc} {cs : List Value} : kPl.M w base ok x cs ↔ ∃ v, cs = [.int .i64 x.pos, v] ∧ kLk.R 23 w base ok v x.l := by
  constructor
  · rintro ⟨_, _, rfl, rfl, v, rfl, hR⟩; exact ⟨v, rfl, hR⟩
  · rintro ⟨v, rfl, hR⟩; exact ⟨[_], [_], rfl, rfl, v, rfl, hR⟩
theorem lk_at {w wr : World} {A : Option Addr} {n : Nat} {xs : List Lk} (h : kLk.C w A n xs) (hb : Below w.heap.size w wr) (k : Nat) (hk : k < n) :
    ∃ ad x, A = some ad ∧ xs.getD k default = x ∧ x ∈ xs ∧ xs.take (k + 1) = xs.take k ++ [x] ∧ wr.cell? (ad.add (k * 4)) = some (.int .i64 x.table) ∧
      wr.cell? { block := (ad.add (k * 4)).block, off := (ad.add (k * 4)).off + 1 } = some (.string x.lo) ∧ wr.cell? { block := (ad.add (k * 4)).block, off := (ad.add (k * 4)).off + 2 } = some (.string x.hi) ∧
      wr.cell? { block := (ad.add (k * 4)).block, off := (ad.add (k * 4)).off + 3 } = some (.bool x.write) := by
  obtain ⟨ad, cs, rfl, hlen, hcs, hcell⟩ := C_at h k hk default
  rw [kLk_K] at hcs
  subst hcs
  have hkl : k < xs.length := by rw [h.1]; exact hk
  exact ⟨ad, _, rfl, rfl, getD_mem xs k default hkl, take_snoc xs k default hkl, pw_cell_below hb (hcell 0 _ rfl), pw_cell_below hb (cell_off (j := 0) (hcell 1 _ rfl)), pw_cell_below hb (cell_off (j := 1) (hcell 2 _ rfl)), pw_cell_below hb (cell_off (j := 2) (hcell 3 _ rfl))⟩
theorem pl_at {w wr : World} {A : Option Addr} {n : Nat} {xs : List Plc} (h : kPl.C w A n xs) (hb : Below w.heap.size w wr) (k : Nat) (hk : k < n) :
    ∃ ad x B d, A = some ad ∧ xs.getD k default = x ∧ x ∈ xs ∧ xs.take (k + 1) = xs.take k ++ [x] ∧ wr.cell? (ad.add (k * 2)) = some (.int .i64 x.pos) ∧
      wr.cell? { block := (ad.add (k * 2)).block, off := (ad.add (k * 2)).off + 1 } = some (.slice B x.l.length d) ∧ x.l.length ≤ d ∧ kLk.C w B x.l.length x.l := by
  obtain ⟨ad, cs, rfl, hlen, hcs, hcell⟩ := C_at h k hk default
  rw [kPl_K] at hcs
  obtain ⟨B, d, rfl, hl, hC⟩ := hcs
  have hkl : k < xs.length := by rw [h.1]; exact hk
  exact ⟨ad, _, B, d, rfl, rfl, getD_mem xs k default hkl, take_snoc xs k default hkl, pw_cell_below hb (hcell 0 _ rfl), pw_cell_below hb (cell_off (j := 0) (hcell 1 _ rfl)), hl, hC⟩
/-! ### the order of texts -/
theorem bl_irr : ∀ x : List UInt8, Op.bytesLess x x = false
  | [] => rfl
  | a :: x => by simp [Op.bytesLess, bl_irr x]
theorem bl_tri : ∀ x y : List UInt8, Op.bytesLess x y = true ∨ x = y ∨ Op.bytesLess y x = true
  | [], [] => .inr (.inl rfl)
  | _ :: _, [] => .inr (.inr rfl)
  | [], _ :: _ => .inl rfl
  | a :: x, b :: y => by
    simp only [Op.bytesLess, Bool.or_eq_true, decide_eq_true_eq, Bool.and_eq_true, beq_iff_eq, List.cons.injEq]
    rcases Nat.lt_trichotomy a.toNat b.toNat with h | h | h
    · exact .inl (.inl (UInt8.lt_iff_toNat_lt.2 h))
    · have hab : a = b := UInt8.toNat_inj.1 h
      rcases bl_tri x y with h2 | h2 | h2
      · exact .inl (.inr ⟨hab, h2⟩)
      · exact .inr (.inl ⟨hab, h2⟩)
      · exact .inr (.inr (.inr ⟨hab.symm, h2⟩))
    · exact .inr (.inr (.inl (UInt8.lt_iff_toNat_lt.2 h)))
theorem bl_asymm : ∀ x y : List UInt8, Op.bytesLess x y = true → Op.bytesLess y x = false
  | [], [], _ => rfl
  | _ :: _, [], h => by simp [Op.bytesLess] at h
  | [], _ :: _, _ => rfl
  | a :: x, b :: y, h => by
    simp only [Op.bytesLess, Bool.or_eq_true, decide_eq_true_eq, Bool.and_eq_true, beq_iff_eq] at h
    simp only [Op.bytesLess, Bool.or_eq_false_iff, decide_eq_false_iff_not, Bool.and_eq_false_iff, beq_eq_false_iff_ne, ne_eq]
    rcases h with h | ⟨rfl, h⟩
    · rw [UInt8.lt_iff_toNat_lt] at h
      refine ⟨by rw [UInt8.lt_iff_toNat_lt]; omega, .inl (fun he => by subst he; omega)⟩
    · exact ⟨by rw [UInt8.lt_iff_toNat_lt]; omega, .inr (bl_asymm x y h)⟩
def Slt (a b : ByteArray) : Prop := Op.bytesLess a.toList b.toList = true
instance (a b : ByteArray) : Decidable (Slt a b) := by unfold Slt; infer_instance
theorem toList_inj {a b : ByteArray} (h : a.toList = b.toList) : a = b := by
  by_cases he : a = b
  · exact he
  · have h1 := str_eq_false he
    rw [h] at h1
    simp at h1
theorem slt_tri (a b : ByteArray) : Slt a b ∨ a = b ∨ Slt b a := (bl_tri a.toList b.toList).imp (fun h => h) (fun h => h.imp toList_inj (fun h => h))
theorem slt_asymm {a b : ByteArray} (h : Slt a b) : ¬ Slt b a := fun h2 => by have := bl_asymm _ _ h; unfold Slt at h2; rw [this] at h2; cases h2
theorem slt_irr (a : ByteArray) : ¬ Slt a a := fun h => by unfold Slt at h; rw [bl_irr] at h; cases h
/-- '>' as the walk says it. -/
theorem gtr_iff (a b : ByteArray) : (!(Op.bytesLess a.toList b.toList || a.toList == b.toList)) = decide (Slt b a) := by
  rw [str_beq, Bool.eq_iff_iff, decide_eq_true_iff]
  rcases slt_tri a b with h | h | h
  · have h1 : Op.bytesLess a.toList b.toList = true := h
    rw [h1]; simp [slt_asymm h]
  · subst h; simp [slt_irr]
  · have h1 : Op.bytesLess a.toList b.toList = false := bl_asymm _ _ h
    have h2 : ¬ a = b := fun he => by subst he; exact slt_irr _ h
    rw [h1, decide_eq_false h2]; simp [h]
def maxS (a b : ByteArray) : ByteArray := if Slt a b then b else a
theorem maxS_comm (a b : ByteArray) : maxS a b = maxS b a := by
  unfold maxS
  rcases slt_tri a b with h | h | h
  · rw [if_pos h, if_neg (slt_asymm h)]
  · subst h; rfl
  · rw [if_neg (slt_asymm h), if_pos h]
theorem maxS_self (a : ByteArray) : maxS a a = a := by unfold maxS; rw [if_neg (slt_irr a)]
def Under (s h : ByteArray) : Prop := h.toList = [] ∨ Slt s h
instance (s h : ByteArray) : Decidable (Under s h) := by unfold Under; infer_instance
def RightL (x : Lk) : Prop := (0 ≤ x.table ∧ x.table < 8) ∧ Under x.lo x.hi
instance (x : Lk) : Decidable (RightL x) := by unfold RightL; infer_instance
def Meet (a b : Lk) : Prop := a.table = b.table ∧ (a.write = true ∨ b.write = true) ∧ Under (maxS a.lo b.lo) a.hi ∧ Under (maxS a.lo b.lo) b.hi
instance (a b : Lk) : Decidable (Meet a b) := by unfold Meet; infer_instance
theorem meet_comm {a b : Lk} : Meet a b ↔ Meet b a := by
  unfold Meet
  rw [maxS_comm a.lo b.lo]
  constructor
  · rintro ⟨h1, h2, h3, h4⟩; exact ⟨h1.symm, h2.symm, h4, h3⟩
  · rintro ⟨h1, h2, h3, h4⟩; exact ⟨h1.symm, h2.symm, h4, h3⟩
theorem meet_self {a : Lk} (h : RightL a) : Meet a a ↔ a.write = true := by
  unfold Meet
  rw [maxS_self]
  exact ⟨fun h => h.2.1.elim (fun h => h) (fun h => h), fun hw => ⟨rfl, .inl hw, h.2, h.2⟩⟩
def MeetAny (a b : List Lk) : Prop := ∃ x ∈ a, ∃ y ∈ b, Meet x y
instance (a b : List Lk) : Decidable (MeetAny a b) := by unfold MeetAny; infer_instance
theorem meetAny_comm {a b : List Lk} : MeetAny a b ↔ MeetAny b a :=
  ⟨fun ⟨x, hx, y, hy, h⟩ => ⟨y, hy, x, hx, meet_comm.1 h⟩, fun ⟨x, hx, y, hy, h⟩ => ⟨y, hy, x, hx, meet_comm.1 h⟩⟩
end Go.Proofs.Ytajblhainchplaa

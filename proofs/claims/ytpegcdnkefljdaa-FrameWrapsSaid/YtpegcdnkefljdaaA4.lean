/- The walks of the cursor of frame.go. -/
import Derived.Test.YtpegcdnkefljdaaA3
import Derived.Deep.QuietTactic
set_option linter.unusedVariables false
set_option linter.unusedSimpArgs false
namespace Go.Proofs.Ytpegcdnkefljdaa
open Go.RowKit Go.Proofs.YtpegcdnkefljdaaW.PrintWords
/-- The cursor at block g. -/
def Cur (w : World) (g : Nat) (s : ByteArray) (at_ : Int) : Prop := w.heap[g]? = some (.cells #[.string s, .int .i64 at_] 46 (0, 0))
/-- Of what was there only block g may have turned. -/
structure Only (w w' : World) (g : Nat) : Prop where
  os : w'.os = w.os
  tape : w'.tape = w.tape
  output : w'.output = w.output
  size : w.heap.size ≤ w'.heap.size
  block : ∀ i, i < w.heap.size → i ≠ g → w'.heap[i]? = w.heap[i]?
theorem Only.refl (w : World) (g : Nat) : Only w w g := ⟨rfl, rfl, rfl, Nat.le_refl _, fun _ _ _ => rfl⟩
theorem Only.trans {a b c : World} {g : Nat} (h : Only a b g) (k : Only b c g) : Only a c g :=
  ⟨k.os.trans h.os, k.tape.trans h.tape, k.output.trans h.output, Nat.le_trans h.size k.size, fun i hi hg => (k.block i (Nat.lt_of_lt_of_le hi h.size) hg).trans (h.block i hi hg)⟩
theorem Only.drew {a b : World} {g : Nat} (h : Only a b g) : Only a b.drew g := ⟨h.os, h.tape, h.output, h.size, h.block⟩
theorem Only.drewN {a b : World} {g : Nat} (h : Only a b g) (n : Nat) : Only a (b.drewN n) g := ⟨h.os, h.tape, h.output, h.size, h.block⟩
theorem Only.set {a b : World} {g : Nat} (h : Only a b g) (j : Nat) (u : Value) : Only a (b.setCell ⟨g, j, none⟩ u) g :=
  h.trans ⟨rfl, rfl, rfl, by simp [World.setCell], fun i _ hg => Below.heap_setCell _ _ _ _ hg⟩
theorem Only.below {w w1 w2 : World} {g B : Nat} (h : Below B w w1) (k : Only w1 w2 g) (hg : B ≤ g) (hB : B ≤ w1.heap.size) : Below B w w2 :=
  h.trans ⟨k.os, k.tape, k.output, k.size, fun i hi => k.block i (by omega) (by omega)⟩
theorem Only.of_below {w w1 : World} {g : Nat} (h : Below w.heap.size w w1) : Only w w1 g := ⟨h.os, h.tape, h.output, h.size, fun i hi _ => h.block i hi⟩
theorem Cur.cell0 {w : World} {g : Nat} {s : ByteArray} {a : Int} (hc : Cur w g s a) : w.cell? ⟨g, 0, none⟩ = some (.string s) := by
  unfold Cur at hc
  simp [World.cell?, hc]
theorem Cur.cell1 {w : World} {g : Nat} {s : ByteArray} {a : Int} (hc : Cur w g s a) : w.cell? ⟨g, 1, none⟩ = some (.int .i64 a) := by
  unfold Cur at hc
  simp [World.cell?, hc]
theorem Cur.free {w : World} {g : Nat} {s : ByteArray} {a : Int} (hc : Cur w g s a) (j : Nat) : w.frozen? ⟨g, j, none⟩ = false := by
  unfold Cur at hc
  simp [World.frozen?, hc]
theorem Cur.set {w : World} {g : Nat} {s : ByteArray} {a : Int} (hc : Cur w g s a) (b : Int) : Cur (w.setCell ⟨g, 1, none⟩ (.int .i64 b)) g s b := by
  unfold Cur at *
  rw [blk_set hc]
  rfl
theorem Cur.drewN {w : World} {g : Nat} {s : ByteArray} {a : Int} (hc : Cur w g s a) (n : Nat) : Cur (w.drewN n) g s a := hc
theorem Cur.below {w w1 : World} {g : Nat} {s : ByteArray} {a : Int} (hc : Cur w g s a) (h : Below w.heap.size w w1) : Cur w1 g s a := by
  unfold Cur at *
  rw [h.block g (blk_lt hc), hc]
theorem ret_bool {a b : Bool} (h : a = b) : Ending.returned (.bool a) = .returned (.bool b) := by rw [h]
set_option maxHeartbeats 400000 in
theorem has_any (g : Nat) (s : ByteArray) (at_ n : Nat) (w : World) (hc : Cur w g s at_) (hs : s.size ≤ 4294967296) (ha : at_ ≤ s.size) (hn : n ≤ 4294967296) :
    Calls Try.prog 20 #[.pointer (some ⟨g, 0, none⟩), .int .i64 n] w fun e w' => e = .returned (.bool (decide (n ≤ s.size - at_))) ∧ Only w w' g ∧ Cur w' g s at_ := by
  have c0 := hc.cell0
  have c1 := hc.cell1
  go_enter Try.func20, Try.ntmps20
  go_wp2
  go_quiet (fail)
  go_wp2
  go_ret
  exact ⟨ret_bool (by rw [decide_eq_decide]; omega), (Only.refl _ _).drewN _, hc.drewN _⟩
set_option maxHeartbeats 400000 in
theorem take_any (g : Nat) (s : ByteArray) (at_ n : Nat) (w : World) (hc : Cur w g s at_) (hs : s.size ≤ 4294967296) (ha : at_ + n ≤ s.size) :
    Calls Try.prog 21 #[.pointer (some ⟨g, 0, none⟩), .int .i64 n] w fun e w' => e = .returned (.string (s.extract at_ (at_ + n))) ∧ Only w w' g ∧ Cur w' g s ((at_ + n : Nat) : Int) := by
  have c1 := hc.cell1
  have f1 := hc.free 1
  have hc2 := hc.set ((at_ : Int) + n)
  have d0 := hc2.cell0
  have d1 := hc2.cell1
  have e1 : IntKind.i64.wrap (at_ : Int) = at_ := IntWalk.i64_in _ (by omega)
  have e2 : 0 ≤ (at_ : Int) := by omega
  have e3 : (at_ : Int) ≤ at_ + n := by omega
  have e4 : (at_ : Int) + n ≤ s.size := by omega
  go_enter Try.func21, Try.ntmps21
  go_wp2
  go_quiet (fail)
  go_wp2
  go_ret
  exact ⟨rfl, ((Only.refl _ _).set _ _).drewN _, by rw [Int.natCast_add]; exact hc2.drewN _⟩
/-- What the next frame's parts are, from a place on. -/
def szB (s : ByteArray) (a : Nat) : ByteArray := s.extract a (a + 2)
def smB (s : ByteArray) (a : Nat) : ByteArray := s.extract (a + 2) (a + 2 + 4)
def dtB (s : ByteArray) (a n : Nat) : ByteArray := s.extract (a + 2 + 4) (a + 2 + 4 + n)
def szN (s : ByteArray) (a : Nat) : Nat := numL (szB s a).data.toList
def smN (s : ByteArray) (a : Nat) : Nat := numL (smB s a).data.toList
/-- The frame at a place is whole. -/
def whole (s : ByteArray) (a : Nat) : Prop :=
  6 ≤ s.size - a ∧ szN s a ≤ 4096 ∧ szN s a ≤ s.size - (a + 2 + 4) ∧ crc (szB s a ++ dtB s a (szN s a)).data.toList = smN s a
theorem szB_size (s : ByteArray) (a : Nat) : (szB s a).size ≤ 2 := by rw [szB, ByteArray.size_extract]; omega
theorem smB_size (s : ByteArray) (a : Nat) : (smB s a).size ≤ 4 := by rw [smB, ByteArray.size_extract]; omega
theorem dtB_size (s : ByteArray) (a n : Nat) : (dtB s a n).size ≤ n := by rw [dtB, ByteArray.size_extract]; omega
theorem szN_lt (s : ByteArray) (a : Nat) : szN s a < 65536 := by
  have h := numL_lt (szB s a).data.toList
  have h2 : (szB s a).data.toList.length ≤ 2 := by have := szB_size s a; simpa using this
  exact Nat.lt_of_lt_of_le h (Nat.le_trans (Nat.pow_le_pow_right (by decide) h2) (by decide))
theorem smN_lt (s : ByteArray) (a : Nat) : smN s a < 4294967296 := by
  have h := numL_lt (smB s a).data.toList
  have h2 : (smB s a).data.toList.length ≤ 4 := by have := smB_size s a; simpa using this
  exact Nat.lt_of_lt_of_le h (Nat.le_trans (Nat.pow_le_pow_right (by decide) h2) (by decide))
set_option maxHeartbeats 1000000 in
theorem next_short (g : Nat) (s : ByteArray) (at_ : Nat) (w : World) (hc : Cur w g s at_) (hs : s.size ≤ 4294967296) (ha : at_ ≤ s.size) (h : ¬ 6 ≤ s.size - at_) :
    Calls Try.prog 19 #[.pointer (some ⟨g, 0, none⟩)] w fun e w' => e = .returned (.tuple #[.string ⟨#[]⟩, .bool false]) ∧ Only w w' g ∧ Cur w' g s at_ := by
  have c1 := hc.cell1
  have f1 := hc.free 1
  go_enter Try.func19, Try.ntmps19
  go_wp2_with fail
  refine (has_any g s at_ 6 _ hc hs ha (by omega)).mono ?_
  rintro e w1 ⟨rfl, ho1, hc1⟩
  rw [show decide (6 ≤ s.size - at_) = false from decide_eq_false h]
  have f2 := hc1.free 1
  have d1 := hc1.cell1
  go_wp2_with fail
  go_ret2
  exact ⟨rfl, ho1.set _ _, hc1.set _⟩
end Go.Proofs.Ytpegcdnkefljdaa

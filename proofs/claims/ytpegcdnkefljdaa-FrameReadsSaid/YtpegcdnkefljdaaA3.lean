/- The walks of Wrap in both spellings. -/
import Derived.Test.YtpegcdnkefljdaaA2
namespace Go.Proofs.Ytpegcdnkefljdaa
open Go.RowKit Go.Proofs.YtpegcdnkefljdaaW.PrintWords
theorem strOfNums_size (xs : List Int) : (strOfNums xs).size = xs.length := by
  show (strOfNums xs).data.size = _
  simp [strOfNums]
theorem append_size' (a b : ByteArray) : (a ++ b).size = a.size + b.size := by simp
/-- The size's two bytes. -/
def sizeB (d : ByteArray) : ByteArray := strOfNums (digI d.size 2)
def sumB (d : ByteArray) : ByteArray := strOfNums (digI (crc (sizeB d ++ d).data.toList : Nat) 4)
/-- The frame of bytes. -/
def wrapB (d : ByteArray) : ByteArray := sizeB d ++ sumB d ++ d
theorem sizeB_size (d : ByteArray) : (sizeB d).size = 2 := by rw [sizeB, strOfNums_size, digI_length]
theorem sumB_size (d : ByteArray) : (sumB d).size = 4 := by rw [sumB, strOfNums_size, digI_length]
theorem wrapB_size (d : ByteArray) : (wrapB d).size = 6 + d.size := by rw [wrapB, append_size', append_size', sizeB_size, sumB_size]
set_option maxHeartbeats 400000 in
theorem wrap_long (s : ByteArray) (w : World) (hs : s.size ≤ 9223372036854775807) (h : 4096 < s.size) :
    Calls Try.prog 11 #[.string s] w fun e w' => e = .returned (.tuple #[.string ⟨#[]⟩, .int .i64 2]) ∧ Below w.heap.size w w' := by
  go_enter Try.func11, Try.ntmps11
  go_wp2
  go_ret2
  exact ⟨rfl, Below.refl _ _⟩
set_option maxHeartbeats 400000 in
theorem wrap_any (s : ByteArray) (w : World) (h : s.size ≤ 4096) :
    Calls Try.prog 11 #[.string s] w fun e w' => e = .returned (.tuple #[.string (wrapB s), .int .i64 0]) ∧ Below w.heap.size w w' := by
  go_enter Try.func11, Try.ntmps11
  go_wp2_with fail
  refine (digits_any _ 2 _ (by omega)).mono ?_
  rintro e w1 ⟨rfl, hb1⟩
  obtain ⟨a, ha⟩ : ∃ a, a = sizeB s := ⟨_, rfl⟩
  have ha2 : a.size ≤ 2 := by rw [ha, sizeB_size]; omega
  rw [show strOfNums (digI (s.size : Int) 2) = a from ha.symm]
  have HA := Lib.hid ha
  clear ha
  have hsz : a.size + s.size ≤ 9223372036854775807 := by omega
  go_wp2_with fail
  refine (sum_prog _ _ (by rw [append_size']; omega)).mono ?_
  rintro e w2 ⟨rfl, rfl⟩
  obtain ⟨c, hc⟩ : ∃ c : Nat, c = crc (a ++ s).data.toList := ⟨_, rfl⟩
  have hcl : c < 4294967296 := by rw [hc]; exact crc_lt _
  rw [← hc]
  have HC := Lib.hid hc
  clear hc
  go_wp2_with fail
  refine (digits_any _ 4 _ (by omega)).mono ?_
  rintro e w2 ⟨rfl, hb2⟩
  obtain ⟨d, hd⟩ : ∃ d, d = strOfNums (digI (c : Int) 4) := ⟨_, rfl⟩
  rw [← hd]
  have hd2 : d.size ≤ 4 := by rw [hd, strOfNums_size, digI_length]; omega
  have HD := Lib.hid hd
  clear hd
  have hsz2 : a.size + d.size ≤ 9223372036854775807 := by omega
  have hsz3 : a.size + d.size + s.size ≤ 9223372036854775807 := by omega
  go_wp2_with fail
  go_ret2
  exact ⟨by rw [HD.out, HC.out, HA.out]; rfl, below_then hb1 hb1.size hb2⟩
theorem conv2 (x y : Int) (W : World) : (convert 36 9 (.slice (some ⟨W.heap.size, 0, none⟩) 2 2)).run Try.prog (W.alloc (.cells #[.int .u8 x, .int .u8 y] 5)) = .ok (.string (strOfNums [x, y])) (W.alloc (.cells #[.int .u8 x, .int .u8 y] 5)) :=
  own_string (e' := 5) Try.underlying36 Try.underlying5 Try.underlying9 (own_lit W 0 5 .u8 [x, y] (Nat.zero_le _) (by simp))
theorem conv4 (x y z u : Int) (W : World) : (convert 36 9 (.slice (some ⟨W.heap.size, 0, none⟩) 4 4)).run Try.prog (W.alloc (.cells #[.int .u8 x, .int .u8 y, .int .u8 z, .int .u8 u] 5)) = .ok (.string (strOfNums [x, y, z, u])) (W.alloc (.cells #[.int .u8 x, .int .u8 y, .int .u8 z, .int .u8 u] 5)) :=
  own_string (e' := 5) Try.underlying36 Try.underlying5 Try.underlying9 (own_lit W 0 5 .u8 [x, y, z, u] (Nat.zero_le _) (by simp))
set_option maxHeartbeats 400000 in
theorem wrapref_long (s : ByteArray) (w : World) (hs : s.size ≤ 9223372036854775807) (h : 4096 < s.size) :
    Calls Try.prog 12 #[.string s] w fun e w' => e = .returned (.tuple #[.string ⟨#[]⟩, .int .i64 2]) ∧ Below w.heap.size w w' := by
  go_enter Try.func12, Try.ntmps12
  go_wp2
  go_ret2
  exact ⟨rfl, Below.refl _ _⟩
set_option maxHeartbeats 400000 in
theorem wrapref_any (s : ByteArray) (w : World) (h : s.size ≤ 4096) :
    Calls Try.prog 12 #[.string s] w fun e w' => e = .returned (.tuple #[.string (wrapB s), .int .i64 0]) ∧ Below w.heap.size w w' := by
  obtain ⟨a, ha⟩ : ∃ a, a = sizeB s := ⟨_, rfl⟩
  have ha2 : a.size ≤ 2 := by rw [ha, sizeB_size]; omega
  have hal : strOfNums [(s.size : Int) % 256, (s.size : Int) / 256] = a := by rw [ha, sizeB, digI, digI, digI, Int.emod_eq_of_lt (a := (s.size : Int) / 256) (by omega) (by omega)]
  have c2 : ∀ W : World, (convert 36 9 (.slice (some ⟨W.heap.size, 0, none⟩) 2 2)).run Try.prog (W.alloc (.cells #[.int .u8 ((s.size : Int) % 256), .int .u8 ((s.size : Int) / 256)] 5)) = .ok (.string a) (W.alloc (.cells #[.int .u8 ((s.size : Int) % 256), .int .u8 ((s.size : Int) / 256)] 5)) := fun W => by rw [← hal]; exact conv2 _ _ W
  have HA := Lib.hid ha
  clear ha hal
  have hsz : a.size + s.size ≤ 9223372036854775807 := by omega
  go_enter Try.func12, Try.ntmps12
  go_wp2_with fail
  refine (sum_ref _ _ (by rw [append_size']; omega)).mono ?_
  rintro e w2 ⟨rfl, rfl⟩
  obtain ⟨c, hc⟩ : ∃ c : Nat, c = crc (a ++ s).data.toList := ⟨_, rfl⟩
  have hcl : c < 4294967296 := by rw [hc]; exact crc_lt _
  rw [← hc]
  have HC := Lib.hid hc
  clear hc
  obtain ⟨d, hd⟩ : ∃ d, d = strOfNums (digI (c : Int) 4) := ⟨_, rfl⟩
  have hd2 : d.size ≤ 4 := by rw [hd, strOfNums_size, digI_length]; omega
  have hdl : strOfNums [(c : Int) % 256, (c : Int) / 256 % 256, (c : Int) / 65536 % 256, (c : Int) / 16777216] = d := by
    rw [hd]
    simp only [digI]
    rw [show (c : Int) / 256 / 256 = (c : Int) / 65536 from by omega, show (c : Int) / 65536 / 256 % 256 = (c : Int) / 16777216 from by omega]
  have c4 : ∀ X : Obj, (convert 36 9 (.slice (some ⟨w.heap.size + 1, 0, none⟩) 4 4)).run Try.prog ((w.alloc X).alloc (.cells #[.int .u8 ((c : Int) % 256), .int .u8 ((c : Int) / 256 % 256), .int .u8 ((c : Int) / 65536 % 256), .int .u8 ((c : Int) / 16777216)] 5)) = .ok (.string d) ((w.alloc X).alloc (.cells #[.int .u8 ((c : Int) % 256), .int .u8 ((c : Int) / 256 % 256), .int .u8 ((c : Int) / 65536 % 256), .int .u8 ((c : Int) / 16777216)] 5)) := fun X => by
    have := conv4 ((c : Int) % 256) ((c : Int) / 256 % 256) ((c : Int) / 65536 % 256) ((c : Int) / 16777216) (w.alloc X)
    rw [hdl] at this
    simpa using this
  have HD := Lib.hid hd
  clear hd hdl
  have hsz2 : a.size + d.size ≤ 9223372036854775807 := by omega
  have hsz3 : a.size + d.size + s.size ≤ 9223372036854775807 := by omega
  go_wp2_with fail
  go_ret2
  exact ⟨by rw [HD.out, HC.out, HA.out]; rfl, below_alloc (below_alloc (Below.refl _ _) _) _⟩
end Go.Proofs.Ytpegcdnkefljdaa

/- Plain facts on frames: what lies ahead shifts, frames one behind the other, a cut frame. -/
import Derived.Test.YtpegcdnkefljdaaB3
set_option linter.unusedVariables false
set_option linter.unusedSimpArgs false
namespace Go.Proofs.Ytpegcdnkefljdaa
open Go.RowKit Go.Proofs.YtpegcdnkefljdaaW.PrintWords
theorem ext_list (s : ByteArray) (i j : Nat) : (s.extract i j).data.toList = (s.data.toList.drop i).take (j - i) := by
  simp only [ByteArray.data_extract, Array.toList_extract, List.extract_eq_take_drop]
theorem app_list (a b : ByteArray) : (a ++ b).data.toList = a.data.toList ++ b.data.toList := by
  simp only [ByteArray.data_append, Array.toList_append]
theorem ext_shift (p s : ByteArray) (i j : Nat) : (p ++ s).extract (p.size + i) (p.size + j) = s.extract i j := by
  apply ba_ext
  rw [ext_list, ext_list, app_list, show p.size + j - (p.size + i) = j - i from by omega]
  congr 1
  rw [← ba_len p, List.drop_append]
  simp
theorem ext_front (p q : ByteArray) (i j : Nat) (h : j ≤ p.size) : (p ++ q).extract i j = p.extract i j := by
  apply ba_ext
  rw [ext_list, ext_list, app_list]
  have hl := ba_len p
  rcases Nat.lt_or_ge i j with hij | hij
  · rw [List.drop_append_of_le_length (by omega), List.take_append_of_le_length (by rw [List.length_drop]; omega)]
  · rw [show j - i = 0 from by omega]; rfl
theorem ext_ext (s : ByteArray) (k i j : Nat) (h : j ≤ k) : (s.extract 0 k).extract i j = s.extract i j := by
  apply ba_ext
  rw [ext_list, ext_list, ext_list]
  simp only [List.drop_zero, Nat.sub_zero]
  rw [List.drop_take, List.take_take, show min (j - i) (k - i) = j - i from by omega]
/-- What lies ahead shifts. -/
theorem szB_shift (p s : ByteArray) (a : Nat) : szB (p ++ s) (p.size + a) = szB s a := ext_shift p s a (a + 2)
theorem smB_shift (p s : ByteArray) (a : Nat) : smB (p ++ s) (p.size + a) = smB s a := ext_shift p s (a + 2) (a + 2 + 4)
theorem dtB_shift (p s : ByteArray) (a n : Nat) : dtB (p ++ s) (p.size + a) n = dtB s a n := by
  have := ext_shift p s (a + 2 + 4) (a + 2 + 4 + n)
  unfold dtB
  rw [← this]
  congr 1
  omega
theorem szN_shift (p s : ByteArray) (a : Nat) : szN (p ++ s) (p.size + a) = szN s a := by unfold szN; rw [szB_shift]
theorem smN_shift (p s : ByteArray) (a : Nat) : smN (p ++ s) (p.size + a) = smN s a := by unfold smN; rw [smB_shift]
theorem whole_shift (p s : ByteArray) (a : Nat) : whole (p ++ s) (p.size + a) ↔ whole s a := by
  unfold whole
  rw [szN_shift, smN_shift, szB_shift, dtB_shift, append_size']
  constructor
  · rintro ⟨h1, h2, h3, h4⟩
    exact ⟨by omega, h2, by omega, h4⟩
  · rintro ⟨h1, h2, h3, h4⟩
    exact ⟨by omega, h2, by omega, h4⟩
theorem frN_shift {p s : ByteArray} : ∀ (n a b : Nat) (l : List ByteArray), frN s n a l b → frN (p ++ s) n (p.size + a) l (p.size + b)
  | 0, a, b, l, h => by
    obtain ⟨h1, rfl, rfl⟩ := h
    exact ⟨fun hw => h1 ((whole_shift p s _).1 hw), rfl, rfl⟩
  | n + 1, a, b, l, h => by
    obtain ⟨h1, l', rfl, h3⟩ := h
    refine ⟨(whole_shift p s a).2 h1, l', by rw [szN_shift, dtB_shift], ?_⟩
    rw [szN_shift, show p.size + a + 2 + 4 + szN s a = p.size + (a + 2 + 4 + szN s a) from by omega]
    exact frN_shift n _ _ _ h3
theorem Fr.shift {p s : ByteArray} {a b : Nat} {l : List ByteArray} (h : Fr s a l b) : Fr (p ++ s) (p.size + a) l (p.size + b) := by
  obtain ⟨n, hn⟩ := h
  exact ⟨n, frN_shift n a b l hn⟩
/-- A frame, and any bytes behind it. -/
theorem wrap_parts (d q : ByteArray) : szB (wrapB d ++ q) 0 = sizeB d ∧ smB (wrapB d ++ q) 0 = sumB d ∧ dtB (wrapB d ++ q) 0 d.size = d := by
  have h1 := sizeB_size d
  have h2 := sumB_size d
  have h3 := wrapB_size d
  refine ⟨?_, ?_, ?_⟩
  · apply ba_ext
    rw [szB, ext_front _ _ _ _ (by omega), ext_list, wrapB, app_list, app_list, List.append_assoc, List.drop_zero, List.take_left' (by rw [ba_len]; omega)]
  · apply ba_ext
    rw [smB, ext_front _ _ _ _ (by omega), ext_list, wrapB, app_list, app_list, List.append_assoc, List.drop_left' (by rw [ba_len]; omega), List.take_left' (by rw [ba_len]; omega)]
  · apply ba_ext
    rw [dtB, ext_front _ _ _ _ (by omega), ext_list, wrapB, app_list, app_list, List.drop_left' (by rw [List.length_append, ba_len, ba_len]; omega), List.take_of_length_le (by rw [ba_len]; omega)]
theorem szN_wrap (d q : ByteArray) (h : d.size ≤ 4096) : szN (wrapB d ++ q) 0 = d.size := by
  rw [szN, (wrap_parts d q).1, sizeB, num_digits _ 2 (by omega)]
theorem whole_wrap (d q : ByteArray) (h : d.size ≤ 4096) : whole (wrapB d ++ q) 0 := by
  have h3 := wrapB_size d
  unfold whole
  rw [szN_wrap d q h, (wrap_parts d q).1, (wrap_parts d q).2.2, append_size']
  refine ⟨by omega, h, by omega, ?_⟩
  rw [smN, (wrap_parts d q).2.1, sumB, num_digits _ 4 (crc_lt _)]
/-- Frames, one behind the other. -/
def catW : List ByteArray → ByteArray
  | [] => ⟨#[]⟩
  | d :: l => wrapB d ++ catW l
theorem empty_append' (a : ByteArray) : (⟨#[]⟩ : ByteArray) ++ a = a := by
  apply ba_ext
  rw [app_list]; rfl
theorem append_empty' (a : ByteArray) : a ++ (⟨#[]⟩ : ByteArray) = a := by
  apply ba_ext
  rw [app_list]; simp
theorem append_assoc' (a b c : ByteArray) : a ++ b ++ c = a ++ (b ++ c) := by
  apply ba_ext
  simp only [app_list, List.append_assoc]
theorem catW_snoc (l : List ByteArray) (d : ByteArray) : catW (l ++ [d]) = catW l ++ wrapB d := by
  induction l with
  | nil => simp [catW, append_empty', empty_append']
  | cons x l ih => simp only [List.cons_append, catW, ih, append_assoc']
theorem Fr.cat {q : ByteArray} {l : List ByteArray} {b : Nat} (h : Fr q 0 l b) : ∀ ds : List ByteArray, (∀ d ∈ ds, d.size ≤ 4096) → Fr (catW ds ++ q) 0 (ds ++ l) ((catW ds).size + b)
  | [], _ => by
    rw [catW, empty_append', show (ByteArray.mk #[]).size + b = b from by simp [ByteArray.size]]
    exact h
  | d :: ds, hd => by
    have ih := Fr.cat h ds (fun x hx => hd x (List.mem_cons_of_mem _ hx))
    have hdd := hd d List.mem_cons_self
    have h1 := Fr.shift (p := wrapB d) ih
    rw [← append_assoc'] at h1
    have hw : whole (wrapB d ++ (catW ds ++ q)) 0 := whole_wrap d _ hdd
    have h2 := Fr.step (s := wrapB d ++ (catW ds ++ q)) (a := 0) (b := (wrapB d).size + ((catW ds).size + b)) (l := ds ++ l) hw (by
      rw [szN_wrap d _ hdd, ← append_assoc', show 0 + 2 + 4 + d.size = (wrapB d).size + 0 from by rw [wrapB_size]; omega]
      exact h1)
    rw [szN_wrap d _ hdd, (wrap_parts d _).2.2] at h2
    simp only [catW, List.cons_append]
    rw [append_assoc', append_size', Nat.add_assoc]
    exact h2
theorem cut_not_whole (d : ByteArray) (k : Nat) (h : d.size ≤ 4096) (hk : k < (wrapB d).size) : ¬ whole ((wrapB d).extract 0 k) 0 := by
  intro hw
  have h3 := wrapB_size d
  have hs : ((wrapB d).extract 0 k).size = k := by rw [ByteArray.size_extract]; omega
  have h1 := hw.1
  have h2 := hw.2.2.1
  rw [hs] at h1 h2
  have e : szN ((wrapB d).extract 0 k) 0 = d.size := by
    have := szN_wrap d ⟨#[]⟩ h
    rw [append_empty'] at this
    rw [← this, szN, szN, szB, szB, ext_ext _ _ _ _ (by omega)]
  rw [e] at h2
  omega
theorem Fr.cut (d : ByteArray) (k : Nat) (h : d.size ≤ 4096) (hk : k < (wrapB d).size) : Fr ((wrapB d).extract 0 k) 0 [] 0 := .stop (cut_not_whole d k h hk)
theorem Fr.none : Fr ⟨#[]⟩ 0 [] 0 := .stop (fun h => by have := h.1; simp [ByteArray.size] at this)
theorem bytesOf_append (a b : ByteArray) : bytesOf (a ++ b) = bytesOf a ++ bytesOf b := by
  unfold bytesOf
  rw [app_list, List.map_append]
theorem strOfNums_bytesOf (s : ByteArray) : strOfNums (bytesOf s) = s := ba_ext (strOfNums_bytes _)
theorem bytesOf_nil : bytesOf ⟨#[]⟩ = [] := rfl
theorem catW_size (l : List ByteArray) : (catW l).size = (l.map fun d => d.size + 6).sum := by
  induction l with
  | nil => rfl
  | cons d l ih => rw [catW, append_size', wrapB_size, ih]; simp; omega
end Go.Proofs.Ytpegcdnkefljdaa

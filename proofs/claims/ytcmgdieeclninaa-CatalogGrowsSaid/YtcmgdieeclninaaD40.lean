/- Layer 8: the walks of the reader's text, flag, many. -/
import Derived.Test.YtcmgdieeclninaaD39
set_option linter.unusedVariables false
set_option linter.unusedSimpArgs false
namespace Go.Proofs.Ytcmgdieeclninaa
open Go.RowKit Go.Proofs.YtcmgdieeclninaaW.PrintWords
theorem bytesOf_inj {a b : ByteArray} (h : bytesOf a = bytesOf b) : a = b := by
  apply ba_ext
  unfold bytesOf at h
  exact List.map_inj_right (fun x y hxy => UInt8.toNat_inj.1 (by omega)) |>.1 h
theorem bytes_take (s : ByteArray) (n : Nat) : bytesOf (s.extract 0 n) = (bytesOf s).take n := by
  unfold bytesOf
  rw [Lib.extract_data, List.drop_zero, Nat.sub_zero, List.map_take]
/-- What a reading function tells. -/
def ROut {α : Type} (enc : α → List Int) (ok : α → Prop) (val : World → Value → α → Prop) (rb : Nat) (s : ByteArray) (b : Bool) (w : World) (e : Ending) (w' : World) : Prop :=
  ∃ (v : Value) (x : α) (s' : ByteArray) (b' : Bool), e = .returned v ∧ val w' v x ∧ RS w' rb s' b' ∧ Mod w w' (fun i => i = rb) ∧ s'.size ≤ s.size ∧ Rd enc ok (bytesOf s) b x (bytesOf s') b'
def wZ (n : Int) : List Int := wN n.toNat
def okZ (n : Int) : Prop := 0 ≤ n ∧ n < 268435456
def okT (t : ByteArray) : Prop := t.size < 268435456
def vInt (_ : World) (v : Value) (n : Int) : Prop := v = .int .i64 n ∧ okZ n
def vStr (_ : World) (v : Value) (t : ByteArray) : Prop := v = .string t ∧ t.size < 268435456
def vBool (_ : World) (v : Value) (t : Bool) : Prop := v = .bool t
theorem rint_any (rb : Nat) (s : ByteArray) (b : Bool) (w : World) (h : RS w rb s b) (hs : s.size ≤ 140737488355328) : Calls Try.prog 85 #[.pointer (some ⟨rb, 0, none⟩)] w (ROut wZ okZ vInt rb s b w) := by
  refine (rnum_any rb s b w h hs).mono ?_
  rintro e w' ⟨n, s', b', he, h1, h2, h3, h4, h5⟩
  exact ⟨_, (n : Int), s', b', he, ⟨rfl, by unfold okZ; omega⟩, h1, h2, h4, h5.map (fun n => (n : Int)) Int.toNat (Int.toNat_natCast n) (fun y => rfl) (fun y hy => by unfold okZ at hy; omega) (fun y hy => Int.toNat_of_nonneg hy.1)⟩
set_option maxRecDepth 100000 in
set_option maxHeartbeats 2000000 in
theorem rtext_any (rb : Nat) (s : ByteArray) (b : Bool) (w : World) (h : RS w rb s b) (hs : s.size ≤ 140737488355328) : Calls Try.prog 86 #[.pointer (some ⟨rb, 0, none⟩)] w (ROut wT okT vStr rb s b w) := by
  go_enter Try.func86, Try.ntmps86
  go_wp2_with fail
  refine (rnum_any rb s b w h hs).mono ?_
  rintro e w1 ⟨n, s1, b1, rfl, hR1, hM1, hn, hsz, hrd⟩
  have HR1 := Aside0.mk hR1
  have HM1 := Aside0.mk hM1
  have HRD := Lib.hid hrd
  have f0 : w1.cell? ⟨rb, 0, none⟩ = some (.string s1) := blk_cell hR1 0
  have f1 : w1.cell? ⟨rb, 1, none⟩ = some (.bool b1) := blk_cell hR1 1
  have k0 : w1.frozen? ⟨rb, 0, none⟩ = false := blk_frozen hR1 0
  have k1 : w1.frozen? ⟨rb, 1, none⟩ = false := blk_frozen hR1 1
  clear hR1 hM1 hrd h
  by_cases hlt : s1.size < n
  · go_wp2_with fail
    go_ret
    refine ⟨_, ⟨#[]⟩, s1, true, rfl, ⟨rfl, by decide⟩, HR1.out.setb true, HM1.out.trans (mod_setCell _ _ _ _), hsz, (fun h => by cases h), fun hb y r hy hl => ?_⟩
    exfalso
    rw [wT, List.append_assoc] at hl
    obtain ⟨h1, h2, h3⟩ := HRD.out.compl hb y.size _ hy hl
    have h4 := congrArg List.length h2
    rw [List.length_append, bytesOf_length, bytesOf_length] at h4
    omega
  · go_wp2_with fail
    go_ret
    refine ⟨_, s1.extract 0 n, s1.extract n s1.size, b1, rfl, ⟨rfl, by rw [ByteArray.size_extract]; omega⟩, HR1.out.sets _, HM1.out.trans (mod_setCell _ _ _ _), by rw [ByteArray.size_extract]; omega, fun hb => ?_, fun hb y r hy hl => ?_⟩
    · obtain ⟨h1, h2⟩ := HRD.out.sound hb
      refine ⟨h1, ?_⟩
      rw [h2, wT, bytes_take, bytes_drop, ByteArray.size_extract, List.append_assoc, List.take_append_drop, show min n s1.size - 0 = n from by omega]
    · rw [wT, List.append_assoc] at hl
      obtain ⟨h1, h2, h3⟩ := HRD.out.compl hb y.size _ hy hl
      subst h1
      refine ⟨bytesOf_inj ?_, ?_, h3⟩
      · rw [bytes_take, h2]
        exact List.take_left' (bytesOf_length y)
      · rw [bytes_drop, h2]
        exact List.drop_left' (bytesOf_length y)
theorem rflag_any (rb : Nat) (s : ByteArray) (b : Bool) (w : World) (h : RS w rb s b) (hs : s.size ≤ 140737488355328) : Calls Try.prog 88 #[.pointer (some ⟨rb, 0, none⟩)] w (ROut wF (fun _ => True) vBool rb s b w) := by
  go_enter Try.func88, Try.ntmps88
  go_wp2_with fail
  refine (rnum_any rb s b w h hs).mono ?_
  rintro e w1 ⟨n, s1, b1, rfl, hR1, hM1, hn, hsz, hrd⟩
  have HR1 := Aside0.mk hR1
  have HM1 := Aside0.mk hM1
  have f1 : w1.cell? ⟨rb, 1, none⟩ = some (.bool b1) := blk_cell hR1 1
  have k1 : w1.frozen? ⟨rb, 1, none⟩ = false := blk_frozen hR1 1
  have hfin : Rd wF (fun _ => True) (bytesOf s) b (decide (n = 1)) (bytesOf s1) (b1 || decide (1 < n)) := by
    refine ⟨fun hb => ?_, fun hb y r hy hl => ?_⟩
    · simp only [Bool.or_eq_false_iff, decide_eq_false_iff_not] at hb
      obtain ⟨h1, h2⟩ := hrd.sound hb.1
      refine ⟨h1, ?_⟩
      rw [h2]
      rcases (by omega : n = 0 ∨ n = 1) with rfl | rfl
      · rw [wN_small (by decide)]; rfl
      · rw [wN_small (by decide)]; rfl
    · cases y with
      | true =>
        obtain ⟨h1, h2, h3⟩ := hrd.compl hb 1 r (by decide) (by rw [hl, wN_small (by decide)]; rfl)
        subst h1
        exact ⟨rfl, h2, by rw [h3]; rfl⟩
      | false =>
        obtain ⟨h1, h2, h3⟩ := hrd.compl hb 0 r (by decide) (by rw [hl, wN_small (by decide)]; rfl)
        subst h1
        exact ⟨rfl, h2, by rw [h3]; rfl⟩
  have HF := Lib.hid hfin
  clear hR1 hM1 hrd h hfin
  by_cases h1 : n = 1
  · subst h1
    cases b1 <;>
    · go_wp2_with fail
      go_ret
      exact ⟨_, true, s1, _, rfl, rfl, HR1.out.setb _, HM1.out.trans (mod_setCell _ _ _ _), hsz, HF.out⟩
  · have he : ((n : Int) == 1) = false := by rw [beq_eq_false_iff_ne]; omega
    by_cases h2 : 1 < n
    · have hd : decide ((1 : Int) < (n : Int)) = true := decide_eq_true (by omega)
      cases b1 <;>
      · go_wp2_with fail
        go_ret
        refine ⟨_, false, s1, true, rfl, rfl, HR1.out.setb _, HM1.out.trans (mod_setCell _ _ _ _), hsz, ?_⟩
        have h := HF.out
        rw [decide_eq_false h1, decide_eq_true h2] at h
        simpa using h
    · have hd : decide ((1 : Int) < (n : Int)) = false := decide_eq_false (by omega)
      cases b1 with
      | true =>
        go_wp2_with fail
        go_ret
        refine ⟨_, false, s1, true, rfl, rfl, HR1.out.setb _, HM1.out.trans (mod_setCell _ _ _ _), hsz, ?_⟩
        have h := HF.out
        rw [decide_eq_false h1, decide_eq_false h2] at h
        simpa using h
      | false =>
        go_wp2_with fail
        go_ret
        refine ⟨_, false, s1, false, rfl, rfl, HR1.out.setb _, HM1.out.trans (mod_setCell _ _ _ _), hsz, ?_⟩
        have h := HF.out
        rw [decide_eq_false h1, decide_eq_false h2] at h
        simpa using h
/-- What 'many' tells: how many were said, how many were done. -/
def ManyOut (rb most : Nat) (I : List Int → Bool → Nat → World → ByteArray → Bool → Prop) (s : ByteArray) (b : Bool) (e : Ending) (w' : World) : Prop :=
  e = .returned (.tuple #[]) ∧ ∃ (n : Nat) (s1 : ByteArray) (b1 : Bool) (k : Nat) (s' : ByteArray) (b' : Bool), Rd wN (fun m => m < 268435456) (bytesOf s) b n (bytesOf s1) b1 ∧ RS w' rb s' b' ∧ I (bytesOf s1) (b1 || decide (most < n)) k w' s' b' ∧ k ≤ n ∧ (b' = true ∨ k = n)
set_option maxRecDepth 100000 in
set_option maxHeartbeats 4000000 in
theorem many100_any (most : Nat) (hmost : most ≤ 1000) (caps : Array Value) (rb : Nat) (s : ByteArray) (b : Bool) (w : World) (h : RS w rb s b) (hs : s.size ≤ 140737488355328) (I : List Int → Bool → Nat → World → ByteArray → Bool → Prop)
    (h0 : ∀ w' s1 b1, Mod w w' (fun i => i = rb) → RS w' rb s1 b1 → s1.size ≤ s.size → I (bytesOf s1) b1 0 w' s1 b1)
    (hstep : ∀ l0 b0 k w1 s1, k < 268435456 → I l0 b0 k w1 s1 false → RS w1 rb s1 false → Calls Try.prog 100 caps w1 (fun e w2 => e = .returned (.tuple #[]) ∧ ∃ s2 b2, RS w2 rb s2 b2 ∧ I l0 b0 (k + 1) w2 s2 b2)) :
    Calls Try.prog 48 #[.pointer (some ⟨rb, 0, none⟩), .int .i64 most, .func (.func 100) #[] caps] w (ManyOut rb most I s b) := by
  have H0 := Lib.hid h0
  have HSTEP := Lib.hid hstep
  clear h0 hstep
  go_enter Try.func48, Try.ntmps48
  go_wp2_with fail
  refine (rnum_any rb s b w h hs).mono ?_
  rintro e w1 ⟨n, s1, b1, rfl, hR1, hM1, hn, hsz, hrd⟩
  have HRD := Lib.hid hrd
  have f1 : w1.cell? ⟨rb, 1, none⟩ = some (.bool b1) := blk_cell hR1 1
  have k1 : w1.frozen? ⟨rb, 1, none⟩ = false := blk_frozen hR1 1
  obtain ⟨bs, hbs⟩ : ∃ c, c = (b1 || decide (most < n)) := ⟨_, rfl⟩
  have HBS := Lib.hid hbs
  have hR2 := hR1.setb bs
  have hI2 := H0.out _ s1 bs (hM1.trans (mod_setCell w1 rb 1 (.bool bs))) hR2 hsz
  have HI2 := Aside0.mk (And.intro hR2 hI2)
  clear hR1 hM1 hrd h hR2 hI2 hbs H0
  by_cases hn2 : most < n
  · have hd : decide ((most : Int) < (n : Int)) = true := decide_eq_true (by omega)
    obtain rfl : bs = true := by rw [HBS.out, decide_eq_true hn2, Bool.or_true]
    cases b1 with
    | true =>
      go_wp2_with fail
      go_loopg [7] n (fun gn i wr => ∃ (k : Nat) (s2 : ByteArray) (b2 : Bool), i = .int .i64 k ∧ Aside0 (k + gn = n) ∧ Aside0 (RS wr rb s2 b2 ∧ I (bytesOf s1) true k wr s2 b2))
      case atStart => exact ⟨0, s1, true, rfl, ⟨by omega⟩, HI2⟩
      case round =>
        obtain ⟨k, s2, b2, rfl, ⟨hgn⟩, hI⟩ := hrel
        have HGN := Lib.hid hgn
        have hkn : k ≤ n := by omega
        clear hgn HI2
        have f1 : wr.cell? ⟨rb, 1, none⟩ = some (.bool b2) := blk_cell hI.out.1 1
        by_cases hk : k < n
        · have p0 : decide ((k : Int) < (n : Int)) = true := decide_eq_true (by omega)
          cases b2 with
          | true =>
            go_wp2_with fail
            go_end0
            refine ⟨rfl, n, s1, true, k, s2, true, HRD.out, hI.out.1, ?_, hkn, .inl rfl⟩
            have h := hI.out.2
            rw [← HBS.out]
            exact h
          | false =>
            go_wp2_with fail
            refine (HSTEP.out (bytesOf s1) true k wr s2 (by omega) hI.out.2 hI.out.1).mono ?_
            rintro e w3 ⟨rfl, s3, b3, hR3, hI3⟩
            have HI3 := Aside0.mk (And.intro hR3 hI3)
            clear hR3 hI3 f1 hI
            go_wp2_with fail
            go_roundg (n - (k + 1))
            case measure => have := HGN.out; omega
            case rel => exact ⟨k + 1, s3, b3, by go_num, ⟨by have := HGN.out; omega⟩, HI3⟩
        · have p0 : decide ((k : Int) < (n : Int)) = false := decide_eq_false (by omega)
          go_wp2_with fail
          go_end0
          refine ⟨rfl, n, s1, true, k, s2, b2, HRD.out, hI.out.1, ?_, hkn, .inr (by omega)⟩
          have h := hI.out.2
          rw [← HBS.out]
          exact h
    | false =>
      go_wp2_with fail
      go_loopg [7] n (fun gn i wr => ∃ (k : Nat) (s2 : ByteArray) (b2 : Bool), i = .int .i64 k ∧ Aside0 (k + gn = n) ∧ Aside0 (RS wr rb s2 b2 ∧ I (bytesOf s1) true k wr s2 b2))
      case atStart => exact ⟨0, s1, true, rfl, ⟨by omega⟩, HI2⟩
      case round =>
        obtain ⟨k, s2, b2, rfl, ⟨hgn⟩, hI⟩ := hrel
        have HGN := Lib.hid hgn
        have hkn : k ≤ n := by omega
        clear hgn HI2
        have f1 : wr.cell? ⟨rb, 1, none⟩ = some (.bool b2) := blk_cell hI.out.1 1
        by_cases hk : k < n
        · have p0 : decide ((k : Int) < (n : Int)) = true := decide_eq_true (by omega)
          cases b2 with
          | true =>
            go_wp2_with fail
            go_end0
            refine ⟨rfl, n, s1, false, k, s2, true, HRD.out, hI.out.1, ?_, hkn, .inl rfl⟩
            have h := hI.out.2
            rw [← HBS.out]
            exact h
          | false =>
            go_wp2_with fail
            refine (HSTEP.out (bytesOf s1) true k wr s2 (by omega) hI.out.2 hI.out.1).mono ?_
            rintro e w3 ⟨rfl, s3, b3, hR3, hI3⟩
            have HI3 := Aside0.mk (And.intro hR3 hI3)
            clear hR3 hI3 f1 hI
            go_wp2_with fail
            go_roundg (n - (k + 1))
            case measure => have := HGN.out; omega
            case rel => exact ⟨k + 1, s3, b3, by go_num, ⟨by have := HGN.out; omega⟩, HI3⟩
        · have p0 : decide ((k : Int) < (n : Int)) = false := decide_eq_false (by omega)
          go_wp2_with fail
          go_end0
          refine ⟨rfl, n, s1, false, k, s2, b2, HRD.out, hI.out.1, ?_, hkn, .inr (by omega)⟩
          have h := hI.out.2
          rw [← HBS.out]
          exact h
  · have hd : decide ((most : Int) < (n : Int)) = false := decide_eq_false (by omega)
    obtain rfl : bs = b1 := by rw [HBS.out, decide_eq_false hn2, Bool.or_false]
    cases bs with
    | true =>
      go_wp2_with fail
      go_loopg [7] n (fun gn i wr => ∃ (k : Nat) (s2 : ByteArray) (b2 : Bool), i = .int .i64 k ∧ Aside0 (k + gn = n) ∧ Aside0 (RS wr rb s2 b2 ∧ I (bytesOf s1) true k wr s2 b2))
      case atStart => exact ⟨0, s1, true, rfl, ⟨by omega⟩, HI2⟩
      case round =>
        obtain ⟨k, s2, b2, rfl, ⟨hgn⟩, hI⟩ := hrel
        have HGN := Lib.hid hgn
        have hkn : k ≤ n := by omega
        clear hgn HI2
        have f1 : wr.cell? ⟨rb, 1, none⟩ = some (.bool b2) := blk_cell hI.out.1 1
        by_cases hk : k < n
        · have p0 : decide ((k : Int) < (n : Int)) = true := decide_eq_true (by omega)
          cases b2 with
          | true =>
            go_wp2_with fail
            go_end0
            refine ⟨rfl, n, s1, true, k, s2, true, HRD.out, hI.out.1, ?_, hkn, .inl rfl⟩
            have h := hI.out.2
            rw [← HBS.out]
            exact h
          | false =>
            go_wp2_with fail
            refine (HSTEP.out (bytesOf s1) true k wr s2 (by omega) hI.out.2 hI.out.1).mono ?_
            rintro e w3 ⟨rfl, s3, b3, hR3, hI3⟩
            have HI3 := Aside0.mk (And.intro hR3 hI3)
            clear hR3 hI3 f1 hI
            go_wp2_with fail
            go_roundg (n - (k + 1))
            case measure => have := HGN.out; omega
            case rel => exact ⟨k + 1, s3, b3, by go_num, ⟨by have := HGN.out; omega⟩, HI3⟩
        · have p0 : decide ((k : Int) < (n : Int)) = false := decide_eq_false (by omega)
          go_wp2_with fail
          go_end0
          refine ⟨rfl, n, s1, true, k, s2, b2, HRD.out, hI.out.1, ?_, hkn, .inr (by omega)⟩
          have h := hI.out.2
          rw [← HBS.out]
          exact h
    | false =>
      go_wp2_with fail
      go_loopg [7] n (fun gn i wr => ∃ (k : Nat) (s2 : ByteArray) (b2 : Bool), i = .int .i64 k ∧ Aside0 (k + gn = n) ∧ Aside0 (RS wr rb s2 b2 ∧ I (bytesOf s1) false k wr s2 b2))
      case atStart => exact ⟨0, s1, false, rfl, ⟨by omega⟩, HI2⟩
      case round =>
        obtain ⟨k, s2, b2, rfl, ⟨hgn⟩, hI⟩ := hrel
        have HGN := Lib.hid hgn
        have hkn : k ≤ n := by omega
        clear hgn HI2
        have f1 : wr.cell? ⟨rb, 1, none⟩ = some (.bool b2) := blk_cell hI.out.1 1
        by_cases hk : k < n
        · have p0 : decide ((k : Int) < (n : Int)) = true := decide_eq_true (by omega)
          cases b2 with
          | true =>
            go_wp2_with fail
            go_end0
            refine ⟨rfl, n, s1, false, k, s2, true, HRD.out, hI.out.1, ?_, hkn, .inl rfl⟩
            have h := hI.out.2
            rw [← HBS.out]
            exact h
          | false =>
            go_wp2_with fail
            refine (HSTEP.out (bytesOf s1) false k wr s2 (by omega) hI.out.2 hI.out.1).mono ?_
            rintro e w3 ⟨rfl, s3, b3, hR3, hI3⟩
            have HI3 := Aside0.mk (And.intro hR3 hI3)
            clear hR3 hI3 f1 hI
            go_wp2_with fail
            go_roundg (n - (k + 1))
            case measure => have := HGN.out; omega
            case rel => exact ⟨k + 1, s3, b3, by go_num, ⟨by have := HGN.out; omega⟩, HI3⟩
        · have p0 : decide ((k : Int) < (n : Int)) = false := decide_eq_false (by omega)
          go_wp2_with fail
          go_end0
          refine ⟨rfl, n, s1, false, k, s2, b2, HRD.out, hI.out.1, ?_, hkn, .inr (by omega)⟩
          have h := hI.out.2
          rw [← HBS.out]
          exact h
set_option maxRecDepth 100000 in
set_option maxHeartbeats 4000000 in
theorem many87_any (most : Nat) (hmost : most ≤ 1000) (caps : Array Value) (rb : Nat) (s : ByteArray) (b : Bool) (w : World) (h : RS w rb s b) (hs : s.size ≤ 140737488355328) (I : List Int → Bool → Nat → World → ByteArray → Bool → Prop)
    (h0 : ∀ w' s1 b1, Mod w w' (fun i => i = rb) → RS w' rb s1 b1 → s1.size ≤ s.size → I (bytesOf s1) b1 0 w' s1 b1)
    (hstep : ∀ l0 b0 k w1 s1, k < 268435456 → I l0 b0 k w1 s1 false → RS w1 rb s1 false → Calls Try.prog 87 caps w1 (fun e w2 => e = .returned (.tuple #[]) ∧ ∃ s2 b2, RS w2 rb s2 b2 ∧ I l0 b0 (k + 1) w2 s2 b2)) :
    Calls Try.prog 48 #[.pointer (some ⟨rb, 0, none⟩), .int .i64 most, .func (.func 87) #[] caps] w (ManyOut rb most I s b) := by
  have H0 := Lib.hid h0
  have HSTEP := Lib.hid hstep
  clear h0 hstep
  go_enter Try.func48, Try.ntmps48
  go_wp2_with fail
  refine (rnum_any rb s b w h hs).mono ?_
  rintro e w1 ⟨n, s1, b1, rfl, hR1, hM1, hn, hsz, hrd⟩
  have HRD := Lib.hid hrd
  have f1 : w1.cell? ⟨rb, 1, none⟩ = some (.bool b1) := blk_cell hR1 1
  have k1 : w1.frozen? ⟨rb, 1, none⟩ = false := blk_frozen hR1 1
  obtain ⟨bs, hbs⟩ : ∃ c, c = (b1 || decide (most < n)) := ⟨_, rfl⟩
  have HBS := Lib.hid hbs
  have hR2 := hR1.setb bs
  have hI2 := H0.out _ s1 bs (hM1.trans (mod_setCell w1 rb 1 (.bool bs))) hR2 hsz
  have HI2 := Aside0.mk (And.intro hR2 hI2)
  clear hR1 hM1 hrd h hR2 hI2 hbs H0
  by_cases hn2 : most < n
  · have hd : decide ((most : Int) < (n : Int)) = true := decide_eq_true (by omega)
    obtain rfl : bs = true := by rw [HBS.out, decide_eq_true hn2, Bool.or_true]
    cases b1 with
    | true =>
      go_wp2_with fail
      go_loopg [7] n (fun gn i wr => ∃ (k : Nat) (s2 : ByteArray) (b2 : Bool), i = .int .i64 k ∧ Aside0 (k + gn = n) ∧ Aside0 (RS wr rb s2 b2 ∧ I (bytesOf s1) true k wr s2 b2))
      case atStart => exact ⟨0, s1, true, rfl, ⟨by omega⟩, HI2⟩
      case round =>
        obtain ⟨k, s2, b2, rfl, ⟨hgn⟩, hI⟩ := hrel
        have HGN := Lib.hid hgn
        have hkn : k ≤ n := by omega
        clear hgn HI2
        have f1 : wr.cell? ⟨rb, 1, none⟩ = some (.bool b2) := blk_cell hI.out.1 1
        by_cases hk : k < n
        · have p0 : decide ((k : Int) < (n : Int)) = true := decide_eq_true (by omega)
          cases b2 with
          | true =>
            go_wp2_with fail
            go_end0
            refine ⟨rfl, n, s1, true, k, s2, true, HRD.out, hI.out.1, ?_, hkn, .inl rfl⟩
            have h := hI.out.2
            rw [← HBS.out]
            exact h
          | false =>
            go_wp2_with fail
            refine (HSTEP.out (bytesOf s1) true k wr s2 (by omega) hI.out.2 hI.out.1).mono ?_
            rintro e w3 ⟨rfl, s3, b3, hR3, hI3⟩
            have HI3 := Aside0.mk (And.intro hR3 hI3)
            clear hR3 hI3 f1 hI
            go_wp2_with fail
            go_roundg (n - (k + 1))
            case measure => have := HGN.out; omega
            case rel => exact ⟨k + 1, s3, b3, by go_num, ⟨by have := HGN.out; omega⟩, HI3⟩
        · have p0 : decide ((k : Int) < (n : Int)) = false := decide_eq_false (by omega)
          go_wp2_with fail
          go_end0
          refine ⟨rfl, n, s1, true, k, s2, b2, HRD.out, hI.out.1, ?_, hkn, .inr (by omega)⟩
          have h := hI.out.2
          rw [← HBS.out]
          exact h
    | false =>
      go_wp2_with fail
      go_loopg [7] n (fun gn i wr => ∃ (k : Nat) (s2 : ByteArray) (b2 : Bool), i = .int .i64 k ∧ Aside0 (k + gn = n) ∧ Aside0 (RS wr rb s2 b2 ∧ I (bytesOf s1) true k wr s2 b2))
      case atStart => exact ⟨0, s1, true, rfl, ⟨by omega⟩, HI2⟩
      case round =>
        obtain ⟨k, s2, b2, rfl, ⟨hgn⟩, hI⟩ := hrel
        have HGN := Lib.hid hgn
        have hkn : k ≤ n := by omega
        clear hgn HI2
        have f1 : wr.cell? ⟨rb, 1, none⟩ = some (.bool b2) := blk_cell hI.out.1 1
        by_cases hk : k < n
        · have p0 : decide ((k : Int) < (n : Int)) = true := decide_eq_true (by omega)
          cases b2 with
          | true =>
            go_wp2_with fail
            go_end0
            refine ⟨rfl, n, s1, false, k, s2, true, HRD.out, hI.out.1, ?_, hkn, .inl rfl⟩
            have h := hI.out.2
            rw [← HBS.out]
            exact h
          | false =>
            go_wp2_with fail
            refine (HSTEP.out (bytesOf s1) true k wr s2 (by omega) hI.out.2 hI.out.1).mono ?_
            rintro e w3 ⟨rfl, s3, b3, hR3, hI3⟩
            have HI3 := Aside0.mk (And.intro hR3 hI3)
            clear hR3 hI3 f1 hI
            go_wp2_with fail
            go_roundg (n - (k + 1))
            case measure => have := HGN.out; omega
            case rel => exact ⟨k + 1, s3, b3, by go_num, ⟨by have := HGN.out; omega⟩, HI3⟩
        · have p0 : decide ((k : Int) < (n : Int)) = false := decide_eq_false (by omega)
          go_wp2_with fail
          go_end0
          refine ⟨rfl, n, s1, false, k, s2, b2, HRD.out, hI.out.1, ?_, hkn, .inr (by omega)⟩
          have h := hI.out.2
          rw [← HBS.out]
          exact h
  · have hd : decide ((most : Int) < (n : Int)) = false := decide_eq_false (by omega)
    obtain rfl : bs = b1 := by rw [HBS.out, decide_eq_false hn2, Bool.or_false]
    cases bs with
    | true =>
      go_wp2_with fail
      go_loopg [7] n (fun gn i wr => ∃ (k : Nat) (s2 : ByteArray) (b2 : Bool), i = .int .i64 k ∧ Aside0 (k + gn = n) ∧ Aside0 (RS wr rb s2 b2 ∧ I (bytesOf s1) true k wr s2 b2))
      case atStart => exact ⟨0, s1, true, rfl, ⟨by omega⟩, HI2⟩
      case round =>
        obtain ⟨k, s2, b2, rfl, ⟨hgn⟩, hI⟩ := hrel
        have HGN := Lib.hid hgn
        have hkn : k ≤ n := by omega
        clear hgn HI2
        have f1 : wr.cell? ⟨rb, 1, none⟩ = some (.bool b2) := blk_cell hI.out.1 1
        by_cases hk : k < n
        · have p0 : decide ((k : Int) < (n : Int)) = true := decide_eq_true (by omega)
          cases b2 with
          | true =>
            go_wp2_with fail
            go_end0
            refine ⟨rfl, n, s1, true, k, s2, true, HRD.out, hI.out.1, ?_, hkn, .inl rfl⟩
            have h := hI.out.2
            rw [← HBS.out]
            exact h
          | false =>
            go_wp2_with fail
            refine (HSTEP.out (bytesOf s1) true k wr s2 (by omega) hI.out.2 hI.out.1).mono ?_
            rintro e w3 ⟨rfl, s3, b3, hR3, hI3⟩
            have HI3 := Aside0.mk (And.intro hR3 hI3)
            clear hR3 hI3 f1 hI
            go_wp2_with fail
            go_roundg (n - (k + 1))
            case measure => have := HGN.out; omega
            case rel => exact ⟨k + 1, s3, b3, by go_num, ⟨by have := HGN.out; omega⟩, HI3⟩
        · have p0 : decide ((k : Int) < (n : Int)) = false := decide_eq_false (by omega)
          go_wp2_with fail
          go_end0
          refine ⟨rfl, n, s1, true, k, s2, b2, HRD.out, hI.out.1, ?_, hkn, .inr (by omega)⟩
          have h := hI.out.2
          rw [← HBS.out]
          exact h
    | false =>
      go_wp2_with fail
      go_loopg [7] n (fun gn i wr => ∃ (k : Nat) (s2 : ByteArray) (b2 : Bool), i = .int .i64 k ∧ Aside0 (k + gn = n) ∧ Aside0 (RS wr rb s2 b2 ∧ I (bytesOf s1) false k wr s2 b2))
      case atStart => exact ⟨0, s1, false, rfl, ⟨by omega⟩, HI2⟩
      case round =>
        obtain ⟨k, s2, b2, rfl, ⟨hgn⟩, hI⟩ := hrel
        have HGN := Lib.hid hgn
        have hkn : k ≤ n := by omega
        clear hgn HI2
        have f1 : wr.cell? ⟨rb, 1, none⟩ = some (.bool b2) := blk_cell hI.out.1 1
        by_cases hk : k < n
        · have p0 : decide ((k : Int) < (n : Int)) = true := decide_eq_true (by omega)
          cases b2 with
          | true =>
            go_wp2_with fail
            go_end0
            refine ⟨rfl, n, s1, false, k, s2, true, HRD.out, hI.out.1, ?_, hkn, .inl rfl⟩
            have h := hI.out.2
            rw [← HBS.out]
            exact h
          | false =>
            go_wp2_with fail
            refine (HSTEP.out (bytesOf s1) false k wr s2 (by omega) hI.out.2 hI.out.1).mono ?_
            rintro e w3 ⟨rfl, s3, b3, hR3, hI3⟩
            have HI3 := Aside0.mk (And.intro hR3 hI3)
            clear hR3 hI3 f1 hI
            go_wp2_with fail
            go_roundg (n - (k + 1))
            case measure => have := HGN.out; omega
            case rel => exact ⟨k + 1, s3, b3, by go_num, ⟨by have := HGN.out; omega⟩, HI3⟩
        · have p0 : decide ((k : Int) < (n : Int)) = false := decide_eq_false (by omega)
          go_wp2_with fail
          go_end0
          refine ⟨rfl, n, s1, false, k, s2, b2, HRD.out, hI.out.1, ?_, hkn, .inr (by omega)⟩
          have h := hI.out.2
          rw [← HBS.out]
          exact h
set_option maxRecDepth 100000 in
set_option maxHeartbeats 4000000 in
theorem many90_any (most : Nat) (hmost : most ≤ 1000) (caps : Array Value) (rb : Nat) (s : ByteArray) (b : Bool) (w : World) (h : RS w rb s b) (hs : s.size ≤ 140737488355328) (I : List Int → Bool → Nat → World → ByteArray → Bool → Prop)
    (h0 : ∀ w' s1 b1, Mod w w' (fun i => i = rb) → RS w' rb s1 b1 → s1.size ≤ s.size → I (bytesOf s1) b1 0 w' s1 b1)
    (hstep : ∀ l0 b0 k w1 s1, k < 268435456 → I l0 b0 k w1 s1 false → RS w1 rb s1 false → Calls Try.prog 90 caps w1 (fun e w2 => e = .returned (.tuple #[]) ∧ ∃ s2 b2, RS w2 rb s2 b2 ∧ I l0 b0 (k + 1) w2 s2 b2)) :
    Calls Try.prog 48 #[.pointer (some ⟨rb, 0, none⟩), .int .i64 most, .func (.func 90) #[] caps] w (ManyOut rb most I s b) := by
  have H0 := Lib.hid h0
  have HSTEP := Lib.hid hstep
  clear h0 hstep
  go_enter Try.func48, Try.ntmps48
  go_wp2_with fail
  refine (rnum_any rb s b w h hs).mono ?_
  rintro e w1 ⟨n, s1, b1, rfl, hR1, hM1, hn, hsz, hrd⟩
  have HRD := Lib.hid hrd
  have f1 : w1.cell? ⟨rb, 1, none⟩ = some (.bool b1) := blk_cell hR1 1
  have k1 : w1.frozen? ⟨rb, 1, none⟩ = false := blk_frozen hR1 1
  obtain ⟨bs, hbs⟩ : ∃ c, c = (b1 || decide (most < n)) := ⟨_, rfl⟩
  have HBS := Lib.hid hbs
  have hR2 := hR1.setb bs
  have hI2 := H0.out _ s1 bs (hM1.trans (mod_setCell w1 rb 1 (.bool bs))) hR2 hsz
  have HI2 := Aside0.mk (And.intro hR2 hI2)
  clear hR1 hM1 hrd h hR2 hI2 hbs H0
  by_cases hn2 : most < n
  · have hd : decide ((most : Int) < (n : Int)) = true := decide_eq_true (by omega)
    obtain rfl : bs = true := by rw [HBS.out, decide_eq_true hn2, Bool.or_true]
    cases b1 with
    | true =>
      go_wp2_with fail
      go_loopg [7] n (fun gn i wr => ∃ (k : Nat) (s2 : ByteArray) (b2 : Bool), i = .int .i64 k ∧ Aside0 (k + gn = n) ∧ Aside0 (RS wr rb s2 b2 ∧ I (bytesOf s1) true k wr s2 b2))
      case atStart => exact ⟨0, s1, true, rfl, ⟨by omega⟩, HI2⟩
      case round =>
        obtain ⟨k, s2, b2, rfl, ⟨hgn⟩, hI⟩ := hrel
        have HGN := Lib.hid hgn
        have hkn : k ≤ n := by omega
        clear hgn HI2
        have f1 : wr.cell? ⟨rb, 1, none⟩ = some (.bool b2) := blk_cell hI.out.1 1
        by_cases hk : k < n
        · have p0 : decide ((k : Int) < (n : Int)) = true := decide_eq_true (by omega)
          cases b2 with
          | true =>
            go_wp2_with fail
            go_end0
            refine ⟨rfl, n, s1, true, k, s2, true, HRD.out, hI.out.1, ?_, hkn, .inl rfl⟩
            have h := hI.out.2
            rw [← HBS.out]
            exact h
          | false =>
            go_wp2_with fail
            refine (HSTEP.out (bytesOf s1) true k wr s2 (by omega) hI.out.2 hI.out.1).mono ?_
            rintro e w3 ⟨rfl, s3, b3, hR3, hI3⟩
            have HI3 := Aside0.mk (And.intro hR3 hI3)
            clear hR3 hI3 f1 hI
            go_wp2_with fail
            go_roundg (n - (k + 1))
            case measure => have := HGN.out; omega
            case rel => exact ⟨k + 1, s3, b3, by go_num, ⟨by have := HGN.out; omega⟩, HI3⟩
        · have p0 : decide ((k : Int) < (n : Int)) = false := decide_eq_false (by omega)
          go_wp2_with fail
          go_end0
          refine ⟨rfl, n, s1, true, k, s2, b2, HRD.out, hI.out.1, ?_, hkn, .inr (by omega)⟩
          have h := hI.out.2
          rw [← HBS.out]
          exact h
    | false =>
      go_wp2_with fail
      go_loopg [7] n (fun gn i wr => ∃ (k : Nat) (s2 : ByteArray) (b2 : Bool), i = .int .i64 k ∧ Aside0 (k + gn = n) ∧ Aside0 (RS wr rb s2 b2 ∧ I (bytesOf s1) true k wr s2 b2))
      case atStart => exact ⟨0, s1, true, rfl, ⟨by omega⟩, HI2⟩
      case round =>
        obtain ⟨k, s2, b2, rfl, ⟨hgn⟩, hI⟩ := hrel
        have HGN := Lib.hid hgn
        have hkn : k ≤ n := by omega
        clear hgn HI2
        have f1 : wr.cell? ⟨rb, 1, none⟩ = some (.bool b2) := blk_cell hI.out.1 1
        by_cases hk : k < n
        · have p0 : decide ((k : Int) < (n : Int)) = true := decide_eq_true (by omega)
          cases b2 with
          | true =>
            go_wp2_with fail
            go_end0
            refine ⟨rfl, n, s1, false, k, s2, true, HRD.out, hI.out.1, ?_, hkn, .inl rfl⟩
            have h := hI.out.2
            rw [← HBS.out]
            exact h
          | false =>
            go_wp2_with fail
            refine (HSTEP.out (bytesOf s1) true k wr s2 (by omega) hI.out.2 hI.out.1).mono ?_
            rintro e w3 ⟨rfl, s3, b3, hR3, hI3⟩
            have HI3 := Aside0.mk (And.intro hR3 hI3)
            clear hR3 hI3 f1 hI
            go_wp2_with fail
            go_roundg (n - (k + 1))
            case measure => have := HGN.out; omega
            case rel => exact ⟨k + 1, s3, b3, by go_num, ⟨by have := HGN.out; omega⟩, HI3⟩
        · have p0 : decide ((k : Int) < (n : Int)) = false := decide_eq_false (by omega)
          go_wp2_with fail
          go_end0
          refine ⟨rfl, n, s1, false, k, s2, b2, HRD.out, hI.out.1, ?_, hkn, .inr (by omega)⟩
          have h := hI.out.2
          rw [← HBS.out]
          exact h
  · have hd : decide ((most : Int) < (n : Int)) = false := decide_eq_false (by omega)
    obtain rfl : bs = b1 := by rw [HBS.out, decide_eq_false hn2, Bool.or_false]
    cases bs with
    | true =>
      go_wp2_with fail
      go_loopg [7] n (fun gn i wr => ∃ (k : Nat) (s2 : ByteArray) (b2 : Bool), i = .int .i64 k ∧ Aside0 (k + gn = n) ∧ Aside0 (RS wr rb s2 b2 ∧ I (bytesOf s1) true k wr s2 b2))
      case atStart => exact ⟨0, s1, true, rfl, ⟨by omega⟩, HI2⟩
      case round =>
        obtain ⟨k, s2, b2, rfl, ⟨hgn⟩, hI⟩ := hrel
        have HGN := Lib.hid hgn
        have hkn : k ≤ n := by omega
        clear hgn HI2
        have f1 : wr.cell? ⟨rb, 1, none⟩ = some (.bool b2) := blk_cell hI.out.1 1
        by_cases hk : k < n
        · have p0 : decide ((k : Int) < (n : Int)) = true := decide_eq_true (by omega)
          cases b2 with
          | true =>
            go_wp2_with fail
            go_end0
            refine ⟨rfl, n, s1, true, k, s2, true, HRD.out, hI.out.1, ?_, hkn, .inl rfl⟩
            have h := hI.out.2
            rw [← HBS.out]
            exact h
          | false =>
            go_wp2_with fail
            refine (HSTEP.out (bytesOf s1) true k wr s2 (by omega) hI.out.2 hI.out.1).mono ?_
            rintro e w3 ⟨rfl, s3, b3, hR3, hI3⟩
            have HI3 := Aside0.mk (And.intro hR3 hI3)
            clear hR3 hI3 f1 hI
            go_wp2_with fail
            go_roundg (n - (k + 1))
            case measure => have := HGN.out; omega
            case rel => exact ⟨k + 1, s3, b3, by go_num, ⟨by have := HGN.out; omega⟩, HI3⟩
        · have p0 : decide ((k : Int) < (n : Int)) = false := decide_eq_false (by omega)
          go_wp2_with fail
          go_end0
          refine ⟨rfl, n, s1, true, k, s2, b2, HRD.out, hI.out.1, ?_, hkn, .inr (by omega)⟩
          have h := hI.out.2
          rw [← HBS.out]
          exact h
    | false =>
      go_wp2_with fail
      go_loopg [7] n (fun gn i wr => ∃ (k : Nat) (s2 : ByteArray) (b2 : Bool), i = .int .i64 k ∧ Aside0 (k + gn = n) ∧ Aside0 (RS wr rb s2 b2 ∧ I (bytesOf s1) false k wr s2 b2))
      case atStart => exact ⟨0, s1, false, rfl, ⟨by omega⟩, HI2⟩
      case round =>
        obtain ⟨k, s2, b2, rfl, ⟨hgn⟩, hI⟩ := hrel
        have HGN := Lib.hid hgn
        have hkn : k ≤ n := by omega
        clear hgn HI2
        have f1 : wr.cell? ⟨rb, 1, none⟩ = some (.bool b2) := blk_cell hI.out.1 1
        by_cases hk : k < n
        · have p0 : decide ((k : Int) < (n : Int)) = true := decide_eq_true (by omega)
          cases b2 with
          | true =>
            go_wp2_with fail
            go_end0
            refine ⟨rfl, n, s1, false, k, s2, true, HRD.out, hI.out.1, ?_, hkn, .inl rfl⟩
            have h := hI.out.2
            rw [← HBS.out]
            exact h
          | false =>
            go_wp2_with fail
            refine (HSTEP.out (bytesOf s1) false k wr s2 (by omega) hI.out.2 hI.out.1).mono ?_
            rintro e w3 ⟨rfl, s3, b3, hR3, hI3⟩
            have HI3 := Aside0.mk (And.intro hR3 hI3)
            clear hR3 hI3 f1 hI
            go_wp2_with fail
            go_roundg (n - (k + 1))
            case measure => have := HGN.out; omega
            case rel => exact ⟨k + 1, s3, b3, by go_num, ⟨by have := HGN.out; omega⟩, HI3⟩
        · have p0 : decide ((k : Int) < (n : Int)) = false := decide_eq_false (by omega)
          go_wp2_with fail
          go_end0
          refine ⟨rfl, n, s1, false, k, s2, b2, HRD.out, hI.out.1, ?_, hkn, .inr (by omega)⟩
          have h := hI.out.2
          rw [← HBS.out]
          exact h
set_option maxRecDepth 100000 in
set_option maxHeartbeats 4000000 in
theorem many91_any (most : Nat) (hmost : most ≤ 1000) (caps : Array Value) (rb : Nat) (s : ByteArray) (b : Bool) (w : World) (h : RS w rb s b) (hs : s.size ≤ 140737488355328) (I : List Int → Bool → Nat → World → ByteArray → Bool → Prop)
    (h0 : ∀ w' s1 b1, Mod w w' (fun i => i = rb) → RS w' rb s1 b1 → s1.size ≤ s.size → I (bytesOf s1) b1 0 w' s1 b1)
    (hstep : ∀ l0 b0 k w1 s1, k < 268435456 → I l0 b0 k w1 s1 false → RS w1 rb s1 false → Calls Try.prog 91 caps w1 (fun e w2 => e = .returned (.tuple #[]) ∧ ∃ s2 b2, RS w2 rb s2 b2 ∧ I l0 b0 (k + 1) w2 s2 b2)) :
    Calls Try.prog 48 #[.pointer (some ⟨rb, 0, none⟩), .int .i64 most, .func (.func 91) #[] caps] w (ManyOut rb most I s b) := by
  have H0 := Lib.hid h0
  have HSTEP := Lib.hid hstep
  clear h0 hstep
  go_enter Try.func48, Try.ntmps48
  go_wp2_with fail
  refine (rnum_any rb s b w h hs).mono ?_
  rintro e w1 ⟨n, s1, b1, rfl, hR1, hM1, hn, hsz, hrd⟩
  have HRD := Lib.hid hrd
  have f1 : w1.cell? ⟨rb, 1, none⟩ = some (.bool b1) := blk_cell hR1 1
  have k1 : w1.frozen? ⟨rb, 1, none⟩ = false := blk_frozen hR1 1
  obtain ⟨bs, hbs⟩ : ∃ c, c = (b1 || decide (most < n)) := ⟨_, rfl⟩
  have HBS := Lib.hid hbs
  have hR2 := hR1.setb bs
  have hI2 := H0.out _ s1 bs (hM1.trans (mod_setCell w1 rb 1 (.bool bs))) hR2 hsz
  have HI2 := Aside0.mk (And.intro hR2 hI2)
  clear hR1 hM1 hrd h hR2 hI2 hbs H0
  by_cases hn2 : most < n
  · have hd : decide ((most : Int) < (n : Int)) = true := decide_eq_true (by omega)
    obtain rfl : bs = true := by rw [HBS.out, decide_eq_true hn2, Bool.or_true]
    cases b1 with
    | true =>
      go_wp2_with fail
      go_loopg [7] n (fun gn i wr => ∃ (k : Nat) (s2 : ByteArray) (b2 : Bool), i = .int .i64 k ∧ Aside0 (k + gn = n) ∧ Aside0 (RS wr rb s2 b2 ∧ I (bytesOf s1) true k wr s2 b2))
      case atStart => exact ⟨0, s1, true, rfl, ⟨by omega⟩, HI2⟩
      case round =>
        obtain ⟨k, s2, b2, rfl, ⟨hgn⟩, hI⟩ := hrel
        have HGN := Lib.hid hgn
        have hkn : k ≤ n := by omega
        clear hgn HI2
        have f1 : wr.cell? ⟨rb, 1, none⟩ = some (.bool b2) := blk_cell hI.out.1 1
        by_cases hk : k < n
        · have p0 : decide ((k : Int) < (n : Int)) = true := decide_eq_true (by omega)
          cases b2 with
          | true =>
            go_wp2_with fail
            go_end0
            refine ⟨rfl, n, s1, true, k, s2, true, HRD.out, hI.out.1, ?_, hkn, .inl rfl⟩
            have h := hI.out.2
            rw [← HBS.out]
            exact h
          | false =>
            go_wp2_with fail
            refine (HSTEP.out (bytesOf s1) true k wr s2 (by omega) hI.out.2 hI.out.1).mono ?_
            rintro e w3 ⟨rfl, s3, b3, hR3, hI3⟩
            have HI3 := Aside0.mk (And.intro hR3 hI3)
            clear hR3 hI3 f1 hI
            go_wp2_with fail
            go_roundg (n - (k + 1))
            case measure => have := HGN.out; omega
            case rel => exact ⟨k + 1, s3, b3, by go_num, ⟨by have := HGN.out; omega⟩, HI3⟩
        · have p0 : decide ((k : Int) < (n : Int)) = false := decide_eq_false (by omega)
          go_wp2_with fail
          go_end0
          refine ⟨rfl, n, s1, true, k, s2, b2, HRD.out, hI.out.1, ?_, hkn, .inr (by omega)⟩
          have h := hI.out.2
          rw [← HBS.out]
          exact h
    | false =>
      go_wp2_with fail
      go_loopg [7] n (fun gn i wr => ∃ (k : Nat) (s2 : ByteArray) (b2 : Bool), i = .int .i64 k ∧ Aside0 (k + gn = n) ∧ Aside0 (RS wr rb s2 b2 ∧ I (bytesOf s1) true k wr s2 b2))
      case atStart => exact ⟨0, s1, true, rfl, ⟨by omega⟩, HI2⟩
      case round =>
        obtain ⟨k, s2, b2, rfl, ⟨hgn⟩, hI⟩ := hrel
        have HGN := Lib.hid hgn
        have hkn : k ≤ n := by omega
        clear hgn HI2
        have f1 : wr.cell? ⟨rb, 1, none⟩ = some (.bool b2) := blk_cell hI.out.1 1
        by_cases hk : k < n
        · have p0 : decide ((k : Int) < (n : Int)) = true := decide_eq_true (by omega)
          cases b2 with
          | true =>
            go_wp2_with fail
            go_end0
            refine ⟨rfl, n, s1, false, k, s2, true, HRD.out, hI.out.1, ?_, hkn, .inl rfl⟩
            have h := hI.out.2
            rw [← HBS.out]
            exact h
          | false =>
            go_wp2_with fail
            refine (HSTEP.out (bytesOf s1) true k wr s2 (by omega) hI.out.2 hI.out.1).mono ?_
            rintro e w3 ⟨rfl, s3, b3, hR3, hI3⟩
            have HI3 := Aside0.mk (And.intro hR3 hI3)
            clear hR3 hI3 f1 hI
            go_wp2_with fail
            go_roundg (n - (k + 1))
            case measure => have := HGN.out; omega
            case rel => exact ⟨k + 1, s3, b3, by go_num, ⟨by have := HGN.out; omega⟩, HI3⟩
        · have p0 : decide ((k : Int) < (n : Int)) = false := decide_eq_false (by omega)
          go_wp2_with fail
          go_end0
          refine ⟨rfl, n, s1, false, k, s2, b2, HRD.out, hI.out.1, ?_, hkn, .inr (by omega)⟩
          have h := hI.out.2
          rw [← HBS.out]
          exact h
  · have hd : decide ((most : Int) < (n : Int)) = false := decide_eq_false (by omega)
    obtain rfl : bs = b1 := by rw [HBS.out, decide_eq_false hn2, Bool.or_false]
    cases bs with
    | true =>
      go_wp2_with fail
      go_loopg [7] n (fun gn i wr => ∃ (k : Nat) (s2 : ByteArray) (b2 : Bool), i = .int .i64 k ∧ Aside0 (k + gn = n) ∧ Aside0 (RS wr rb s2 b2 ∧ I (bytesOf s1) true k wr s2 b2))
      case atStart => exact ⟨0, s1, true, rfl, ⟨by omega⟩, HI2⟩
      case round =>
        obtain ⟨k, s2, b2, rfl, ⟨hgn⟩, hI⟩ := hrel
        have HGN := Lib.hid hgn
        have hkn : k ≤ n := by omega
        clear hgn HI2
        have f1 : wr.cell? ⟨rb, 1, none⟩ = some (.bool b2) := blk_cell hI.out.1 1
        by_cases hk : k < n
        · have p0 : decide ((k : Int) < (n : Int)) = true := decide_eq_true (by omega)
          cases b2 with
          | true =>
            go_wp2_with fail
            go_end0
            refine ⟨rfl, n, s1, true, k, s2, true, HRD.out, hI.out.1, ?_, hkn, .inl rfl⟩
            have h := hI.out.2
            rw [← HBS.out]
            exact h
          | false =>
            go_wp2_with fail
            refine (HSTEP.out (bytesOf s1) true k wr s2 (by omega) hI.out.2 hI.out.1).mono ?_
            rintro e w3 ⟨rfl, s3, b3, hR3, hI3⟩
            have HI3 := Aside0.mk (And.intro hR3 hI3)
            clear hR3 hI3 f1 hI
            go_wp2_with fail
            go_roundg (n - (k + 1))
            case measure => have := HGN.out; omega
            case rel => exact ⟨k + 1, s3, b3, by go_num, ⟨by have := HGN.out; omega⟩, HI3⟩
        · have p0 : decide ((k : Int) < (n : Int)) = false := decide_eq_false (by omega)
          go_wp2_with fail
          go_end0
          refine ⟨rfl, n, s1, true, k, s2, b2, HRD.out, hI.out.1, ?_, hkn, .inr (by omega)⟩
          have h := hI.out.2
          rw [← HBS.out]
          exact h
    | false =>
      go_wp2_with fail
      go_loopg [7] n (fun gn i wr => ∃ (k : Nat) (s2 : ByteArray) (b2 : Bool), i = .int .i64 k ∧ Aside0 (k + gn = n) ∧ Aside0 (RS wr rb s2 b2 ∧ I (bytesOf s1) false k wr s2 b2))
      case atStart => exact ⟨0, s1, false, rfl, ⟨by omega⟩, HI2⟩
      case round =>
        obtain ⟨k, s2, b2, rfl, ⟨hgn⟩, hI⟩ := hrel
        have HGN := Lib.hid hgn
        have hkn : k ≤ n := by omega
        clear hgn HI2
        have f1 : wr.cell? ⟨rb, 1, none⟩ = some (.bool b2) := blk_cell hI.out.1 1
        by_cases hk : k < n
        · have p0 : decide ((k : Int) < (n : Int)) = true := decide_eq_true (by omega)
          cases b2 with
          | true =>
            go_wp2_with fail
            go_end0
            refine ⟨rfl, n, s1, false, k, s2, true, HRD.out, hI.out.1, ?_, hkn, .inl rfl⟩
            have h := hI.out.2
            rw [← HBS.out]
            exact h
          | false =>
            go_wp2_with fail
            refine (HSTEP.out (bytesOf s1) false k wr s2 (by omega) hI.out.2 hI.out.1).mono ?_
            rintro e w3 ⟨rfl, s3, b3, hR3, hI3⟩
            have HI3 := Aside0.mk (And.intro hR3 hI3)
            clear hR3 hI3 f1 hI
            go_wp2_with fail
            go_roundg (n - (k + 1))
            case measure => have := HGN.out; omega
            case rel => exact ⟨k + 1, s3, b3, by go_num, ⟨by have := HGN.out; omega⟩, HI3⟩
        · have p0 : decide ((k : Int) < (n : Int)) = false := decide_eq_false (by omega)
          go_wp2_with fail
          go_end0
          refine ⟨rfl, n, s1, false, k, s2, b2, HRD.out, hI.out.1, ?_, hkn, .inr (by omega)⟩
          have h := hI.out.2
          rw [← HBS.out]
          exact h
set_option maxRecDepth 100000 in
set_option maxHeartbeats 4000000 in
theorem many92_any (most : Nat) (hmost : most ≤ 1000) (caps : Array Value) (rb : Nat) (s : ByteArray) (b : Bool) (w : World) (h : RS w rb s b) (hs : s.size ≤ 140737488355328) (I : List Int → Bool → Nat → World → ByteArray → Bool → Prop)
    (h0 : ∀ w' s1 b1, Mod w w' (fun i => i = rb) → RS w' rb s1 b1 → s1.size ≤ s.size → I (bytesOf s1) b1 0 w' s1 b1)
    (hstep : ∀ l0 b0 k w1 s1, k < 268435456 → I l0 b0 k w1 s1 false → RS w1 rb s1 false → Calls Try.prog 92 caps w1 (fun e w2 => e = .returned (.tuple #[]) ∧ ∃ s2 b2, RS w2 rb s2 b2 ∧ I l0 b0 (k + 1) w2 s2 b2)) :
    Calls Try.prog 48 #[.pointer (some ⟨rb, 0, none⟩), .int .i64 most, .func (.func 92) #[] caps] w (ManyOut rb most I s b) := by
  have H0 := Lib.hid h0
  have HSTEP := Lib.hid hstep
  clear h0 hstep
  go_enter Try.func48, Try.ntmps48
  go_wp2_with fail
  refine (rnum_any rb s b w h hs).mono ?_
  rintro e w1 ⟨n, s1, b1, rfl, hR1, hM1, hn, hsz, hrd⟩
  have HRD := Lib.hid hrd
  have f1 : w1.cell? ⟨rb, 1, none⟩ = some (.bool b1) := blk_cell hR1 1
  have k1 : w1.frozen? ⟨rb, 1, none⟩ = false := blk_frozen hR1 1
  obtain ⟨bs, hbs⟩ : ∃ c, c = (b1 || decide (most < n)) := ⟨_, rfl⟩
  have HBS := Lib.hid hbs
  have hR2 := hR1.setb bs
  have hI2 := H0.out _ s1 bs (hM1.trans (mod_setCell w1 rb 1 (.bool bs))) hR2 hsz
  have HI2 := Aside0.mk (And.intro hR2 hI2)
  clear hR1 hM1 hrd h hR2 hI2 hbs H0
  by_cases hn2 : most < n
  · have hd : decide ((most : Int) < (n : Int)) = true := decide_eq_true (by omega)
    obtain rfl : bs = true := by rw [HBS.out, decide_eq_true hn2, Bool.or_true]
    cases b1 with
    | true =>
      go_wp2_with fail
      go_loopg [7] n (fun gn i wr => ∃ (k : Nat) (s2 : ByteArray) (b2 : Bool), i = .int .i64 k ∧ Aside0 (k + gn = n) ∧ Aside0 (RS wr rb s2 b2 ∧ I (bytesOf s1) true k wr s2 b2))
      case atStart => exact ⟨0, s1, true, rfl, ⟨by omega⟩, HI2⟩
      case round =>
        obtain ⟨k, s2, b2, rfl, ⟨hgn⟩, hI⟩ := hrel
        have HGN := Lib.hid hgn
        have hkn : k ≤ n := by omega
        clear hgn HI2
        have f1 : wr.cell? ⟨rb, 1, none⟩ = some (.bool b2) := blk_cell hI.out.1 1
        by_cases hk : k < n
        · have p0 : decide ((k : Int) < (n : Int)) = true := decide_eq_true (by omega)
          cases b2 with
          | true =>
            go_wp2_with fail
            go_end0
            refine ⟨rfl, n, s1, true, k, s2, true, HRD.out, hI.out.1, ?_, hkn, .inl rfl⟩
            have h := hI.out.2
            rw [← HBS.out]
            exact h
          | false =>
            go_wp2_with fail
            refine (HSTEP.out (bytesOf s1) true k wr s2 (by omega) hI.out.2 hI.out.1).mono ?_
            rintro e w3 ⟨rfl, s3, b3, hR3, hI3⟩
            have HI3 := Aside0.mk (And.intro hR3 hI3)
            clear hR3 hI3 f1 hI
            go_wp2_with fail
            go_roundg (n - (k + 1))
            case measure => have := HGN.out; omega
            case rel => exact ⟨k + 1, s3, b3, by go_num, ⟨by have := HGN.out; omega⟩, HI3⟩
        · have p0 : decide ((k : Int) < (n : Int)) = false := decide_eq_false (by omega)
          go_wp2_with fail
          go_end0
          refine ⟨rfl, n, s1, true, k, s2, b2, HRD.out, hI.out.1, ?_, hkn, .inr (by omega)⟩
          have h := hI.out.2
          rw [← HBS.out]
          exact h
    | false =>
      go_wp2_with fail
      go_loopg [7] n (fun gn i wr => ∃ (k : Nat) (s2 : ByteArray) (b2 : Bool), i = .int .i64 k ∧ Aside0 (k + gn = n) ∧ Aside0 (RS wr rb s2 b2 ∧ I (bytesOf s1) true k wr s2 b2))
      case atStart => exact ⟨0, s1, true, rfl, ⟨by omega⟩, HI2⟩
      case round =>
        obtain ⟨k, s2, b2, rfl, ⟨hgn⟩, hI⟩ := hrel
        have HGN := Lib.hid hgn
        have hkn : k ≤ n := by omega
        clear hgn HI2
        have f1 : wr.cell? ⟨rb, 1, none⟩ = some (.bool b2) := blk_cell hI.out.1 1
        by_cases hk : k < n
        · have p0 : decide ((k : Int) < (n : Int)) = true := decide_eq_true (by omega)
          cases b2 with
          | true =>
            go_wp2_with fail
            go_end0
            refine ⟨rfl, n, s1, false, k, s2, true, HRD.out, hI.out.1, ?_, hkn, .inl rfl⟩
            have h := hI.out.2
            rw [← HBS.out]
            exact h
          | false =>
            go_wp2_with fail
            refine (HSTEP.out (bytesOf s1) true k wr s2 (by omega) hI.out.2 hI.out.1).mono ?_
            rintro e w3 ⟨rfl, s3, b3, hR3, hI3⟩
            have HI3 := Aside0.mk (And.intro hR3 hI3)
            clear hR3 hI3 f1 hI
            go_wp2_with fail
            go_roundg (n - (k + 1))
            case measure => have := HGN.out; omega
            case rel => exact ⟨k + 1, s3, b3, by go_num, ⟨by have := HGN.out; omega⟩, HI3⟩
        · have p0 : decide ((k : Int) < (n : Int)) = false := decide_eq_false (by omega)
          go_wp2_with fail
          go_end0
          refine ⟨rfl, n, s1, false, k, s2, b2, HRD.out, hI.out.1, ?_, hkn, .inr (by omega)⟩
          have h := hI.out.2
          rw [← HBS.out]
          exact h
  · have hd : decide ((most : Int) < (n : Int)) = false := decide_eq_false (by omega)
    obtain rfl : bs = b1 := by rw [HBS.out, decide_eq_false hn2, Bool.or_false]
    cases bs with
    | true =>
      go_wp2_with fail
      go_loopg [7] n (fun gn i wr => ∃ (k : Nat) (s2 : ByteArray) (b2 : Bool), i = .int .i64 k ∧ Aside0 (k + gn = n) ∧ Aside0 (RS wr rb s2 b2 ∧ I (bytesOf s1) true k wr s2 b2))
      case atStart => exact ⟨0, s1, true, rfl, ⟨by omega⟩, HI2⟩
      case round =>
        obtain ⟨k, s2, b2, rfl, ⟨hgn⟩, hI⟩ := hrel
        have HGN := Lib.hid hgn
        have hkn : k ≤ n := by omega
        clear hgn HI2
        have f1 : wr.cell? ⟨rb, 1, none⟩ = some (.bool b2) := blk_cell hI.out.1 1
        by_cases hk : k < n
        · have p0 : decide ((k : Int) < (n : Int)) = true := decide_eq_true (by omega)
          cases b2 with
          | true =>
            go_wp2_with fail
            go_end0
            refine ⟨rfl, n, s1, true, k, s2, true, HRD.out, hI.out.1, ?_, hkn, .inl rfl⟩
            have h := hI.out.2
            rw [← HBS.out]
            exact h
          | false =>
            go_wp2_with fail
            refine (HSTEP.out (bytesOf s1) true k wr s2 (by omega) hI.out.2 hI.out.1).mono ?_
            rintro e w3 ⟨rfl, s3, b3, hR3, hI3⟩
            have HI3 := Aside0.mk (And.intro hR3 hI3)
            clear hR3 hI3 f1 hI
            go_wp2_with fail
            go_roundg (n - (k + 1))
            case measure => have := HGN.out; omega
            case rel => exact ⟨k + 1, s3, b3, by go_num, ⟨by have := HGN.out; omega⟩, HI3⟩
        · have p0 : decide ((k : Int) < (n : Int)) = false := decide_eq_false (by omega)
          go_wp2_with fail
          go_end0
          refine ⟨rfl, n, s1, true, k, s2, b2, HRD.out, hI.out.1, ?_, hkn, .inr (by omega)⟩
          have h := hI.out.2
          rw [← HBS.out]
          exact h
    | false =>
      go_wp2_with fail
      go_loopg [7] n (fun gn i wr => ∃ (k : Nat) (s2 : ByteArray) (b2 : Bool), i = .int .i64 k ∧ Aside0 (k + gn = n) ∧ Aside0 (RS wr rb s2 b2 ∧ I (bytesOf s1) false k wr s2 b2))
      case atStart => exact ⟨0, s1, false, rfl, ⟨by omega⟩, HI2⟩
      case round =>
        obtain ⟨k, s2, b2, rfl, ⟨hgn⟩, hI⟩ := hrel
        have HGN := Lib.hid hgn
        have hkn : k ≤ n := by omega
        clear hgn HI2
        have f1 : wr.cell? ⟨rb, 1, none⟩ = some (.bool b2) := blk_cell hI.out.1 1
        by_cases hk : k < n
        · have p0 : decide ((k : Int) < (n : Int)) = true := decide_eq_true (by omega)
          cases b2 with
          | true =>
            go_wp2_with fail
            go_end0
            refine ⟨rfl, n, s1, false, k, s2, true, HRD.out, hI.out.1, ?_, hkn, .inl rfl⟩
            have h := hI.out.2
            rw [← HBS.out]
            exact h
          | false =>
            go_wp2_with fail
            refine (HSTEP.out (bytesOf s1) false k wr s2 (by omega) hI.out.2 hI.out.1).mono ?_
            rintro e w3 ⟨rfl, s3, b3, hR3, hI3⟩
            have HI3 := Aside0.mk (And.intro hR3 hI3)
            clear hR3 hI3 f1 hI
            go_wp2_with fail
            go_roundg (n - (k + 1))
            case measure => have := HGN.out; omega
            case rel => exact ⟨k + 1, s3, b3, by go_num, ⟨by have := HGN.out; omega⟩, HI3⟩
        · have p0 : decide ((k : Int) < (n : Int)) = false := decide_eq_false (by omega)
          go_wp2_with fail
          go_end0
          refine ⟨rfl, n, s1, false, k, s2, b2, HRD.out, hI.out.1, ?_, hkn, .inr (by omega)⟩
          have h := hI.out.2
          rw [← HBS.out]
          exact h
set_option maxRecDepth 100000 in
set_option maxHeartbeats 4000000 in
theorem many49_any (most : Nat) (hmost : most ≤ 1000) (caps : Array Value) (rb : Nat) (s : ByteArray) (b : Bool) (w : World) (h : RS w rb s b) (hs : s.size ≤ 140737488355328) (I : List Int → Bool → Nat → World → ByteArray → Bool → Prop)
    (h0 : ∀ w' s1 b1, Mod w w' (fun i => i = rb) → RS w' rb s1 b1 → s1.size ≤ s.size → I (bytesOf s1) b1 0 w' s1 b1)
    (hstep : ∀ l0 b0 k w1 s1, k < 268435456 → I l0 b0 k w1 s1 false → RS w1 rb s1 false → Calls Try.prog 49 caps w1 (fun e w2 => e = .returned (.tuple #[]) ∧ ∃ s2 b2, RS w2 rb s2 b2 ∧ I l0 b0 (k + 1) w2 s2 b2)) :
    Calls Try.prog 48 #[.pointer (some ⟨rb, 0, none⟩), .int .i64 most, .func (.func 49) #[] caps] w (ManyOut rb most I s b) := by
  have H0 := Lib.hid h0
  have HSTEP := Lib.hid hstep
  clear h0 hstep
  go_enter Try.func48, Try.ntmps48
  go_wp2_with fail
  refine (rnum_any rb s b w h hs).mono ?_
  rintro e w1 ⟨n, s1, b1, rfl, hR1, hM1, hn, hsz, hrd⟩
  have HRD := Lib.hid hrd
  have f1 : w1.cell? ⟨rb, 1, none⟩ = some (.bool b1) := blk_cell hR1 1
  have k1 : w1.frozen? ⟨rb, 1, none⟩ = false := blk_frozen hR1 1
  obtain ⟨bs, hbs⟩ : ∃ c, c = (b1 || decide (most < n)) := ⟨_, rfl⟩
  have HBS := Lib.hid hbs
  have hR2 := hR1.setb bs
  have hI2 := H0.out _ s1 bs (hM1.trans (mod_setCell w1 rb 1 (.bool bs))) hR2 hsz
  have HI2 := Aside0.mk (And.intro hR2 hI2)
  clear hR1 hM1 hrd h hR2 hI2 hbs H0
  by_cases hn2 : most < n
  · have hd : decide ((most : Int) < (n : Int)) = true := decide_eq_true (by omega)
    obtain rfl : bs = true := by rw [HBS.out, decide_eq_true hn2, Bool.or_true]
    cases b1 with
    | true =>
      go_wp2_with fail
      go_loopg [7] n (fun gn i wr => ∃ (k : Nat) (s2 : ByteArray) (b2 : Bool), i = .int .i64 k ∧ Aside0 (k + gn = n) ∧ Aside0 (RS wr rb s2 b2 ∧ I (bytesOf s1) true k wr s2 b2))
      case atStart => exact ⟨0, s1, true, rfl, ⟨by omega⟩, HI2⟩
      case round =>
        obtain ⟨k, s2, b2, rfl, ⟨hgn⟩, hI⟩ := hrel
        have HGN := Lib.hid hgn
        have hkn : k ≤ n := by omega
        clear hgn HI2
        have f1 : wr.cell? ⟨rb, 1, none⟩ = some (.bool b2) := blk_cell hI.out.1 1
        by_cases hk : k < n
        · have p0 : decide ((k : Int) < (n : Int)) = true := decide_eq_true (by omega)
          cases b2 with
          | true =>
            go_wp2_with fail
            go_end0
            refine ⟨rfl, n, s1, true, k, s2, true, HRD.out, hI.out.1, ?_, hkn, .inl rfl⟩
            have h := hI.out.2
            rw [← HBS.out]
            exact h
          | false =>
            go_wp2_with fail
            refine (HSTEP.out (bytesOf s1) true k wr s2 (by omega) hI.out.2 hI.out.1).mono ?_
            rintro e w3 ⟨rfl, s3, b3, hR3, hI3⟩
            have HI3 := Aside0.mk (And.intro hR3 hI3)
            clear hR3 hI3 f1 hI
            go_wp2_with fail
            go_roundg (n - (k + 1))
            case measure => have := HGN.out; omega
            case rel => exact ⟨k + 1, s3, b3, by go_num, ⟨by have := HGN.out; omega⟩, HI3⟩
        · have p0 : decide ((k : Int) < (n : Int)) = false := decide_eq_false (by omega)
          go_wp2_with fail
          go_end0
          refine ⟨rfl, n, s1, true, k, s2, b2, HRD.out, hI.out.1, ?_, hkn, .inr (by omega)⟩
          have h := hI.out.2
          rw [← HBS.out]
          exact h
    | false =>
      go_wp2_with fail
      go_loopg [7] n (fun gn i wr => ∃ (k : Nat) (s2 : ByteArray) (b2 : Bool), i = .int .i64 k ∧ Aside0 (k + gn = n) ∧ Aside0 (RS wr rb s2 b2 ∧ I (bytesOf s1) true k wr s2 b2))
      case atStart => exact ⟨0, s1, true, rfl, ⟨by omega⟩, HI2⟩
      case round =>
        obtain ⟨k, s2, b2, rfl, ⟨hgn⟩, hI⟩ := hrel
        have HGN := Lib.hid hgn
        have hkn : k ≤ n := by omega
        clear hgn HI2
        have f1 : wr.cell? ⟨rb, 1, none⟩ = some (.bool b2) := blk_cell hI.out.1 1
        by_cases hk : k < n
        · have p0 : decide ((k : Int) < (n : Int)) = true := decide_eq_true (by omega)
          cases b2 with
          | true =>
            go_wp2_with fail
            go_end0
            refine ⟨rfl, n, s1, false, k, s2, true, HRD.out, hI.out.1, ?_, hkn, .inl rfl⟩
            have h := hI.out.2
            rw [← HBS.out]
            exact h
          | false =>
            go_wp2_with fail
            refine (HSTEP.out (bytesOf s1) true k wr s2 (by omega) hI.out.2 hI.out.1).mono ?_
            rintro e w3 ⟨rfl, s3, b3, hR3, hI3⟩
            have HI3 := Aside0.mk (And.intro hR3 hI3)
            clear hR3 hI3 f1 hI
            go_wp2_with fail
            go_roundg (n - (k + 1))
            case measure => have := HGN.out; omega
            case rel => exact ⟨k + 1, s3, b3, by go_num, ⟨by have := HGN.out; omega⟩, HI3⟩
        · have p0 : decide ((k : Int) < (n : Int)) = false := decide_eq_false (by omega)
          go_wp2_with fail
          go_end0
          refine ⟨rfl, n, s1, false, k, s2, b2, HRD.out, hI.out.1, ?_, hkn, .inr (by omega)⟩
          have h := hI.out.2
          rw [← HBS.out]
          exact h
  · have hd : decide ((most : Int) < (n : Int)) = false := decide_eq_false (by omega)
    obtain rfl : bs = b1 := by rw [HBS.out, decide_eq_false hn2, Bool.or_false]
    cases bs with
    | true =>
      go_wp2_with fail
      go_loopg [7] n (fun gn i wr => ∃ (k : Nat) (s2 : ByteArray) (b2 : Bool), i = .int .i64 k ∧ Aside0 (k + gn = n) ∧ Aside0 (RS wr rb s2 b2 ∧ I (bytesOf s1) true k wr s2 b2))
      case atStart => exact ⟨0, s1, true, rfl, ⟨by omega⟩, HI2⟩
      case round =>
        obtain ⟨k, s2, b2, rfl, ⟨hgn⟩, hI⟩ := hrel
        have HGN := Lib.hid hgn
        have hkn : k ≤ n := by omega
        clear hgn HI2
        have f1 : wr.cell? ⟨rb, 1, none⟩ = some (.bool b2) := blk_cell hI.out.1 1
        by_cases hk : k < n
        · have p0 : decide ((k : Int) < (n : Int)) = true := decide_eq_true (by omega)
          cases b2 with
          | true =>
            go_wp2_with fail
            go_end0
            refine ⟨rfl, n, s1, true, k, s2, true, HRD.out, hI.out.1, ?_, hkn, .inl rfl⟩
            have h := hI.out.2
            rw [← HBS.out]
            exact h
          | false =>
            go_wp2_with fail
            refine (HSTEP.out (bytesOf s1) true k wr s2 (by omega) hI.out.2 hI.out.1).mono ?_
            rintro e w3 ⟨rfl, s3, b3, hR3, hI3⟩
            have HI3 := Aside0.mk (And.intro hR3 hI3)
            clear hR3 hI3 f1 hI
            go_wp2_with fail
            go_roundg (n - (k + 1))
            case measure => have := HGN.out; omega
            case rel => exact ⟨k + 1, s3, b3, by go_num, ⟨by have := HGN.out; omega⟩, HI3⟩
        · have p0 : decide ((k : Int) < (n : Int)) = false := decide_eq_false (by omega)
          go_wp2_with fail
          go_end0
          refine ⟨rfl, n, s1, true, k, s2, b2, HRD.out, hI.out.1, ?_, hkn, .inr (by omega)⟩
          have h := hI.out.2
          rw [← HBS.out]
          exact h
    | false =>
      go_wp2_with fail
      go_loopg [7] n (fun gn i wr => ∃ (k : Nat) (s2 : ByteArray) (b2 : Bool), i = .int .i64 k ∧ Aside0 (k + gn = n) ∧ Aside0 (RS wr rb s2 b2 ∧ I (bytesOf s1) false k wr s2 b2))
      case atStart => exact ⟨0, s1, false, rfl, ⟨by omega⟩, HI2⟩
      case round =>
        obtain ⟨k, s2, b2, rfl, ⟨hgn⟩, hI⟩ := hrel
        have HGN := Lib.hid hgn
        have hkn : k ≤ n := by omega
        clear hgn HI2
        have f1 : wr.cell? ⟨rb, 1, none⟩ = some (.bool b2) := blk_cell hI.out.1 1
        by_cases hk : k < n
        · have p0 : decide ((k : Int) < (n : Int)) = true := decide_eq_true (by omega)
          cases b2 with
          | true =>
            go_wp2_with fail
            go_end0
            refine ⟨rfl, n, s1, false, k, s2, true, HRD.out, hI.out.1, ?_, hkn, .inl rfl⟩
            have h := hI.out.2
            rw [← HBS.out]
            exact h
          | false =>
            go_wp2_with fail
            refine (HSTEP.out (bytesOf s1) false k wr s2 (by omega) hI.out.2 hI.out.1).mono ?_
            rintro e w3 ⟨rfl, s3, b3, hR3, hI3⟩
            have HI3 := Aside0.mk (And.intro hR3 hI3)
            clear hR3 hI3 f1 hI
            go_wp2_with fail
            go_roundg (n - (k + 1))
            case measure => have := HGN.out; omega
            case rel => exact ⟨k + 1, s3, b3, by go_num, ⟨by have := HGN.out; omega⟩, HI3⟩
        · have p0 : decide ((k : Int) < (n : Int)) = false := decide_eq_false (by omega)
          go_wp2_with fail
          go_end0
          refine ⟨rfl, n, s1, false, k, s2, b2, HRD.out, hI.out.1, ?_, hkn, .inr (by omega)⟩
          have h := hI.out.2
          rw [← HBS.out]
          exact h
set_option maxRecDepth 100000 in
set_option maxHeartbeats 4000000 in
theorem many51_any (most : Nat) (hmost : most ≤ 1000) (caps : Array Value) (rb : Nat) (s : ByteArray) (b : Bool) (w : World) (h : RS w rb s b) (hs : s.size ≤ 140737488355328) (I : List Int → Bool → Nat → World → ByteArray → Bool → Prop)
    (h0 : ∀ w' s1 b1, Mod w w' (fun i => i = rb) → RS w' rb s1 b1 → s1.size ≤ s.size → I (bytesOf s1) b1 0 w' s1 b1)
    (hstep : ∀ l0 b0 k w1 s1, k < 268435456 → I l0 b0 k w1 s1 false → RS w1 rb s1 false → Calls Try.prog 51 caps w1 (fun e w2 => e = .returned (.tuple #[]) ∧ ∃ s2 b2, RS w2 rb s2 b2 ∧ I l0 b0 (k + 1) w2 s2 b2)) :
    Calls Try.prog 48 #[.pointer (some ⟨rb, 0, none⟩), .int .i64 most, .func (.func 51) #[] caps] w (ManyOut rb most I s b) := by
  have H0 := Lib.hid h0
  have HSTEP := Lib.hid hstep
  clear h0 hstep
  go_enter Try.func48, Try.ntmps48
  go_wp2_with fail
  refine (rnum_any rb s b w h hs).mono ?_
  rintro e w1 ⟨n, s1, b1, rfl, hR1, hM1, hn, hsz, hrd⟩
  have HRD := Lib.hid hrd
  have f1 : w1.cell? ⟨rb, 1, none⟩ = some (.bool b1) := blk_cell hR1 1
  have k1 : w1.frozen? ⟨rb, 1, none⟩ = false := blk_frozen hR1 1
  obtain ⟨bs, hbs⟩ : ∃ c, c = (b1 || decide (most < n)) := ⟨_, rfl⟩
  have HBS := Lib.hid hbs
  have hR2 := hR1.setb bs
  have hI2 := H0.out _ s1 bs (hM1.trans (mod_setCell w1 rb 1 (.bool bs))) hR2 hsz
  have HI2 := Aside0.mk (And.intro hR2 hI2)
  clear hR1 hM1 hrd h hR2 hI2 hbs H0
  by_cases hn2 : most < n
  · have hd : decide ((most : Int) < (n : Int)) = true := decide_eq_true (by omega)
    obtain rfl : bs = true := by rw [HBS.out, decide_eq_true hn2, Bool.or_true]
    cases b1 with
    | true =>
      go_wp2_with fail
      go_loopg [7] n (fun gn i wr => ∃ (k : Nat) (s2 : ByteArray) (b2 : Bool), i = .int .i64 k ∧ Aside0 (k + gn = n) ∧ Aside0 (RS wr rb s2 b2 ∧ I (bytesOf s1) true k wr s2 b2))
      case atStart => exact ⟨0, s1, true, rfl, ⟨by omega⟩, HI2⟩
      case round =>
        obtain ⟨k, s2, b2, rfl, ⟨hgn⟩, hI⟩ := hrel
        have HGN := Lib.hid hgn
        have hkn : k ≤ n := by omega
        clear hgn HI2
        have f1 : wr.cell? ⟨rb, 1, none⟩ = some (.bool b2) := blk_cell hI.out.1 1
        by_cases hk : k < n
        · have p0 : decide ((k : Int) < (n : Int)) = true := decide_eq_true (by omega)
          cases b2 with
          | true =>
            go_wp2_with fail
            go_end0
            refine ⟨rfl, n, s1, true, k, s2, true, HRD.out, hI.out.1, ?_, hkn, .inl rfl⟩
            have h := hI.out.2
            rw [← HBS.out]
            exact h
          | false =>
            go_wp2_with fail
            refine (HSTEP.out (bytesOf s1) true k wr s2 (by omega) hI.out.2 hI.out.1).mono ?_
            rintro e w3 ⟨rfl, s3, b3, hR3, hI3⟩
            have HI3 := Aside0.mk (And.intro hR3 hI3)
            clear hR3 hI3 f1 hI
            go_wp2_with fail
            go_roundg (n - (k + 1))
            case measure => have := HGN.out; omega
            case rel => exact ⟨k + 1, s3, b3, by go_num, ⟨by have := HGN.out; omega⟩, HI3⟩
        · have p0 : decide ((k : Int) < (n : Int)) = false := decide_eq_false (by omega)
          go_wp2_with fail
          go_end0
          refine ⟨rfl, n, s1, true, k, s2, b2, HRD.out, hI.out.1, ?_, hkn, .inr (by omega)⟩
          have h := hI.out.2
          rw [← HBS.out]
          exact h
    | false =>
      go_wp2_with fail
      go_loopg [7] n (fun gn i wr => ∃ (k : Nat) (s2 : ByteArray) (b2 : Bool), i = .int .i64 k ∧ Aside0 (k + gn = n) ∧ Aside0 (RS wr rb s2 b2 ∧ I (bytesOf s1) true k wr s2 b2))
      case atStart => exact ⟨0, s1, true, rfl, ⟨by omega⟩, HI2⟩
      case round =>
        obtain ⟨k, s2, b2, rfl, ⟨hgn⟩, hI⟩ := hrel
        have HGN := Lib.hid hgn
        have hkn : k ≤ n := by omega
        clear hgn HI2
        have f1 : wr.cell? ⟨rb, 1, none⟩ = some (.bool b2) := blk_cell hI.out.1 1
        by_cases hk : k < n
        · have p0 : decide ((k : Int) < (n : Int)) = true := decide_eq_true (by omega)
          cases b2 with
          | true =>
            go_wp2_with fail
            go_end0
            refine ⟨rfl, n, s1, false, k, s2, true, HRD.out, hI.out.1, ?_, hkn, .inl rfl⟩
            have h := hI.out.2
            rw [← HBS.out]
            exact h
          | false =>
            go_wp2_with fail
            refine (HSTEP.out (bytesOf s1) true k wr s2 (by omega) hI.out.2 hI.out.1).mono ?_
            rintro e w3 ⟨rfl, s3, b3, hR3, hI3⟩
            have HI3 := Aside0.mk (And.intro hR3 hI3)
            clear hR3 hI3 f1 hI
            go_wp2_with fail
            go_roundg (n - (k + 1))
            case measure => have := HGN.out; omega
            case rel => exact ⟨k + 1, s3, b3, by go_num, ⟨by have := HGN.out; omega⟩, HI3⟩
        · have p0 : decide ((k : Int) < (n : Int)) = false := decide_eq_false (by omega)
          go_wp2_with fail
          go_end0
          refine ⟨rfl, n, s1, false, k, s2, b2, HRD.out, hI.out.1, ?_, hkn, .inr (by omega)⟩
          have h := hI.out.2
          rw [← HBS.out]
          exact h
  · have hd : decide ((most : Int) < (n : Int)) = false := decide_eq_false (by omega)
    obtain rfl : bs = b1 := by rw [HBS.out, decide_eq_false hn2, Bool.or_false]
    cases bs with
    | true =>
      go_wp2_with fail
      go_loopg [7] n (fun gn i wr => ∃ (k : Nat) (s2 : ByteArray) (b2 : Bool), i = .int .i64 k ∧ Aside0 (k + gn = n) ∧ Aside0 (RS wr rb s2 b2 ∧ I (bytesOf s1) true k wr s2 b2))
      case atStart => exact ⟨0, s1, true, rfl, ⟨by omega⟩, HI2⟩
      case round =>
        obtain ⟨k, s2, b2, rfl, ⟨hgn⟩, hI⟩ := hrel
        have HGN := Lib.hid hgn
        have hkn : k ≤ n := by omega
        clear hgn HI2
        have f1 : wr.cell? ⟨rb, 1, none⟩ = some (.bool b2) := blk_cell hI.out.1 1
        by_cases hk : k < n
        · have p0 : decide ((k : Int) < (n : Int)) = true := decide_eq_true (by omega)
          cases b2 with
          | true =>
            go_wp2_with fail
            go_end0
            refine ⟨rfl, n, s1, true, k, s2, true, HRD.out, hI.out.1, ?_, hkn, .inl rfl⟩
            have h := hI.out.2
            rw [← HBS.out]
            exact h
          | false =>
            go_wp2_with fail
            refine (HSTEP.out (bytesOf s1) true k wr s2 (by omega) hI.out.2 hI.out.1).mono ?_
            rintro e w3 ⟨rfl, s3, b3, hR3, hI3⟩
            have HI3 := Aside0.mk (And.intro hR3 hI3)
            clear hR3 hI3 f1 hI
            go_wp2_with fail
            go_roundg (n - (k + 1))
            case measure => have := HGN.out; omega
            case rel => exact ⟨k + 1, s3, b3, by go_num, ⟨by have := HGN.out; omega⟩, HI3⟩
        · have p0 : decide ((k : Int) < (n : Int)) = false := decide_eq_false (by omega)
          go_wp2_with fail
          go_end0
          refine ⟨rfl, n, s1, true, k, s2, b2, HRD.out, hI.out.1, ?_, hkn, .inr (by omega)⟩
          have h := hI.out.2
          rw [← HBS.out]
          exact h
    | false =>
      go_wp2_with fail
      go_loopg [7] n (fun gn i wr => ∃ (k : Nat) (s2 : ByteArray) (b2 : Bool), i = .int .i64 k ∧ Aside0 (k + gn = n) ∧ Aside0 (RS wr rb s2 b2 ∧ I (bytesOf s1) false k wr s2 b2))
      case atStart => exact ⟨0, s1, false, rfl, ⟨by omega⟩, HI2⟩
      case round =>
        obtain ⟨k, s2, b2, rfl, ⟨hgn⟩, hI⟩ := hrel
        have HGN := Lib.hid hgn
        have hkn : k ≤ n := by omega
        clear hgn HI2
        have f1 : wr.cell? ⟨rb, 1, none⟩ = some (.bool b2) := blk_cell hI.out.1 1
        by_cases hk : k < n
        · have p0 : decide ((k : Int) < (n : Int)) = true := decide_eq_true (by omega)
          cases b2 with
          | true =>
            go_wp2_with fail
            go_end0
            refine ⟨rfl, n, s1, false, k, s2, true, HRD.out, hI.out.1, ?_, hkn, .inl rfl⟩
            have h := hI.out.2
            rw [← HBS.out]
            exact h
          | false =>
            go_wp2_with fail
            refine (HSTEP.out (bytesOf s1) false k wr s2 (by omega) hI.out.2 hI.out.1).mono ?_
            rintro e w3 ⟨rfl, s3, b3, hR3, hI3⟩
            have HI3 := Aside0.mk (And.intro hR3 hI3)
            clear hR3 hI3 f1 hI
            go_wp2_with fail
            go_roundg (n - (k + 1))
            case measure => have := HGN.out; omega
            case rel => exact ⟨k + 1, s3, b3, by go_num, ⟨by have := HGN.out; omega⟩, HI3⟩
        · have p0 : decide ((k : Int) < (n : Int)) = false := decide_eq_false (by omega)
          go_wp2_with fail
          go_end0
          refine ⟨rfl, n, s1, false, k, s2, b2, HRD.out, hI.out.1, ?_, hkn, .inr (by omega)⟩
          have h := hI.out.2
          rw [← HBS.out]
          exact h
end Go.Proofs.Ytcmgdieeclninaa

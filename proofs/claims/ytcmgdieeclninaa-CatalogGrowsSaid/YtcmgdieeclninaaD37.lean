/- Layer 8: the walks of the reference's Number, Text, flag, numbers. -/
import Derived.Test.YtcmgdieeclninaaD36
set_option linter.unusedVariables false
set_option linter.unusedSimpArgs false
namespace Go.Proofs.Ytcmgdieeclninaa
open Go.RowKit Go.Proofs.YtcmgdieeclninaaW.PrintWords
/-- What an append may turn: its row's block. -/
structure BG (w w' : World) (v v' : Value) : Prop where
  os : w'.os = w.os
  tape : w'.tape = w.tape
  output : w'.output = w.output
  size : w.heap.size ≤ w'.heap.size
  block : ∀ i, i < w.heap.size → some i ≠ v.ownBlock → w'.heap[i]? = w.heap[i]?
  at_ : v'.ownBlock = v.ownBlock ∨ ∃ b, v'.ownBlock = some b ∧ w.heap.size ≤ b
theorem BG.refl (w : World) (v : Value) : BG w w v v := ⟨rfl, rfl, rfl, Nat.le_refl _, fun _ _ _ => rfl, .inl rfl⟩
theorem BG.trans {a b c : World} {v v1 v2 : Value} (h : BG a b v v1) (k : BG b c v1 v2) : BG a c v v2 :=
  ⟨k.os.trans h.os, k.tape.trans h.tape, k.output.trans h.output, Nat.le_trans h.size k.size, fun i hi ho => (k.block i (Nat.lt_of_lt_of_le hi h.size) (by
    rcases h.at_ with h1 | ⟨q, h1, h2⟩
    · rw [h1]; exact ho
    · rw [h1]; intro he; injection he with he; omega)).trans (h.block i hi ho), by
    rcases k.at_ with k1 | ⟨q, k1, k2⟩
    · rw [k1]; exact h.at_
    · exact .inr ⟨q, k1, Nat.le_trans h.size k2⟩⟩
theorem BG.below {a b c : World} {v v1 : Value} (h : BG a b v v1) (k : Below b.heap.size b c) : BG a c v v1 :=
  ⟨k.os.trans h.os, k.tape.trans h.tape, k.output.trans h.output, Nat.le_trans h.size k.size, fun i hi ho => (k.block i (Nat.lt_of_lt_of_le hi h.size)).trans (h.block i hi ho), h.at_⟩
theorem BG.of_grown {a b : World} {v v1 : Value} (h : a.grownBy b v.ownBlock) (hat : v1.ownBlock = v.ownBlock ∨ ∃ q, v1.ownBlock = some q ∧ a.heap.size ≤ q) : BG a b v v1 := ⟨h.os, h.tape, h.output, h.size, fun i hi ho => h.block i hi ho, hat⟩
/-- A walk that appends to a row of bytes. -/
structure BJ (w0 w wr : World) (v0 v : Value) (xs : List Int) (L : List (Nat × Array Value × TypeId)) : Prop where
  own : wr.ownsRow w0.heap.size 5 1 v xs.length (nums .u8 xs)
  bg : BG w wr v0 v
  bel : Below w0.heap.size w0 wr
  box : ∀ p ∈ L, wr.heap[p.1]? = some (.cells p.2.1 p.2.2 (0, 0)) ∧ p.2.2 ≠ 5
def BOut (w0 w : World) (v : Value) (zs : List Int) (e : Ending) (w' : World) : Prop := ∃ v', e = .returned v' ∧ w'.ownsRow w0.heap.size 5 1 v' zs.length (nums .u8 zs) ∧ BG w w' v v'
theorem BJ.start {w0 w : World} {v : Value} {xs : List Int} (h : w.ownsRow w0.heap.size 5 1 v xs.length (nums .u8 xs)) (hb : Below w0.heap.size w0 w) : BJ w0 w w v v xs [] := ⟨h, BG.refl _ _, hb, fun p hp => by simp at hp⟩
theorem BJ.alloc {w0 w wr : World} {v0 v : Value} {xs : List Int} {L : List (Nat × Array Value × TypeId)} (h : BJ w0 w wr v0 v xs L) (cs : Array Value) (t : TypeId) (h5 : t ≠ 5) : BJ w0 w (wr.alloc (.cells cs t (0, 0))) v0 v xs ((wr.heap.size, cs, t) :: L) :=
  ⟨pw_own_below h.own (below_alloc (Below.refl _ _) _), h.bg.below (below_alloc (Below.refl _ _) _), below_then h.bel h.bel.size (below_alloc (Below.refl _ _) _), fun p hp => by
    rcases List.mem_cons.1 hp with rfl | hp
    · exact ⟨blk_alloc _ _, h5⟩
    · exact ⟨blk_alloc' (h.box p hp).1, (h.box p hp).2⟩⟩
theorem BJ.step {w0 w wr w' : World} {v0 v v' : Value} {xs xs' : List Int} {L : List (Nat × Array Value × TypeId)} (h : BJ w0 w wr v0 v xs L) (hs : w'.ownsRow w0.heap.size 5 1 v' xs'.length (nums .u8 xs')) (hg : BG wr w' v v') : BJ w0 w w' v0 v' xs' L :=
  ⟨hs, h.bg.trans hg, h.bel.trans ⟨hg.os, hg.tape, hg.output, hg.size, fun i hi => hg.block i (Nat.lt_of_lt_of_le hi h.bel.size) (fun he => by have := own_base h.own i he.symm; omega)⟩, fun p hp => ⟨(hg.block p.1 (blk_lt (h.box p hp).1) (own_ne h.own (h.box p hp).1 (fun e => (h.box p hp).2 e.symm))).trans (h.box p hp).1, (h.box p hp).2⟩⟩
theorem BJ.drop {w0 w wr : World} {v0 v : Value} {xs : List Int} {p : Nat × Array Value × TypeId} {L : List (Nat × Array Value × TypeId)} (h : BJ w0 w wr v0 v xs (p :: L)) : BJ w0 w wr v0 v xs L := ⟨h.own, h.bg, h.bel, fun q hq => h.box q (List.mem_cons_of_mem _ hq)⟩
theorem BJ.hd {w0 w wr : World} {v0 v : Value} {xs : List Int} {g : Nat} {cs : Array Value} {t : TypeId} {L : List (Nat × Array Value × TypeId)} (h : BJ w0 w wr v0 v xs ((g, cs, t) :: L)) : wr.heap[g]? = some (.cells cs t (0, 0)) := (h.box _ List.mem_cons_self).1
theorem BJ.nx {w0 w wr : World} {v0 v : Value} {xs : List Int} {g : Nat} {cs : Array Value} {t : TypeId} {q : Nat × Array Value × TypeId} {L : List (Nat × Array Value × TypeId)} (h : BJ w0 w wr v0 v xs (q :: (g, cs, t) :: L)) : wr.heap[g]? = some (.cells cs t (0, 0)) := h.drop.hd
/-- What a call tells of a walk. -/
def BWalk (w0 w : World) (v0 : Value) (xs : List Int) (L : List (Nat × Array Value × TypeId)) (e : Ending) (w' : World) : Prop := ∃ V c, e = .returned (.slice V xs.length c) ∧ BJ w0 w w' v0 (.slice V xs.length c) xs L
theorem BJ.out {w0 w wr : World} {v0 v : Value} {xs zs : List Int} {L : List (Nat × Array Value × TypeId)} {e : Ending} {w' : World} (h : BJ w0 w wr v0 v xs L) (hp : BOut w0 wr v zs e w') : BWalk w0 w v0 zs L e w' := by
  obtain ⟨v', he, h1, h2⟩ := hp
  obtain ⟨V, c, hv⟩ := own_slice h1
  subst hv
  exact ⟨V, c, he, h.step h1 h2⟩
set_option maxRecDepth 100000 in
set_option maxHeartbeats 4000000 in
theorem numRef_any (v : Value) (xs : List Int) (n : Nat) (w0 w : World) (hO : w.ownsRow w0.heap.size 5 1 v xs.length (nums .u8 xs)) (hB : Below w0.heap.size w0 w) (hn : n ≤ 1099511627776) (hlen : xs.length + (wN n).length ≤ 1099511627776) :
    Calls Try.prog 59 #[v, .int .i64 n] w (BOut w0 w v (xs ++ wN n)) := by
  have HJ0 := Aside0.mk (BJ.start hO hB)
  have HLEN := Lib.hid hlen
  clear hO hB hlen
  go_enter Try.func59, Try.ntmps59
  go_wp2_with fail
  go_loopg [0, 1] (n + 1) (fun gn u i wr => ∃ (vr : Value) (y : Nat) (zs : List Int), u = vr ∧ i = .int .i64 y ∧ Aside0 (y + 1 ≤ gn ∧ y ≤ n) ∧ Aside0 (zs ++ wN y = xs ++ wN n) ∧ Aside0 (BJ w0 w wr v vr zs []))
  case atStart => exact ⟨v, n, xs, rfl, rfl, ⟨by omega⟩, ⟨rfl⟩, HJ0⟩
  case round =>
    obtain ⟨vr, y, zs, rfl, rfl, ⟨hgn2⟩, hZ, hJ2⟩ := hrel
    have HGN2 := Lib.hid hgn2
    have hy : y ≤ 1099511627776 := by omega
    clear hgn2 HJ0
    obtain ⟨V, vc, hvs⟩ := own_slice hJ2.out.own
    subst hvs
    have hzl : zs.length + (wN y).length ≤ 1099511627776 := by
      have h1 := congrArg List.length hZ.out
      rw [List.length_append, List.length_append] at h1
      have := HLEN.out
      omega
    have hzp : 1 ≤ (wN y).length := List.length_pos_iff.2 (wN_ne y)
    have hzn : zs.length + 1 ≤ 1099511627776 := by omega
    clear hzl hzp
    by_cases hb : y ≤ 127
    · have hwy := wN_small (show y < 128 by omega)
      have HWY := Lib.hid hwy
      have hy256 : (y : Int) % 256 = y := by omega
      clear hwy
      go_wp2_with (at_builtin; (refine print_append_num (w0 := wr) w0.heap.size rfl (.tmp 16) (.tmp 19) 74 5 .u8 1 rfl Try.underlying74 info5 (by decide) (.slice V zs.length vc) zs (y : Int) rfl rfl hJ2.out.own ?aB ?aS ?aL ?_); (case aB => exact Below.refl _ _); (case aS => exact hJ2.out.bel.size); (case aL => omega); intro v2 w2 ho2 _ hg2 hat2; (obtain ⟨V2, vc2, hv2⟩ := own_slice ho2); (have HJ3 := Aside0.mk (hJ2.out.step ho2 (BG.of_grown hg2 hat2))); (rw [List.length_append, List.length_singleton] at hv2); subst hv2; clear ho2 hg2 hat2)
      go_ret
      refine ⟨_, rfl, ?_, HJ3.out.bg⟩
      have h1 := hZ.out
      rw [HWY.out] at h1
      rw [← h1]
      exact HJ3.out.own
    · have hwy := wN_big (show ¬ y < 128 by omega)
      have HWY := Lib.hid hwy
      have hrem : ((y : Int).tmod 128) = ((y % 128 : Nat) : Int) := by rw [Int.tmod_eq_emod_of_nonneg (by omega)]; omega
      have hquo : ((y : Int).tdiv 128) = ((y / 128 : Nat) : Int) := by rw [Int.tdiv_eq_ediv_of_nonneg (by omega)]; omega
      clear hwy
      go_wp2_with (at_builtin; (refine print_append_num (w0 := wr) w0.heap.size rfl (.tmp 7) (.tmp 12) 74 5 .u8 1 rfl Try.underlying74 info5 (by decide) (.slice V zs.length vc) zs (128 + (y : Int) % 128) rfl rfl hJ2.out.own ?aB ?aS ?aL ?_); (case aB => exact Below.refl _ _); (case aS => exact hJ2.out.bel.size); (case aL => omega); intro v2 w2 ho2 _ hg2 hat2; (obtain ⟨V2, vc2, hv2⟩ := own_slice ho2); (have HJ3 := Aside0.mk (hJ2.out.step ho2 (BG.of_grown hg2 hat2))); (rw [List.length_append, List.length_singleton] at hv2); subst hv2; clear ho2 hg2 hat2)
      go_roundg (y / 128 + 1)
      case measure => have := HGN2.out; omega
      case rel => exact ⟨_, y / 128, _, rfl, by go_num, ⟨by omega, by have := HGN2.out; omega⟩, ⟨by
        have h1 := hZ.out
        rw [HWY.out] at h1
        rw [← h1, List.append_assoc]
        congr 2
        simp only [List.cons_append, List.nil_append, List.cons.injEq, and_true]
        omega⟩, HJ3⟩
theorem BJ.number {w0 w wr : World} {v0 v : Value} {xs : List Int} {L : List (Nat × Array Value × TypeId)} (h : BJ w0 w wr v0 v xs L) (n : Int) (hn : 0 ≤ n ∧ n ≤ 1099511627776) (hlen : xs.length + (wN n.toNat).length ≤ 1099511627776) :
    Calls Try.prog 59 #[v, .int .i64 n] wr (BWalk w0 w v0 (xs ++ wN n.toNat) L) := by
  have h1 := (numRef_any v xs n.toNat w0 wr h.own h.bel (by omega) hlen).mono (fun e w1 hp => h.out hp)
  rwa [Int.toNat_of_nonneg hn.1] at h1
set_option maxRecDepth 100000 in
set_option maxHeartbeats 1000000 in
theorem textRef_any (s : ByteArray) (v : Value) (xs : List Int) (w0 w : World) (hO : w.ownsRow w0.heap.size 5 1 v xs.length (nums .u8 xs)) (hB : Below w0.heap.size w0 w) (hs : s.size ≤ 1099511627776) (hlen : xs.length + (wT s).length ≤ 1099511627776) :
    Calls Try.prog 60 #[v, .string s] w (BOut w0 w v (xs ++ wT s)) := by
  have hlen2 : xs.length + (wN s.size).length + s.size ≤ 1099511627776 := by
    have h := hlen
    unfold wT at h
    rw [List.length_append, bytesOf_length] at h
    omega
  have HJ0 := Aside0.mk (BJ.start hO hB)
  clear hO hB hlen
  go_enter Try.func60, Try.ntmps60
  go_wp2_with fail
  refine (HJ0.out.number s.size (by omega) (by rw [Int.toNat_natCast]; omega)).mono ?_
  rintro e w1 ⟨V, vc, rfl, hJ1⟩
  rw [Int.toNat_natCast] at hJ1 ⊢
  obtain ⟨zs, hzs⟩ : ∃ zs, zs = xs ++ wN s.size := ⟨_, rfl⟩
  rw [← hzs] at hJ1 ⊢
  have hJ2 := Aside0.mk hJ1
  have HZS := Lib.hid hzs
  have hzl : zs.length + s.size ≤ 1099511627776 := by rw [hzs, List.length_append]; omega
  clear hJ1 hzs HJ0
  go_wp2_with ((with_reducible refine gate_append (xs := #[.tmp 9, .tmp 10]) rfl ?_); go_loud (refine own_append_str (w0 := w1) w0.heap.size rfl (.tmp 9) (.tmp 10) 74 9 5 rfl Try.underlying74 Try.underlying9 info5 (.slice V zs.length vc) zs s rfl rfl hJ2.out.own ?aB ?aS ?aL ?_); (case aB => exact Below.refl _ _); (case aS => exact hJ2.out.bel.size); (case aL => omega); intro v2 w2 ho2 _ hg2 hat2; (obtain ⟨V2, vc2, hv2⟩ := own_slice ho2); (have HJ3 := Aside0.mk (hJ2.out.step ho2 (BG.of_grown hg2 hat2))); (rw [List.length_append] at hv2); subst hv2; clear ho2 hg2 hat2)
  go_ret
  have h2 : xs ++ wT s = zs ++ bytesOf s := by rw [HZS.out, List.append_assoc]; rfl
  rw [h2]
  exact ⟨_, rfl, HJ3.out.own, HJ3.out.bg⟩
set_option maxHeartbeats 1000000 in
theorem flagRef_any (b : Bool) (v : Value) (xs : List Int) (w0 w : World) (hO : w.ownsRow w0.heap.size 5 1 v xs.length (nums .u8 xs)) (hB : Below w0.heap.size w0 w) (hlen : xs.length + 1 ≤ 1099511627776) :
    Calls Try.prog 61 #[v, .bool b] w (BOut w0 w v (xs ++ wF b)) := by
  have HJ0 := Aside0.mk (BJ.start hO hB)
  clear hO hB
  cases b with
  | true =>
    go_enter Try.func61, Try.ntmps61
    go_wp2_with (at_builtin; (refine print_append_num (w0 := w) w0.heap.size rfl (.tmp 6) (.tmp 7) 74 5 .u8 1 rfl Try.underlying74 info5 (by decide) v xs 1 rfl rfl HJ0.out.own ?aB ?aS ?aL ?_); (case aB => exact Below.refl _ _); (case aS => exact HJ0.out.bel.size); (case aL => omega); intro v2 w2 ho2 _ hg2 hat2; (have HJ3 := Aside0.mk (HJ0.out.step ho2 (BG.of_grown hg2 hat2))); clear ho2 hg2 hat2)
    go_ret
    exact ⟨_, rfl, HJ3.out.own, HJ3.out.bg⟩
  | false =>
    go_enter Try.func61, Try.ntmps61
    go_wp2_with (at_builtin; (refine print_append_num (w0 := w) w0.heap.size rfl (.tmp 9) (.tmp 10) 74 5 .u8 1 rfl Try.underlying74 info5 (by decide) v xs 0 rfl rfl HJ0.out.own ?aB ?aS ?aL ?_); (case aB => exact Below.refl _ _); (case aS => exact HJ0.out.bel.size); (case aL => omega); intro v2 w2 ho2 _ hg2 hat2; (have HJ3 := Aside0.mk (HJ0.out.step ho2 (BG.of_grown hg2 hat2))); clear ho2 hg2 hat2)
    go_ret
    exact ⟨_, rfl, HJ3.out.own, HJ3.out.bg⟩
theorem BJ.text {w0 w wr : World} {v0 v : Value} {xs : List Int} {L : List (Nat × Array Value × TypeId)} (h : BJ w0 w wr v0 v xs L) (s : ByteArray) (hs : s.size ≤ 1099511627776) (hlen : xs.length + (wT s).length ≤ 1099511627776) :
    Calls Try.prog 60 #[v, .string s] wr (BWalk w0 w v0 (xs ++ wT s) L) := (textRef_any s v xs w0 wr h.own h.bel hs hlen).mono (fun e w1 hp => h.out hp)
theorem BJ.flag {w0 w wr : World} {v0 v : Value} {xs : List Int} {L : List (Nat × Array Value × TypeId)} (h : BJ w0 w wr v0 v xs L) (b : Bool) (hlen : xs.length + 1 ≤ 1099511627776) :
    Calls Try.prog 61 #[v, .bool b] wr (BWalk w0 w v0 (xs ++ wF b) L) := (flagRef_any b v xs w0 wr h.own h.bel hlen).mono (fun e w1 hp => h.out hp)
set_option maxRecDepth 100000 in
set_option maxHeartbeats 2000000 in
theorem numsRef_any (A : Option Addr) (c : Nat) (l : List Int) (v : Value) (xs : List Int) (w0 w : World) (hC : (Kd.int .i64).C w0 A l.length l) (h0 : ∀ n ∈ l, 0 ≤ n ∧ n ≤ 1099511627776) (hn : l.length ≤ 1099511627776)
    (hO : w.ownsRow w0.heap.size 5 1 v xs.length (nums .u8 xs)) (hB : Below w0.heap.size w0 w) (hlen : xs.length + (wL l).length ≤ 1099511627776) :
    Calls Try.prog 62 #[v, .slice A l.length c] w (BOut w0 w v (xs ++ wL l)) := by
  have hl1 : xs.length + ((wN l.length).length + (l.flatMap (fun n => wN n.toNat)).length) ≤ 1099511627776 := by
    have h := hlen
    unfold wL at h
    simpa only [List.length_append] using h
  have HC := Aside0.mk hC
  have HL0 := Lib.hid h0
  have HLEN := Lib.hid hl1
  have HJ0 := Aside0.mk (BJ.start hO hB)
  clear hC h0 hO hB hlen hl1
  go_enter Try.func62, Try.ntmps62
  go_wp2_with fail
  refine (HJ0.out.number l.length (by omega) (by rw [Int.toNat_natCast]; have := HLEN.out; omega)).mono ?_
  rintro e w1 ⟨V, vc, rfl, hJ1⟩
  rw [Int.toNat_natCast] at hJ1 ⊢
  have HJ1 := Aside0.mk hJ1
  clear hJ1 HJ0
  go_wp2_with fail
  go_loopg [0, 5] l.length (fun gn u i wr => ∃ (vr : Value) (k : Nat), u = vr ∧ i = .int .i64 k ∧ Aside0 (k + gn = l.length) ∧ Aside0 (BJ w0 w wr v vr (xs ++ wN l.length ++ (l.take k).flatMap (fun n => wN n.toNat)) []))
  case atStart => exact ⟨_, 0, rfl, rfl, ⟨by omega⟩, by simpa using HJ1⟩
  case round =>
    obtain ⟨vr, k, rfl, rfl, ⟨hgn⟩, hJ⟩ := hrel
    have HGN := Lib.hid hgn
    clear hgn HJ1
    by_cases hk : k < l.length
    · obtain ⟨ad, x, rfl, hx, hmem0, hts0, q0⟩ := int_el HC.out hJ.out.bel k hk
      have HST := Lib.hid (flat_step_le (fun n : Int => wN n.toNat) _ _ _ hts0)
      have HTS := Lib.hid hts0
      have hx0 := HL0.out x hmem0
      clear hx hmem0 hts0
      have p0 : (0 : Int) ≤ k := by omega
      have p1 : (k : Int) < l.length := by omega
      go_wp2_with fail
      refine (hJ.out.number x hx0 (by simp only [List.length_append]; have := HLEN.out; have := HST.out; omega)).mono ?_
      rintro e w2 ⟨V2, vc2, rfl, hJ2⟩
      have HJ2 := Aside0.mk hJ2
      clear hJ2 q0
      go_wp2_with fail
      go_roundg (l.length - (k + 1))
      case measure => have := HGN.out; omega
      case rel => exact ⟨_, k + 1, rfl, by go_num, ⟨by have := HGN.out; omega⟩, by
        rw [HTS.out, List.flatMap_append]
        simpa [List.append_assoc] using HJ2⟩
    · have hxs : l.take k = l := List.take_of_length_le (by omega)
      rw [hxs] at hJ
      go_wp2_with fail
      go_ret
      have h2 : xs ++ wL l = xs ++ wN l.length ++ l.flatMap (fun n => wN n.toNat) := by rw [List.append_assoc]; rfl
      rw [h2]
      exact ⟨_, rfl, hJ.out.own, hJ.out.bg⟩
theorem BJ.numbers {w0 w wr : World} {v0 v : Value} {xs : List Int} {L : List (Nat × Array Value × TypeId)} (h : BJ w0 w wr v0 v xs L) (A : Option Addr) (c : Nat) (l : List Int) (hC : (Kd.int .i64).C w0 A l.length l) (h0 : ∀ n ∈ l, 0 ≤ n ∧ n ≤ 1099511627776) (hn : l.length ≤ 1099511627776) (hlen : xs.length + (wL l).length ≤ 1099511627776) :
    Calls Try.prog 62 #[v, .slice A l.length c] wr (BWalk w0 w v0 (xs ++ wL l) L) := (numsRef_any A c l v xs w0 wr hC h0 hn h.own h.bel hlen).mono (fun e w1 hp => h.out hp)
end Go.Proofs.Ytcmgdieeclninaa

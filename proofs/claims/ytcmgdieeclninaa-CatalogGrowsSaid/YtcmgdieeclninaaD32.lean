/- Layer 8: the walks of the writer's small methods. -/
import Derived.Test.YtcmgdieeclninaaD30
import Derived.Test.YtcmgdieeclninaaD31
import Derived.Lib.AppendStr
set_option linter.unusedVariables false
set_option linter.unusedSimpArgs false
namespace Go.Proofs.Ytcmgdieeclninaa
open Go.RowKit Go.Proofs.YtcmgdieeclninaaW.PrintWords
/-- What a writer's call may turn: its own block, its bytes' block. -/
structure WG (w w' : World) (wb : Nat) (v v' : Value) : Prop where
  os : w'.os = w.os
  tape : w'.tape = w.tape
  output : w'.output = w.output
  size : w.heap.size ≤ w'.heap.size
  block : ∀ i, i < w.heap.size → i ≠ wb → some i ≠ v.ownBlock → w'.heap[i]? = w.heap[i]?
  at_ : v'.ownBlock = v.ownBlock ∨ ∃ b, v'.ownBlock = some b ∧ w.heap.size ≤ b
theorem WG.refl (w : World) (wb : Nat) (v : Value) : WG w w wb v v := ⟨rfl, rfl, rfl, Nat.le_refl _, fun _ _ _ _ => rfl, .inl rfl⟩
theorem WG.trans {a b c : World} {wb : Nat} {v v1 v2 : Value} (h : WG a b wb v v1) (k : WG b c wb v1 v2) : WG a c wb v v2 :=
  ⟨k.os.trans h.os, k.tape.trans h.tape, k.output.trans h.output, Nat.le_trans h.size k.size, fun i hi hn ho => (k.block i (Nat.lt_of_lt_of_le hi h.size) hn (by
    rcases h.at_ with h1 | ⟨q, h1, h2⟩
    · rw [h1]; exact ho
    · rw [h1]; intro he; injection he with he; omega)).trans (h.block i hi hn ho), by
    rcases k.at_ with k1 | ⟨q, k1, k2⟩
    · rw [k1]; exact h.at_
    · exact .inr ⟨q, k1, Nat.le_trans h.size k2⟩⟩
theorem WG.below {a b c : World} {wb : Nat} {v v1 : Value} (h : WG a b wb v v1) (k : Below b.heap.size b c) : WG a c wb v v1 :=
  ⟨k.os.trans h.os, k.tape.trans h.tape, k.output.trans h.output, Nat.le_trans h.size k.size, fun i hi hn ho => (k.block i (Nat.lt_of_lt_of_le hi h.size)).trans (h.block i hi hn ho), h.at_⟩
/-- A writer: block wb holds a row of bytes of one's own. -/
structure WS (w : World) (wb base : Nat) (v : Value) (xs : List Int) : Prop where
  blk : w.heap[wb]? = some (.cells #[v] 75 (0, 0))
  own : w.ownsRow base 5 1 v xs.length (nums .u8 xs)
theorem WS.below {w w' : World} {wb base : Nat} {v : Value} {xs : List Int} (h : WS w wb base v xs) (k : Below w.heap.size w w') : WS w' wb base v xs := ⟨blk_below h.blk k, pw_own_below h.own k⟩
theorem WG.box {w w' : World} {wb base g : Nat} {v v' : Value} {xs : List Int} {cs : Array Value} {t : TypeId} (h : WG w w' wb v v') (hs : WS w wb base v xs) (hg : w.heap[g]? = some (.cells cs t (0, 0))) (h5 : t ≠ 5) (h75 : t ≠ 75) : w'.heap[g]? = some (.cells cs t (0, 0)) :=
  (h.block g (blk_lt hg) (fun e => blk_ne hg hs.blk h75 e) (own_ne hs.own hg (fun e => h5 e.symm))).trans hg
/-- A writer's walk: the writer, what has turned, what is below, the boxes. -/
structure WJ (w0 w wr : World) (wb : Nat) (v0 v : Value) (xs : List Int) (L : List (Nat × Array Value × TypeId)) : Prop where
  ws : WS wr wb w0.heap.size v xs
  wg : WG w wr wb v0 v
  bel : Below w0.heap.size w0 wr
  hi : w0.heap.size ≤ wb
  box : ∀ p ∈ L, wr.heap[p.1]? = some (.cells p.2.1 p.2.2 (0, 0)) ∧ p.2.2 ≠ 5 ∧ p.2.2 ≠ 75
theorem WJ.start {w0 w : World} {wb : Nat} {v : Value} {xs : List Int} (h : WS w wb w0.heap.size v xs) (hb : Below w0.heap.size w0 w) (hi : w0.heap.size ≤ wb) : WJ w0 w w wb v v xs [] := ⟨h, WG.refl _ _ _, hb, hi, fun p hp => by simp at hp⟩
theorem WJ.alloc {w0 w wr : World} {wb : Nat} {v0 v : Value} {xs : List Int} {L : List (Nat × Array Value × TypeId)} (h : WJ w0 w wr wb v0 v xs L) (cs : Array Value) (t : TypeId) (h5 : t ≠ 5) (h75 : t ≠ 75) : WJ w0 w (wr.alloc (.cells cs t (0, 0))) wb v0 v xs ((wr.heap.size, cs, t) :: L) :=
  ⟨h.ws.below (below_alloc (Below.refl _ _) _), h.wg.below (below_alloc (Below.refl _ _) _), below_then h.bel h.bel.size (below_alloc (Below.refl _ _) _), h.hi, fun p hp => by
    rcases List.mem_cons.1 hp with rfl | hp
    · exact ⟨blk_alloc _ _, h5, h75⟩
    · exact ⟨blk_alloc' (h.box p hp).1, (h.box p hp).2⟩⟩
theorem WJ.step {w0 w wr w' : World} {wb : Nat} {v0 v v' : Value} {xs xs' : List Int} {L : List (Nat × Array Value × TypeId)} (h : WJ w0 w wr wb v0 v xs L) (hs : WS w' wb w0.heap.size v' xs') (hg : WG wr w' wb v v') : WJ w0 w w' wb v0 v' xs' L :=
  ⟨hs, h.wg.trans hg, h.bel.trans ⟨hg.os, hg.tape, hg.output, hg.size, fun i hi => hg.block i (Nat.lt_of_lt_of_le hi h.bel.size) (by have := h.hi; omega) (fun he => by have := own_base h.ws.own i he.symm; omega)⟩, h.hi, fun p hp => ⟨hg.box h.ws (h.box p hp).1 (h.box p hp).2.1 (h.box p hp).2.2, (h.box p hp).2⟩⟩
theorem WJ.drop {w0 w wr : World} {wb : Nat} {v0 v : Value} {xs : List Int} {p : Nat × Array Value × TypeId} {L : List (Nat × Array Value × TypeId)} (h : WJ w0 w wr wb v0 v xs (p :: L)) : WJ w0 w wr wb v0 v xs L := ⟨h.ws, h.wg, h.bel, h.hi, fun q hq => h.box q (List.mem_cons_of_mem _ hq)⟩
theorem WJ.hd {w0 w wr : World} {wb : Nat} {v0 v : Value} {xs : List Int} {g : Nat} {cs : Array Value} {t : TypeId} {L : List (Nat × Array Value × TypeId)} (h : WJ w0 w wr wb v0 v xs ((g, cs, t) :: L)) : wr.heap[g]? = some (.cells cs t (0, 0)) := (h.box _ List.mem_cons_self).1
theorem cell_of_blk {w w' : World} {a : Addr} (h : w'.heap[a.block]? = w.heap[a.block]?) : w'.cell? a = w.cell? a := by simp only [World.cell?, h]
theorem add_block (a : Addr) (k : Nat) : (a.add k).block = a.block := by unfold Addr.add; split <;> rfl
theorem flat_take_le {α : Type} (f : α → List Int) : ∀ (l : List α) (k : Nat), ((l.take k).flatMap f).length ≤ (l.flatMap f).length
  | [], k => by simp
  | a :: l, 0 => by simp
  | a :: l, k + 1 => by
    have := flat_take_le f l k
    simp only [List.take_succ_cons, List.flatMap_cons, List.length_append]
    omega
/-- What a writer's call tells. -/
def WPost (w0 w : World) (wb : Nat) (v : Value) (xs : List Int) (e : Ending) (w' : World) : Prop := e = .returned (.tuple #[]) ∧ ∃ v', WS w' wb w0.heap.size v' xs ∧ WG w w' wb v v'
theorem WJ.append {w0 w wr w2 : World} {wb : Nat} {v0 v v2 : Value} {xs zs : List Int} {L : List (Nat × Array Value × TypeId)} (h : WJ w0 w wr wb v0 v xs L) (ho : w2.ownsRow w0.heap.size 5 1 v2 zs.length (nums .u8 zs)) (hg : wr.grownBy w2 v.ownBlock) (hat : v2.ownBlock = v.ownBlock ∨ ∃ b, v2.ownBlock = some b ∧ wr.heap.size ≤ b) :
    WJ w0 w (w2.setCell ⟨wb, 0, none⟩ v2) wb v0 v2 zs L ∧ w2.heap[wb]? = some (.cells #[v] 75 (0, 0)) := by
  have hb : w2.heap[wb]? = some (.cells #[v] 75 (0, 0)) := blk_grown h.ws.blk hg (own_ne h.ws.own h.ws.blk (by decide))
  refine ⟨h.step ⟨blk_put hb 0 v2 rfl, own_setCell ho (own_ne ho hb (by decide)) v2⟩ ⟨hg.os, hg.tape, hg.output, by rw [setCell_size]; exact hg.size, fun i hi hn hv => ?_, hat⟩, hb⟩
  rw [Below.heap_setCell w2 ⟨wb, 0, none⟩ v2 i hn]
  exact hg.block i hi hv
theorem or128 : ∀ z : Fin 256, bits BinOp.or IntKind.u8 ((z.val : Nat) : Int) 128 = ((z.val % 128 + 128 : Nat) : Int) := by decide +kernel
theorem or128_mod (y : Nat) : bits BinOp.or IntKind.u8 ((y : Int) % 256) 128 = ((y % 128 + 128 : Nat) : Int) := by
  have h := or128 ⟨y % 256, Nat.mod_lt _ (by decide)⟩
  simp only at h
  rw [show ((y : Int) % 256) = ((y % 256 : Nat) : Int) from by omega, h]
  congr 1
  omega
theorem info5 : (Try.prog.info? 5).map (fun i => (i.zero, i.size, i.bytes)) = some (some (.int .u8 0), 1, 1) := by kernel_rfl
set_option maxRecDepth 100000 in
set_option maxHeartbeats 4000000 in
theorem number_any (A : Option Addr) (m c : Nat) (l : List Int) (wb : Nat) (v : Value) (xs : List Int) (w0 w : World) (hC : (Kd.int .i64).C w A m l) (hA : 0 < m → ∀ ad, A = some ad → ad.block ≠ wb ∧ some ad.block ≠ v.ownBlock ∧ ad.block < w.heap.size)
    (hS : WS w wb w0.heap.size v xs) (hB : Below w0.heap.size w0 w) (hi : w0.heap.size ≤ wb) (hl0 : ∀ n ∈ l, 0 ≤ n ∧ n ≤ 1099511627776) (hlen : xs.length + (l.flatMap (fun n => wN n.toNat)).length ≤ 1099511627776) :
    Calls Try.prog 45 #[.pointer (some ⟨wb, 0, none⟩), .slice A m c] w (WPost w0 w wb v (xs ++ l.flatMap (fun n => wN n.toNat))) := by
  have HC := Aside0.mk hC
  have HA := Lib.hid hA
  have hm := hC.2.1
  have HL0 := Lib.hid hl0
  have HLEN := Lib.hid hlen
  have HJ0 := Aside0.mk (WJ.start hS hB hi)
  clear hC hA hS hB hi hl0 hlen
  go_enter Try.func45, Try.ntmps45
  go_wp2_with fail
  go_loopg [8] m (fun gn i wr => ∃ (k : Nat) (vr : Value), i = .int .i64 k ∧ Aside0 (k + gn = m) ∧ Aside0 (WJ w0 w wr wb v vr (xs ++ (l.take k).flatMap (fun n => wN n.toNat)) []))
  case atStart => exact ⟨0, v, rfl, ⟨by omega⟩, by simpa using HJ0⟩
  case round =>
    obtain ⟨k, vr, rfl, ⟨hgn⟩, hJ⟩ := hrel
    have HGN := Lib.hid hgn
    clear hgn HJ0
    by_cases hk : k < m
    · obtain ⟨ad, x, rfl, hx, hmem0, hts0, q0⟩ := int_el HC.out (Below.refl _ _) k hk
      have q1 : wr.cell? (ad.add k) = some (.int .i64 x) := by
        have hh := HA.out (by omega) ad rfl
        rw [cell_of_blk (w := w) (a := ad.add k) (by rw [add_block]; exact hJ.out.wg.block ad.block hh.2.2 hh.1 hh.2.1)]
        exact q0
      have hx0 := HL0.out x hmem0
      obtain ⟨y0, rfl⟩ : ∃ y0 : Nat, x = (y0 : Int) := ⟨x.toNat, by omega⟩
      have HTS := Lib.hid hts0
      clear q0 hx hmem0 hts0
      have p0 : (0 : Int) ≤ k := by omega
      have p1 : (k : Int) < m := by omega
      go_wp2_with fail
      clear q1
      go_loopg [5] (y0 + 1) (fun gn i wr => ∃ (y : Nat) (vr : Value) (zs : List Int), i = .int .i64 y ∧ Aside0 (y + 1 ≤ gn ∧ y ≤ y0) ∧ Aside0 (zs ++ wN y = xs ++ (l.take (k + 1)).flatMap (fun n => wN n.toNat)) ∧ Aside0 (WJ w0 w wr wb v vr zs []))
      case atStart => exact ⟨y0, vr, _, rfl, ⟨by omega⟩, ⟨by rw [HTS.out, List.flatMap_append]; simp⟩, hJ⟩
      case round =>
        obtain ⟨y, vr, zs, rfl, ⟨hgn2⟩, hZ, hJ2⟩ := hrel
        have HGN2 := Lib.hid hgn2
        have hy : y ≤ 1099511627776 := by omega
        clear hgn2 hJ
        obtain ⟨V, vc, hvs⟩ := own_slice hJ2.out.ws.own
        subst hvs
        have f0 : wr.cell? ⟨wb, 0, none⟩ = some (.slice V zs.length vc) := blk_cell hJ2.out.ws.blk 0
        have f1 : wr.frozen? ⟨wb, 0, none⟩ = false := blk_frozen hJ2.out.ws.blk 0
        have hzl : zs.length + (wN y).length ≤ 1099511627776 := by
          have h1 := congrArg List.length hZ.out
          rw [List.length_append, List.length_append] at h1
          have h2 := flat_take_le (fun n : Int => wN n.toNat) l (k + 1)
          have := HLEN.out
          omega
        have hzp : 1 ≤ (wN y).length := List.length_pos_iff.2 (wN_ne y)
        have hzn : zs.length + 1 ≤ 1099511627776 := by omega
        have HZL := Lib.hid hzl
        clear hzl hzp
        by_cases hb : y ≤ 127
        · have hwy := wN_small (show y < 128 by omega)
          have HWY := Lib.hid hwy
          have hy256 : (y : Int) % 256 = y := by omega
          clear hwy
          go_wp2_with (at_builtin; go_loud (refine print_append_num (w0 := wr) w0.heap.size rfl (.tmp 29) (.tmp 32) 75 5 .u8 1 rfl Try.underlying75 info5 (by decide) (.slice V zs.length vc) zs (y : Int) rfl rfl hJ2.out.ws.own ?aB ?aS ?aL ?_); (case aB => exact Below.refl _ _); (case aS => exact hJ2.out.bel.size); (case aL => omega); intro v2 w2 ho2 _ hg2 hat2; (obtain ⟨V2, vc2, hv2⟩ := own_slice ho2); (rw [List.length_append, List.length_singleton] at hv2); subst hv2; (obtain ⟨hJ3, hb3⟩ := hJ2.out.append ho2 hg2 hat2); (have HJ3 := Aside0.mk hJ3); (have y1 : w2.cell? ⟨wb, 0, none⟩ = some (.slice V zs.length vc) := blk_cell hb3 0); (have y2 : w2.frozen? ⟨wb, 0, none⟩ = false := blk_frozen hb3 0); clear ho2 hg2 hat2 hJ3 hb3)
          go_roundg (m - (k + 1))
          case measure => have := HGN.out; omega
          case rel => exact ⟨k + 1, _, by go_num, ⟨by have := HGN.out; omega⟩, by
            have h1 := hZ.out
            rw [HWY.out] at h1
            rw [← h1]
            exact HJ3⟩
        · have hwy := wN_big (show ¬ y < 128 by omega)
          have HWY := Lib.hid hwy
          have hor := or128_mod y
          have hsh : ∀ w, (binOp .shr 3 (.int .i64 (y : Int)) (.int .u64 7)).run Try.prog w = .ok (.int .i64 ((y / 128 : Nat) : Int)) w := fun w => by simp [go_sem]
          clear hwy
          go_wp2_with (at_builtin; go_loud (refine print_append_num (w0 := wr) w0.heap.size rfl (.tmp 19) (.tmp 23) 75 5 .u8 1 rfl Try.underlying75 info5 (by decide) (.slice V zs.length vc) zs ((y : Int) % 128 + 128) rfl rfl hJ2.out.ws.own ?aB ?aS ?aL ?_); (case aB => exact Below.refl _ _); (case aS => exact hJ2.out.bel.size); (case aL => omega); intro v2 w2 ho2 _ hg2 hat2; (obtain ⟨V2, vc2, hv2⟩ := own_slice ho2); (rw [List.length_append, List.length_singleton] at hv2); subst hv2; (obtain ⟨hJ3, hb3⟩ := hJ2.out.append ho2 hg2 hat2); (have HJ3 := Aside0.mk hJ3); (have y1 : w2.cell? ⟨wb, 0, none⟩ = some (.slice V zs.length vc) := blk_cell hb3 0); (have y2 : w2.frozen? ⟨wb, 0, none⟩ = false := blk_frozen hb3 0); clear ho2 hg2 hat2 hJ3 hb3)
          go_roundg (y / 128 + 1)
          case measure => have := HGN2.out; omega
          case rel => exact ⟨y / 128, _, _, by go_num, ⟨by omega, by have := HGN2.out; omega⟩, ⟨by
            have h1 := hZ.out
            rw [HWY.out] at h1
            rw [← h1, List.append_assoc]
            congr 2⟩, HJ3⟩
    · have hxs : l.take k = l := List.take_of_length_le (by rw [HC.out.1]; omega)
      rw [hxs] at hJ
      go_wp2_with fail
      go_end0
      exact ⟨rfl, vr, hJ.out.ws, hJ.out.wg⟩
end Go.Proofs.Ytcmgdieeclninaa

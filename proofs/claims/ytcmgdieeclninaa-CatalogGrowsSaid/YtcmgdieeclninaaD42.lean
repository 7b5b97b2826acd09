/- Layer 8: the walk of the reader's numbers. -/
import Derived.Test.YtcmgdieeclninaaD41
set_option linter.unusedVariables false
set_option linter.unusedSimpArgs false
namespace Go.Proofs.Ytcmgdieeclninaa
open Go.RowKit Go.Proofs.YtcmgdieeclninaaW.PrintWords Go.Proofs.YtcmgdieeclninaaW.PrintLast
/-- What a greater reading function tells. -/
def ROutB {α : Type} (enc : α → List Int) (ok : α → Prop) (val : Nat → World → Value → α → Prop) (rb : Nat) (s : ByteArray) (b : Bool) (w : World) (e : Ending) (w' : World) : Prop :=
  ∃ (v : Value) (x : α) (s' : ByteArray) (b' : Bool), e = .returned v ∧ val w.heap.size w' v x ∧ RS w' rb s' b' ∧ Mod w w' (fun i => i = rb) ∧ s'.size ≤ 140737488355328 ∧ Rd enc ok (bytesOf s) b x (bytesOf s') b'
theorem MI.start {α : Type} {d : Kd α} {e : Nat} {enc : α → List Int} {ok : α → Prop} {rb tb qb T : Nat} {mk : Value → Array Value} {wS : World} {s : ByteArray} (hs : s.size ≤ 140737488355328) (ht : wS.heap[tb]? = some (.cells (mk (.slice none 0 0)) T (0, 0))) (hq : wS.heap[qb]? = some (.cells #[.pointer (some ⟨rb, 0, none⟩)] 79 (0, 0)))
    (hl : rb < wS.heap.size ∧ tb < wS.heap.size ∧ qb < wS.heap.size ∧ rb ≠ tb ∧ rb ≠ qb ∧ tb ≠ qb) : ∀ w' s1 b1, Mod wS w' (fun i => i = rb) → RS w' rb s1 b1 → s1.size ≤ s.size → MI d e enc ok rb tb qb T mk wS (bytesOf s1) b1 0 w' s1 b1 :=
  fun w' s1 b1 hm hr hsz => ⟨.slice none 0 0, [], rfl, LRd.start _ _ _ _, ⟨hr, blk_mod ht hm (fun he => hl.2.2.2.1 he.symm), blk_mod hq hm (fun he => hl.2.2.2.2.1 he.symm), Kd.R_nil _ _ _ _ _, hm.mono (fun i hi => .inl hi), hl⟩, by omega⟩
/-- What 'many' of a row tells. -/
theorem MI.many {α : Type} {d : Kd α} {e : Nat} {enc : α → List Int} {ok : α → Prop} {rb tb qb T most : Nat} {mk : Value → Array Value} {wS : World} {s : ByteArray} {b : Bool} {en : Ending} {w' : World} (hm : most < 268435456) (h : ManyOut rb most (MI d e enc ok rb tb qb T mk wS) s b en w') :
    en = .returned (.tuple #[]) ∧ ∃ (v : Value) (xs : List α) (s' : ByteArray) (b' : Bool), CJ d e rb tb qb T wS w' (mk v) v xs s' b' ∧ s'.size ≤ 140737488355328 ∧ Rd (fun ys => wN ys.length ++ ys.flatMap enc) (fun ys => ys.length ≤ most ∧ ∀ y ∈ ys, ok y) (bytesOf s) b xs (bytesOf s') b' := by
  obtain ⟨he, n, s1, b1, k, s', b', hn, hr, ⟨v, xs, hxk, hL, hC, hs'⟩, hk, hend⟩ := h
  exact ⟨he, v, xs, s', b', hC, hs', LRd.done hn hL (by rw [hxk]; exact hend) (by omega) (fun m hm2 => by omega)⟩
/-- A reading function's walk: the reader, what has turned, the boxes. -/
structure TJ (w wr : World) (rb : Nat) (s : ByteArray) (b : Bool) (L : List (Nat × Array Value × TypeId)) : Prop where
  rs : RS wr rb s b
  md : Mod w wr (fun i => i = rb)
  lt : rb < w.heap.size
  box : ∀ p ∈ L, wr.heap[p.1]? = some (.cells p.2.1 p.2.2 (0, 0)) ∧ w.heap.size ≤ p.1
theorem TJ.start {w : World} {rb : Nat} {s : ByteArray} {b : Bool} (h : RS w rb s b) : TJ w w rb s b [] := ⟨h, Mod.refl _ _, blk_lt h, fun p hp => by simp at hp⟩
theorem TJ.alloc {w wr : World} {rb : Nat} {s : ByteArray} {b : Bool} {L : List (Nat × Array Value × TypeId)} (h : TJ w wr rb s b L) (cs : Array Value) (t : TypeId) : TJ w (wr.alloc (.cells cs t (0, 0))) rb s b ((wr.heap.size, cs, t) :: L) :=
  ⟨h.rs.below (below_alloc (Below.refl _ _) _), h.md.trans (Mod.of_below (below_alloc (Below.refl _ _) _)), h.lt, fun p hp => by
    rcases List.mem_cons.1 hp with rfl | hp
    · exact ⟨blk_alloc _ _, h.md.size⟩
    · exact ⟨blk_alloc' (h.box p hp).1, (h.box p hp).2⟩⟩
theorem TJ.read {w wr w' : World} {rb : Nat} {s s' : ByteArray} {b b' : Bool} {L : List (Nat × Array Value × TypeId)} (h : TJ w wr rb s b L) (hr : RS w' rb s' b') (hm : Mod wr w' (fun i => i = rb)) : TJ w w' rb s' b' L :=
  ⟨hr, h.md.trans hm, h.lt, fun p hp => ⟨blk_mod (h.box p hp).1 hm (fun he => by have := (h.box p hp).2; have := h.lt; omega), (h.box p hp).2⟩⟩
theorem TJ.below {w wr w' : World} {rb : Nat} {s : ByteArray} {b : Bool} {L : List (Nat × Array Value × TypeId)} (h : TJ w wr rb s b L) (hb : Below wr.heap.size wr w') : TJ w w' rb s b L := h.read (h.rs.below hb) (Mod.of_below hb)
/-- The head's box has turned as well. -/
theorem TJ.turn {w wr w' : World} {rb g : Nat} {s s' : ByteArray} {b b' : Bool} {cs cs' : Array Value} {t : TypeId} {L : List (Nat × Array Value × TypeId)} (h : TJ w wr rb s b ((g, cs, t) :: L)) (hr : RS w' rb s' b') (hm : Mod wr w' (fun i => i = rb ∨ i = g)) (hg : w'.heap[g]? = some (.cells cs' t (0, 0))) (hL : ∀ p ∈ L, p.1 ≠ g) : TJ w w' rb s' b' ((g, cs', t) :: L) :=
  ⟨hr, h.md.then_new hm (fun i hi hq => by
    rcases hq with hq | hq
    · exact hq
    · have := (h.box _ List.mem_cons_self).2
      simp only at this
      omega), h.lt, fun p hp => by
    rcases List.mem_cons.1 hp with rfl | hp
    · exact ⟨hg, (h.box _ List.mem_cons_self).2⟩
    · have h1 := h.box p (List.mem_cons_of_mem _ hp)
      exact ⟨blk_mod h1.1 hm (fun hq => by
        rcases hq with hq | hq
        · have := h1.2; have := h.lt; omega
        · exact hL p hp hq), h1.2⟩⟩
theorem TJ.set {w wr : World} {rb g : Nat} {s : ByteArray} {b : Bool} {cs cs' : Array Value} {t : TypeId} {L : List (Nat × Array Value × TypeId)} (h : TJ w wr rb s b ((g, cs, t) :: L)) (i : Nat) (v : Value) (he : cs.setIfInBounds i v = cs') (hL : ∀ p ∈ L, p.1 ≠ g) : TJ w (wr.setCell ⟨g, i, none⟩ v) rb s b ((g, cs', t) :: L) := by
  have hgl := (h.box _ List.mem_cons_self).2
  simp only at hgl
  exact h.turn (blk_mod h.rs (mod_setCell wr g i v) (by have := h.lt; omega)) ((mod_setCell wr g i v).mono (fun j hj => .inr hj)) (blk_put (h.box _ List.mem_cons_self).1 i v he) hL
theorem TJ.hd {w wr : World} {rb g : Nat} {s : ByteArray} {b : Bool} {cs : Array Value} {t : TypeId} {L : List (Nat × Array Value × TypeId)} (h : TJ w wr rb s b ((g, cs, t) :: L)) : wr.heap[g]? = some (.cells cs t (0, 0)) := (h.box _ List.mem_cons_self).1
theorem TJ.at2 {w wr : World} {rb g : Nat} {s : ByteArray} {b : Bool} {cs : Array Value} {t : TypeId} {q : Nat × Array Value × TypeId} {L : List (Nat × Array Value × TypeId)} (h : TJ w wr rb s b (q :: (g, cs, t) :: L)) : wr.heap[g]? = some (.cells cs t (0, 0)) := (h.box _ (List.mem_cons_of_mem _ List.mem_cons_self)).1
theorem TJ.at3 {w wr : World} {rb g : Nat} {s : ByteArray} {b : Bool} {cs : Array Value} {t : TypeId} {q q2 : Nat × Array Value × TypeId} {L : List (Nat × Array Value × TypeId)} (h : TJ w wr rb s b (q :: q2 :: (g, cs, t) :: L)) : wr.heap[g]? = some (.cells cs t (0, 0)) := (h.box _ (List.mem_cons_of_mem _ (List.mem_cons_of_mem _ List.mem_cons_self))).1
set_option maxRecDepth 100000 in
set_option maxHeartbeats 2000000 in
theorem rnums_any (rb : Nat) (s : ByteArray) (b : Bool) (w : World) (h : RS w rb s b) (hs : s.size ≤ 140737488355328) : Calls Try.prog 89 #[.pointer (some ⟨rb, 0, none⟩)] w (ROutB wL okL vInts rb s b w) := by
  have hJ := ((TJ.start h).alloc #[.pointer (some ⟨rb, 0, none⟩)] 79).alloc #[.slice none 0 0] 27
  have hsz : (w.alloc (Obj.cells #[.pointer (some ⟨rb, 0, none⟩)] 79)).heap.size = w.heap.size + 1 := by simp
  rw [hsz] at hJ
  obtain ⟨W, hW⟩ : ∃ u, u = (w.alloc (Obj.cells #[.pointer (some ⟨rb, 0, none⟩)] 79)).alloc (Obj.cells #[.slice none 0 0] 27) := ⟨_, rfl⟩
  have hWs : W.heap.size = w.heap.size + 2 := by rw [hW]; simp
  rw [← hW] at hJ
  have HJ := Aside0.mk hJ
  have HW := Aside0.mk hW.symm
  have hlt := blk_lt h
  have f0 : ((w.alloc (Obj.cells #[.pointer (some ⟨rb, 0, none⟩)] 79)).alloc (Obj.cells #[.slice none 0 0] 27)).cell? ⟨w.heap.size, 0, none⟩ = some (.pointer (some ⟨rb, 0, none⟩)) := by rw [← hW]; exact blk_cell hJ.at2 0
  clear hJ hW h hsz
  go_enter Try.func89, Try.ntmps89
  go_wp2_with fail
  rw [HW.out]
  refine (many100_any 8 (by decide) #[.pointer (some ⟨w.heap.size + 1, 0, none⟩), .pointer (some ⟨w.heap.size, 0, none⟩)] rb s b W HJ.out.rs hs (MI (Kd.int .i64) 3 wZ okZ rb (w.heap.size + 1) w.heap.size 27 (fun v => #[v]) W)
    (MI.start hs HJ.out.hd HJ.out.at2 ⟨by omega, by omega, by omega, by omega, by omega, by omega⟩) (fun l0 b0 k w1 s1 hk hI hR => cl100_any rb _ _ W l0 b0 k w1 s1 hk hI hR)).mono ?_
  intro e w2 hm
  obtain ⟨rfl, v, xs, s', b', hC, hs', hrd⟩ := MI.many (by decide) hm
  have hJ2 := HJ.out.turn hC.rs hC.md hC.tbx (fun p hp => by simp at hp; subst hp; show w.heap.size ≠ w.heap.size + 1; omega)
  have HJ2 := Aside0.mk hJ2
  obtain ⟨V, vc, hv⟩ := Kd.R_slice hC.row
  subst hv
  have HR := Aside0.mk hC.row
  have HRD := Lib.hid hrd
  have f1 : w2.cell? ⟨w.heap.size + 1, 0, none⟩ = some (.slice V xs.length vc) := blk_cell hJ2.hd 0
  clear hm hC hrd hJ2 f0
  go_wp2_with fail
  go_ret
  exact ⟨_, xs, s', b', rfl, Kd.R_mono (Kd.R_lower HR.out (by omega)) (fun _ _ => trivial), HJ2.out.rs, HJ2.out.md, hs', HRD.out⟩
end Go.Proofs.Ytcmgdieeclninaa

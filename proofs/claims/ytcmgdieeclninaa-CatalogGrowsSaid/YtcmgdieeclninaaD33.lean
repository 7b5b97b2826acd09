/- Layer 8: the walks of the writer's small methods. -/
import Derived.Test.YtcmgdieeclninaaD32
set_option linter.unusedVariables false
set_option linter.unusedSimpArgs false
namespace Go.Proofs.Ytcmgdieeclninaa
open Go.RowKit Go.Proofs.YtcmgdieeclninaaW.PrintWords
theorem strCells_bytes (s : ByteArray) : Lib.strCells s = nums .u8 (bytesOf s) := by
  unfold Lib.strCells nums bytesOf
  rw [List.map_map]
  rfl
theorem run_append_str {P : Program} (W : World) (base : Nat) (t u ty e : TypeId) (ht : P.underlying t = some (.slice e)) (hu : P.underlying u = some .string) (hinfo : (P.info? e).map (fun i => (i.zero, i.size, i.bytes)) = some (some (.int .u8 0), 1, 1))
    (v : Value) (xs : List Int) (s : ByteArray) (HO : W.ownsRow base e 1 v xs.length (nums .u8 xs)) (hbase : base ≤ W.heap.size) (hlim : xs.length + s.size ≤ 140737488355328) :
    ∃ v1 w1, (Builtin.append_ #[t, u] ty #[v, .string s]).run P W = .ok v1 w1 ∧ w1.ownsRow base e 1 v1 (xs ++ bytesOf s).length (nums .u8 (xs ++ bytesOf s)) ∧ W.grownBy w1 v.ownBlock ∧ (v1.ownBlock = v.ownBlock ∨ ∃ b, v1.ownBlock = some b ∧ W.heap.size ≤ b) := by
  obtain ⟨i0, hi, hzz⟩ := Option.map_eq_some_iff.1 hinfo
  simp only [Prod.mk.injEq] at hzz
  obtain ⟨hz0, hz1, hz2⟩ := hzz
  obtain ⟨v1, w1, hr, ho, hg, hnil⟩ := Lib.run_append_own_string (P := P) (w := W) base t u ty e i0 ht hu hi hz0 hz1 hz2 v xs.length (nums .u8 xs) HO s (by simp only [maxLen]; omega) hlim hbase
  refine ⟨v1, w1, hr, by rw [strCells_bytes, ← nums_append] at ho; rw [List.length_append, bytesOf_length]; exact ho, hg, ?_⟩
  have hO := HO
  rcases HO.2 with ⟨rfl, h0⟩ | ⟨g, cap, cur, rfl, hbg, hh, hnc, hcm, hcs, htake⟩
  · by_cases hs0 : s.size = 0
    · left
      rw [hnil.2 ⟨rfl, hs0⟩]
    · have h2 := run_append_nil_string (P := P) W t u ty e i0 (.int .u8 0) ht hu hi hz0 s (by omega) (by omega) (by rw [hz2]; omega)
      rw [hr] at h2
      injection h2 with h3 h4
      right
      exact ⟨W.heap.size, by rw [h3]; rfl, Nat.le_refl _⟩
  · by_cases hroom : xs.length + s.size ≤ cap
    · have h2 := Lib.run_append_room_string (P := P) (w := W) t u ty e i0 ht hu hi hz1 g xs.length cap cur hh s hroom (by omega)
      rw [hr] at h2
      injection h2 with h3 h4
      left
      rw [h3]
      rfl
    · have h2 := Lib.run_append_grow_string (P := P) (w := W) t u ty e i0 (.int .u8 0) ht hu hi hz0 ⟨g, 0, none⟩ xs.length cap (nums .u8 xs) (by rw [hz1, nums_length, Nat.mul_one]) (hO.cells (g := g) rfl) s (by omega) (by omega) (by rw [hz2]; exact growslice_fits (by omega) (by omega))
      rw [hr] at h2
      injection h2 with h3 h4
      right
      exact ⟨W.heap.size, by rw [h3]; rfl, Nat.le_refl _⟩
section
variable {P : Program} {ops : Array Oper} {rest : List Oper} {o : Oper} {a : Act} {Q : Exit → Act → World → Prop}
/-- append(v, s..), s a string. -/
theorem own_append_str {w0 W : World} (base : Nat) (hgd : o.guard = none) (sl x : Operand) (t u e : TypeId) (ho : o.op = .call { callee := .builtin .append, args := #[sl, x], argTypes := #[t, u] })
    (ht : P.underlying t = some (.slice e)) (hu : P.underlying u = some .string) (hinfo : (P.info? e).map (fun i => (i.zero, i.size, i.bytes)) = some (some (.int .u8 0), 1, 1))
    (v : Value) (xs : List Int) (s : ByteArray) (hs : a.eval sl = v) (hx : a.eval x = .string s) (HO : W.ownsRow base e 1 v xs.length (nums .u8 xs)) (HB : Below base w0 W) (hbase : base ≤ W.heap.size) (hlim : xs.length + s.size ≤ 140737488355328)
    (h : ∀ v1 w1, w1.ownsRow base e 1 v1 (xs ++ bytesOf s).length (nums .u8 (xs ++ bytesOf s)) → Below base w0 w1 → W.grownBy w1 v.ownBlock → (v1.ownBlock = v.ownBlock ∨ ∃ b, v1.ownBlock = some b ∧ W.heap.size ≤ b) → wpList P ops Q rest (a.put o.dst v1) w1) : wpList P ops Q (o :: rest) a W := by
  obtain ⟨v1, w1, hr, hown, hg, hat⟩ := run_append_str (P := P) W base t u o.type e ht hu hinfo v xs s HO hbase hlim
  refine wpList_plain hgd fun K hK => ?_
  unfold Oper.wp execOp
  simp only [ho, resolve, invoke, builtin, Sem.run_bind, Sem.run_pure, Result.andThen_ok, List.map_toArray, List.map_cons, List.map_nil, hs, hx, hr]
  exact hK _ _ (h v1 w1 hown (HB.grown hg hbase (own_base HO)) hg hat)
end
/-- A list of numbers in a box of its own. -/
theorem lit_C (W : World) (xs : List Int) (h : xs.length ≤ 9223372036854775807) : (Kd.int .i64).C (W.alloc (.cells (nums .i64 xs).toArray 3 (0, 0))) (some ⟨W.heap.size, 0, none⟩) xs.length xs := by
  refine ⟨rfl, h, fun hp => ⟨_, rfl, fun j p hj => ⟨[.int .i64 p], rfl, rfl, fun i u hu => ?_⟩⟩⟩
  have hl : j < xs.length := (List.getElem?_eq_some_iff.1 hj).1
  cases i with
  | zero =>
    have he : Value.int .i64 p = u := by simpa using hu
    have hb := blk_alloc W (.cells (nums .i64 xs).toArray 3 (0, 0))
    show World.cell? _ ((⟨W.heap.size, 0, none⟩ : Addr).add (j * 1 + 0)) = _
    rw [add_plain, blk_cell hb, Nat.mul_one, Nat.add_zero, ← he]
    simp [nums, hj]
  | succ i => simp at hu
set_option maxRecDepth 100000 in
set_option maxHeartbeats 4000000 in
theorem text_any (s : ByteArray) (wb : Nat) (v : Value) (xs : List Int) (w0 w : World) (hS : WS w wb w0.heap.size v xs) (hB : Below w0.heap.size w0 w) (hi : w0.heap.size ≤ wb) (hs : s.size ≤ 1099511627776) (hlen : xs.length + (wT s).length ≤ 1099511627776) :
    Calls Try.prog 83 #[.pointer (some ⟨wb, 0, none⟩), .string s] w (WPost w0 w wb v (xs ++ wT s)) := by
  have hlen2 : xs.length + (wN s.size).length + s.size ≤ 1099511627776 := by
    have h := hlen
    unfold wT at h
    rw [List.length_append, bytesOf_length] at h
    omega
  have hJ0 := (WJ.start hS hB hi).alloc #[.int .i64 s.size] 3 (by decide) (by decide)
  have hC := lit_C w [(s.size : Int)] (by simp)
  have hlt := blk_lt hS.blk
  have hol := own_lt hS.own
  have HJ0 := Aside0.mk hJ0
  have HC := Aside0.mk hC
  have HOL := Lib.hid hol
  clear hS hB hi hlen hJ0 hC hol
  go_enter Try.func83, Try.ntmps83
  go_wp2_with fail
  refine (number_any (some ⟨w.heap.size, 0, none⟩) 1 1 [(s.size : Int)] wb v xs w0 _ HC.out (fun _ ad he => by
    injection he with he
    subst he
    exact ⟨by show w.heap.size ≠ wb; omega, fun h => by have := HOL.out _ h.symm; (have h2 : w.heap.size < w.heap.size := this); omega, by show w.heap.size < (w.alloc _).heap.size; simp⟩) HJ0.out.ws HJ0.out.bel HJ0.out.hi (by simp; omega) (by simp; omega)).mono ?_
  rintro e w1 ⟨rfl, v1, hs1, hg1⟩
  have hJ1 := HJ0.out.step hs1 hg1
  simp only [List.flatMap_cons, List.flatMap_nil, List.append_nil, Int.toNat_natCast] at hJ1
  obtain ⟨V, vc, hvs⟩ := own_slice hJ1.ws.own
  subst hvs
  have hJ2 := Aside0.mk hJ1
  have f0 : w1.cell? ⟨wb, 0, none⟩ = some (.slice V (xs ++ wN s.size).length vc) := blk_cell hJ1.ws.blk 0
  have f1 : w1.frozen? ⟨wb, 0, none⟩ = false := blk_frozen hJ1.ws.blk 0
  obtain ⟨zs, hzs⟩ : ∃ zs, zs = xs ++ wN s.size := ⟨_, rfl⟩
  rw [← hzs] at hJ2 f0
  have HZS := Lib.hid hzs
  have hzl : zs.length + s.size ≤ 1099511627776 := by rw [hzs, List.length_append]; omega
  clear hJ1 hzs
  go_wp2_with ((with_reducible refine gate_append (xs := #[.tmp 12, .tmp 13]) rfl ?_); go_loud (refine own_append_str (w0 := w1) w0.heap.size rfl (.tmp 12) (.tmp 13) 75 9 5 rfl Try.underlying75 Try.underlying9 info5 (.slice V zs.length vc) zs s rfl rfl hJ2.out.ws.own ?aB ?aS ?aL ?_); (case aB => exact Below.refl _ _); (case aS => exact hJ2.out.bel.size); (case aL => omega); intro v2 w2 ho2 _ hg2 hat2; (obtain ⟨V2, vc2, hv2⟩ := own_slice ho2); (rw [List.length_append] at hv2); subst hv2; (obtain ⟨hJ3, hb3⟩ := hJ2.out.append ho2 hg2 hat2); (have HJ3 := Aside0.mk hJ3); (have y1 : w2.cell? ⟨wb, 0, none⟩ = some (.slice V zs.length vc) := blk_cell hb3 0); (have y2 : w2.frozen? ⟨wb, 0, none⟩ = false := blk_frozen hb3 0); clear ho2 hg2 hat2 hJ3 hb3)
  go_end0
  refine ⟨rfl, _, ?_, HJ3.out.wg⟩
  have h := HJ3.out.ws
  have h2 : xs ++ wT s = zs ++ bytesOf s := by rw [HZS.out, List.append_assoc]; rfl
  rw [h2]
  exact h
set_option maxHeartbeats 1000000 in
theorem flag_any (b : Bool) (wb : Nat) (v : Value) (xs : List Int) (w0 w : World) (hS : WS w wb w0.heap.size v xs) (hB : Below w0.heap.size w0 w) (hi : w0.heap.size ≤ wb) (hlen : xs.length + 1 ≤ 1099511627776) :
    Calls Try.prog 84 #[.pointer (some ⟨wb, 0, none⟩), .bool b] w (WPost w0 w wb v (xs ++ wF b)) := by
  have hlt := blk_lt hS.blk
  have hol := own_lt hS.own
  have HS := Aside0.mk hS
  have HB := Aside0.mk hB
  have HOL := Lib.hid hol
  clear hS hB hol
  cases b with
  | true =>
    have hC := lit_C w [(1 : Int)] (by simp)
    have hJ0 := (WJ.start HS.out HB.out hi).alloc #[.int .i64 1] 3 (by decide) (by decide)
    have HJ0 := Aside0.mk hJ0
    have HC := Aside0.mk hC
    clear hJ0 hC
    go_enter Try.func84, Try.ntmps84
    go_wp2_with fail
    refine (number_any (some ⟨w.heap.size, 0, none⟩) 1 1 [(1 : Int)] wb v xs w0 _ HC.out (fun _ ad he => by
      injection he with he
      subst he
      exact ⟨by show w.heap.size ≠ wb; omega, fun h => by have := HOL.out _ h.symm; (have h2 : w.heap.size < w.heap.size := this); omega, by show w.heap.size < (w.alloc _).heap.size; simp⟩) HJ0.out.ws HJ0.out.bel HJ0.out.hi (by simp) (by simp [wN_small]; omega)).mono ?_
    rintro e w1 ⟨rfl, v1, hs1, hg1⟩
    have HJ1 := Aside0.mk (HJ0.out.step hs1 hg1)
    clear hs1 hg1
    go_wp2_with fail
    go_end0
    refine ⟨rfl, v1, ?_, HJ1.out.wg⟩
    have h := HJ1.out.ws
    simpa [wN_small, wF] using h
  | false =>
    have hC := lit_C w [(0 : Int)] (by simp)
    have hJ0 := (WJ.start HS.out HB.out hi).alloc #[.int .i64 0] 3 (by decide) (by decide)
    have HJ0 := Aside0.mk hJ0
    have HC := Aside0.mk hC
    clear hJ0 hC
    go_enter Try.func84, Try.ntmps84
    go_wp2_with fail
    refine (number_any (some ⟨w.heap.size, 0, none⟩) 1 1 [(0 : Int)] wb v xs w0 _ HC.out (fun _ ad he => by
      injection he with he
      subst he
      exact ⟨by show w.heap.size ≠ wb; omega, fun h => by have := HOL.out _ h.symm; (have h2 : w.heap.size < w.heap.size := this); omega, by show w.heap.size < (w.alloc _).heap.size; simp⟩) HJ0.out.ws HJ0.out.bel HJ0.out.hi (by simp) (by simp [wN_small]; omega)).mono ?_
    rintro e w1 ⟨rfl, v1, hs1, hg1⟩
    have HJ1 := Aside0.mk (HJ0.out.step hs1 hg1)
    clear hs1 hg1
    go_wp2_with fail
    go_end0
    refine ⟨rfl, v1, ?_, HJ1.out.wg⟩
    have h := HJ1.out.ws
    simpa [wN_small, wF] using h
end Go.Proofs.Ytcmgdieeclninaa

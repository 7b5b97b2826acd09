/- Layer 8, plain: what a catalog is as data, the kinds of its parts, when one may be. No program in sight. -/
import Derived.Test.YtcmgdieeclninaaWWords
set_option linter.unusedVariables false
set_option linter.unusedSimpArgs false
namespace Go.Proofs.Ytcmgdieeclninaa
open Go.RowKit Go.Proofs.YtcmgdieeclninaaW.PrintWords
structure Col where
  name : ByteArray
  type : Int
  notNull : Bool
structure Idx where
  name : ByteArray
  columns : List Int
  unique : Bool
structure Tab where
  name : ByteArray
  cols : List Col
  key : List Int
  part : Int
  idx : List Idx
structure Prm where
  name : ByteArray
  type : Int
structure Prc where
  name : ByteArray
  params : List Prm
  body : List ByteArray
  rows : Int
  bytes : Int
structure Cat where
  tables : List Tab
  procs : List Prc
instance : Inhabited Col := ⟨⟨ByteArray.empty, 0, false⟩⟩
instance : Inhabited Idx := ⟨⟨ByteArray.empty, [], false⟩⟩
instance : Inhabited Tab := ⟨⟨ByteArray.empty, [], [], 0, []⟩⟩
instance : Inhabited Prm := ⟨⟨ByteArray.empty, 0⟩⟩
instance : Inhabited Prc := ⟨⟨ByteArray.empty, [], [], 0, 0⟩⟩
def kCol : Kd Col := Kd.iso (Kd.pair Kd.string (Kd.pair (Kd.int .i64) Kd.bool)) (fun c => (c.name, c.type, c.notNull))
def kIdx : Kd Idx := Kd.iso (Kd.pair Kd.string (Kd.pair (Kd.slice 3 (Kd.int .i64)) Kd.bool)) (fun c => (c.name, c.columns, c.unique))
def kTab : Kd Tab := Kd.iso (Kd.pair Kd.string (Kd.pair (Kd.slice 62 kCol) (Kd.pair (Kd.slice 3 (Kd.int .i64)) (Kd.pair (Kd.int .i64) (Kd.slice 64 kIdx))))) (fun t => (t.name, t.cols, t.key, t.part, t.idx))
def kPrm : Kd Prm := Kd.iso (Kd.pair Kd.string (Kd.int .i64)) (fun c => (c.name, c.type))
def kPrc : Kd Prc := Kd.iso (Kd.pair Kd.string (Kd.pair (Kd.slice 66 kPrm) (Kd.pair (Kd.slice 9 Kd.string) (Kd.pair (Kd.int .i64) (Kd.int .i64))))) (fun p => (p.name, p.params, p.body, p.rows, p.bytes))
def kCat : Kd Cat := Kd.iso (Kd.pair (Kd.slice 30 kTab) (Kd.slice 34 kPrc)) (fun c => (c.tables, c.procs))
/-- A slice as a value that reads as a list. -/
def Sl {α : Type} (d : Kd α) (w : World) (v : Value) (xs : List α) : Prop := ∃ A c, v = .slice A xs.length c ∧ xs.length ≤ c ∧ d.C w A xs.length xs
theorem kCol_K {w : World} {x : Col} {cs : List Value} : kCol.K w x cs ↔ cs = [.string x.name, .int .i64 x.type, .bool x.notNull] := by
  constructor
  · rintro ⟨c0, c1, rfl, rfl, c2, c3, rfl, rfl, rfl⟩; rfl
  · rintro rfl; exact ⟨[_], [_, _], rfl, rfl, [_], [_], rfl, rfl, rfl⟩
theorem kPrm_K {w : World} {x : Prm} {cs : List Value} : kPrm.K w x cs ↔ cs = [.string x.name, .int .i64 x.type] := by
  constructor
  · rintro ⟨c0, c1, rfl, rfl, rfl⟩; rfl
  · rintro rfl; exact ⟨[_], [_], rfl, rfl, rfl⟩
theorem kIdx_K {w : World} {x : Idx} {cs : List Value} : kIdx.K w x cs ↔ ∃ v, cs = [.string x.name, v, .bool x.unique] ∧ Sl (Kd.int .i64) w v x.columns := by
  constructor
  · rintro ⟨c0, c1, rfl, rfl, c2, c3, rfl, ⟨A, c, rfl, hl, hC⟩, rfl⟩
    exact ⟨_, rfl, A, c, rfl, hl, hC⟩
  · rintro ⟨v, rfl, A, c, rfl, hl, hC⟩
    exact ⟨[_], [_, _], rfl, rfl, [_], [_], rfl, ⟨A, c, rfl, hl, hC⟩, rfl⟩
theorem kTab_K {w : World} {x : Tab} {cs : List Value} : kTab.K w x cs ↔ ∃ v1 v2 v3, cs = [.string x.name, v1, v2, .int .i64 x.part, v3] ∧ Sl kCol w v1 x.cols ∧ Sl (Kd.int .i64) w v2 x.key ∧ Sl kIdx w v3 x.idx := by
  constructor
  · rintro ⟨c0, c1, rfl, rfl, c2, c3, rfl, ⟨A1, d1, rfl, hl1, hC1⟩, c4, c5, rfl, ⟨A2, d2, rfl, hl2, hC2⟩, c6, c7, rfl, rfl, ⟨A3, d3, rfl, hl3, hC3⟩⟩
    exact ⟨_, _, _, rfl, ⟨A1, d1, rfl, hl1, hC1⟩, ⟨A2, d2, rfl, hl2, hC2⟩, ⟨A3, d3, rfl, hl3, hC3⟩⟩
  · rintro ⟨v1, v2, v3, rfl, ⟨A1, d1, rfl, hl1, hC1⟩, ⟨A2, d2, rfl, hl2, hC2⟩, ⟨A3, d3, rfl, hl3, hC3⟩⟩
    exact ⟨[_], [_, _, _, _], rfl, rfl, [_], [_, _, _], rfl, ⟨A1, d1, rfl, hl1, hC1⟩, [_], [_, _], rfl, ⟨A2, d2, rfl, hl2, hC2⟩, [_], [_], rfl, rfl, ⟨A3, d3, rfl, hl3, hC3⟩⟩
theorem kPrc_K {w : World} {x : Prc} {cs : List Value} : kPrc.K w x cs ↔ ∃ v1 v2, cs = [.string x.name, v1, v2, .int .i64 x.rows, .int .i64 x.bytes] ∧ Sl kPrm w v1 x.params ∧ Sl Kd.string w v2 x.body := by
  constructor
  · rintro ⟨c0, c1, rfl, rfl, c2, c3, rfl, ⟨A1, d1, rfl, hl1, hC1⟩, c4, c5, rfl, ⟨A2, d2, rfl, hl2, hC2⟩, c6, c7, rfl, rfl, rfl⟩
    exact ⟨_, _, rfl, ⟨A1, d1, rfl, hl1, hC1⟩, ⟨A2, d2, rfl, hl2, hC2⟩⟩
  · rintro ⟨v1, v2, rfl, ⟨A1, d1, rfl, hl1, hC1⟩, ⟨A2, d2, rfl, hl2, hC2⟩⟩
    exact ⟨[_], [_, _, _, _], rfl, rfl, [_], [_, _, _], rfl, ⟨A1, d1, rfl, hl1, hC1⟩, [_], [_, _], rfl, ⟨A2, d2, rfl, hl2, hC2⟩, [_], [_], rfl, rfl, rfl⟩
theorem kCat_K {w : World} {x : Cat} {cs : List Value} : kCat.K w x cs ↔ ∃ v1 v2, cs = [v1, v2] ∧ Sl kTab w v1 x.tables ∧ Sl kPrc w v2 x.procs := by
  constructor
  · rintro ⟨c0, c1, rfl, ⟨A1, d1, rfl, hl1, hC1⟩, ⟨A2, d2, rfl, hl2, hC2⟩⟩
    exact ⟨_, _, rfl, ⟨A1, d1, rfl, hl1, hC1⟩, ⟨A2, d2, rfl, hl2, hC2⟩⟩
  · rintro ⟨v1, v2, rfl, ⟨A1, d1, rfl, hl1, hC1⟩, ⟨A2, d2, rfl, hl2, hC2⟩⟩
    exact ⟨[_], [_], rfl, ⟨A1, d1, rfl, hl1, hC1⟩, ⟨A2, d2, rfl, hl2, hC2⟩⟩
theorem Sl.below {α : Type} {d : Kd α} {w w1 : World} {v : Value} {xs : List α} (h : Sl d w v xs) (hb : Below w.heap.size w w1) : Sl d w1 v xs := by
  obtain ⟨A, c, e, hl, hC⟩ := h
  exact ⟨A, c, e, hl, Kd.C_below hC hb⟩
/-- An element's cells. -/
theorem C_at {α : Type} {d : Kd α} {w : World} {A : Option Addr} {n : Nat} {xs : List α} (h : d.C w A n xs) (k : Nat) (hk : k < n) (z : α) :
    ∃ ad c, A = some ad ∧ c.length = d.sz ∧ d.K w (xs.getD k z) c ∧ ∀ j u, c[j]? = some u → w.cell? (ad.add (k * d.sz + j)) = some u := by
  obtain ⟨ad, c, e, h1, h2, h3⟩ := Kd.C_get h z (k : Int) (by omega) (by omega)
  exact ⟨ad, c, e, h1, by simpa using h2, fun j u hj => by simpa using h3 j u hj⟩

/-! ### when one may be -/
def nbB (b : UInt8) : Prop := b.toNat = 95 ∨ (48 ≤ b.toNat ∧ b.toNat ≤ 57) ∨ (97 ≤ b.toNat ∧ b.toNat ≤ 122)
instance (b : UInt8) : Decidable (nbB b) := by unfold nbB; infer_instance
/-- A name. -/
def NameOk (s : ByteArray) : Prop := 1 ≤ s.size ∧ s.size ≤ 16 ∧ 97 ≤ (s.data.toList.getD 0 0).toNat ∧ (s.data.toList.getD 0 0).toNat ≤ 122 ∧ ∀ b ∈ s.data.toList, nbB b
instance (s : ByteArray) : Decidable (NameOk s) := by unfold NameOk; infer_instance
def NamesOk (l : List ByteArray) : Prop := (∀ s ∈ l, NameOk s) ∧ l.Nodup
instance (l : List ByteArray) : Decidable (NamesOk l) := by unfold NamesOk; infer_instance
def PlacesOk (l : List Int) (many : Int) : Prop := 1 ≤ l.length ∧ l.length ≤ 8 ∧ (∀ n ∈ l, 0 ≤ n ∧ n < many) ∧ l.Nodup
instance (l : List Int) (many : Int) : Decidable (PlacesOk l many) := by unfold PlacesOk; infer_instance
def TypeOk (n : Int) : Prop := 1 ≤ n ∧ n ≤ 3
instance (n : Int) : Decidable (TypeOk n) := by unfold TypeOk; infer_instance
def MayTab (t : Tab) : Prop :=
  NameOk t.name ∧ 1 ≤ t.cols.length ∧ t.cols.length ≤ 16 ∧ t.idx.length ≤ 4 ∧ NamesOk (t.cols.map (·.name)) ∧ (∀ c ∈ t.cols, TypeOk c.type) ∧ PlacesOk t.key t.cols.length ∧
    (∀ k ∈ t.key, (t.cols.getD k.toNat default).notNull = true) ∧ t.part ∈ t.key ∧ (∀ x ∈ t.idx, PlacesOk x.columns t.cols.length) ∧ NamesOk (t.idx.map (·.name))
instance (t : Tab) : Decidable (MayTab t) := by unfold MayTab; infer_instance
def MayPrc (p : Prc) : Prop :=
  NameOk p.name ∧ (0 ≤ p.rows ∧ p.rows ≤ 1048576) ∧ (0 ≤ p.bytes ∧ p.bytes ≤ 1048576) ∧ p.params.length ≤ 8 ∧ 1 ≤ p.body.length ∧ p.body.length ≤ 8 ∧
    NamesOk (p.params.map (·.name)) ∧ (∀ c ∈ p.params, TypeOk c.type) ∧ ∀ s ∈ p.body, 1 ≤ s.size ∧ s.size ≤ 1000
instance (p : Prc) : Decidable (MayPrc p) := by unfold MayPrc; infer_instance
def RightCat (c : Cat) : Prop :=
  c.tables.length ≤ 8 ∧ c.procs.length ≤ 16 ∧ (∀ t ∈ c.tables, MayTab t) ∧ (∀ p ∈ c.procs, MayPrc p) ∧ NamesOk (c.tables.map (·.name)) ∧ NamesOk (c.procs.map (·.name))
instance (c : Cat) : Decidable (RightCat c) := by unfold RightCat; infer_instance
end Go.Proofs.Ytcmgdieeclninaa

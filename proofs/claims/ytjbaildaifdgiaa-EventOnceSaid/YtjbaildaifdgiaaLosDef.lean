/-
  Losses (structs of ten ints) and windows (of three), as lists.
-/
import Derived.Test.YtjbaildaifdgiaaOwn
namespace Go.Proofs.Ytjbaildaifdgiaa
open Go.RowKit
set_option linter.unusedVariables false

structure Los where
  id : Int
  pol : Int
  risk : Int
  hour : Int
  peril : Int
  area : Int
  cur : Int
  sum : Int
  amt : Int
  paid : Int
def Los.cells (l : Los) : List Value := [.int .i64 l.id, .int .i64 l.pol, .int .i64 l.risk, .int .i64 l.hour, .int .i64 l.peril, .int .i64 l.area, .int .i64 l.cur, .int .i64 l.sum, .int .i64 l.amt, .int .i64 l.paid]
def Losses (w : World) (lo : Nat) (A : Option Addr) (xs : List Los) : Prop := Sl w lo 10 A (xs.map Los.cells)

section
variable {w w' : World} {lo lo' : Nat} {A : Option Addr} {xs : List Los}
theorem Losses.below (h : Losses w lo A xs) (hb : Below w.heap.size w w') : Losses w' lo A xs := Sl.below h hb
theorem Losses.grown (h : Losses w lo A xs) {row : Option Nat} (hg : w.grownBy w' row) (hr : ∀ g, row = some g → g < lo) : Losses w' lo A xs := Sl.grown h hg hr
theorem Losses.low (h : Losses w lo A xs) (hl : lo' ≤ lo) : Losses w lo' A xs := Sl.low h hl
theorem Losses.at_ (h : Losses w lo A xs) {i : Nat} {x : Los} (hx : xs[i]? = some x) : ∃ b off, A = some ⟨b, off, none⟩ ∧ lo ≤ b ∧ b < w.heap.size ∧ w.cell? ⟨b, off + i * 10, none⟩ = some (.int .i64 x.id) ∧ w.cell? ⟨b, off + i * 10 + 1, none⟩ = some (.int .i64 x.pol) ∧ w.cell? ⟨b, off + i * 10 + 2, none⟩ = some (.int .i64 x.risk) ∧ w.cell? ⟨b, off + i * 10 + 3, none⟩ = some (.int .i64 x.hour) ∧ w.cell? ⟨b, off + i * 10 + 4, none⟩ = some (.int .i64 x.peril) ∧ w.cell? ⟨b, off + i * 10 + 5, none⟩ = some (.int .i64 x.area) ∧ w.cell? ⟨b, off + i * 10 + 6, none⟩ = some (.int .i64 x.cur) ∧ w.cell? ⟨b, off + i * 10 + 7, none⟩ = some (.int .i64 x.sum) ∧ w.cell? ⟨b, off + i * 10 + 8, none⟩ = some (.int .i64 x.amt) ∧ w.cell? ⟨b, off + i * 10 + 9, none⟩ = some (.int .i64 x.paid) := by
  obtain ⟨b, off, e, h1, h2, hc⟩ := Sl.at_ (i := i) (x := Los.cells x) h (by simp [hx])
  exact ⟨b, off, e, h1, h2, by simpa using hc 0 _ rfl, hc 1 _ rfl, hc 2 _ rfl, hc 3 _ rfl, hc 4 _ rfl, hc 5 _ rfl, hc 6 _ rfl, hc 7 _ rfl, hc 8 _ rfl, hc 9 _ rfl⟩
end
theorem losses_of_own {w : World} {base : Nat} {e : TypeId} {xs : List Los} {A : Option Addr} {c : Nat} (h : w.ownsRow base e 10 (.slice A xs.length c) xs.length (xs.flatMap Los.cells)) : Losses w base A xs :=
  sl_of_own (enc := Los.cells) (fun _ => rfl) h

/-- What the decks make. -/
def LosOk (l : Los) : Prop := 1 ≤ l.id ∧ 0 ≤ l.pol ∧ l.pol < 5 ∧ 0 ≤ l.risk ∧ l.risk < 5 ∧ 0 ≤ l.hour ∧ l.hour < 90 ∧ 0 ≤ l.peril ∧ l.peril < 3 ∧ 0 ≤ l.area ∧ l.area < 3 ∧ 0 ≤ l.cur ∧ l.cur < 2 ∧ 0 ≤ l.sum ∧ l.sum < 268435456 ∧ 0 ≤ l.amt ∧ l.amt < 268435456 ∧ 0 ≤ l.paid ∧ l.paid ≤ l.amt
structure MadeLos (xs : List Los) (last : Int) : Prop where
  each : ∀ l ∈ xs, LosOk l ∧ l.id ≤ last
  asc : xs.Pairwise (fun p q => p.id < q.id)
theorem MadeLos.nil : MadeLos [] 0 := ⟨by simp, List.Pairwise.nil⟩
theorem MadeLos.snoc {xs : List Los} {last : Int} (h : MadeLos xs last) {l : Los} (hl : LosOk l) (hid : last < l.id) : MadeLos (xs ++ [l]) l.id := by
  refine ⟨fun p hp => ?_, ?_⟩
  · rcases List.mem_append.1 hp with hp | hp
    · have := h.each p hp; exact ⟨this.1, by omega⟩
    · obtain rfl : p = _ := by simpa using hp
      exact ⟨hl, Int.le_refl _⟩
  · rw [List.pairwise_append]
    refine ⟨h.asc, by simp, fun a ha b hb => ?_⟩
    obtain rfl : b = _ := by simpa using hb
    have := (h.each a ha).2
    omega

structure Win where
  peril : Int
  fr : Int
  to : Int
def Win.cells (l : Win) : List Value := [.int .i64 l.peril, .int .i64 l.fr, .int .i64 l.to]
def Wins (w : World) (lo : Nat) (A : Option Addr) (xs : List Win) : Prop := Sl w lo 3 A (xs.map Win.cells)
section
variable {w w' : World} {lo lo' : Nat} {A : Option Addr} {xs : List Win}
theorem Wins.below (h : Wins w lo A xs) (hb : Below w.heap.size w w') : Wins w' lo A xs := Sl.below h hb
theorem Wins.grown (h : Wins w lo A xs) {row : Option Nat} (hg : w.grownBy w' row) (hr : ∀ g, row = some g → g < lo) : Wins w' lo A xs := Sl.grown h hg hr
theorem Wins.low (h : Wins w lo A xs) (hl : lo' ≤ lo) : Wins w lo' A xs := Sl.low h hl
theorem Wins.at_ (h : Wins w lo A xs) {i : Nat} {x : Win} (hx : xs[i]? = some x) : ∃ b off, A = some ⟨b, off, none⟩ ∧ lo ≤ b ∧ b < w.heap.size ∧ w.cell? ⟨b, off + i * 3, none⟩ = some (.int .i64 x.peril) ∧ w.cell? ⟨b, off + i * 3 + 1, none⟩ = some (.int .i64 x.fr) ∧ w.cell? ⟨b, off + i * 3 + 2, none⟩ = some (.int .i64 x.to) := by
  obtain ⟨b, off, e, h1, h2, hc⟩ := Sl.at_ (i := i) (x := Win.cells x) h (by simp [hx])
  exact ⟨b, off, e, h1, h2, by simpa using hc 0 _ rfl, hc 1 _ rfl, hc 2 _ rfl⟩
end
theorem wins_of_own {w : World} {base : Nat} {e : TypeId} {xs : List Win} {A : Option Addr} {c : Nat} (h : w.ownsRow base e 3 (.slice A xs.length c) xs.length (xs.flatMap Win.cells)) : Wins w base A xs :=
  sl_of_own (enc := Win.cells) (fun _ => rfl) h

end Go.Proofs.Ytjbaildaifdgiaa

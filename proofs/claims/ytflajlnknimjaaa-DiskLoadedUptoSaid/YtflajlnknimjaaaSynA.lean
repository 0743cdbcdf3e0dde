/- Plain words for memory: what has changed (Chg), blocks known whole, rows of bytes. No function of the program is walked here. -/
import Derived.Test.YtflajlnknimjaaaWKept
import Derived.Test.YtflajlnknimjaaaWMore
namespace Go.Proofs.Ytflajlnknimjaaa.Syn
open Go.RowKit Go.Proofs.YtflajlnknimjaaaW.PrintWords

/-- From w to w' only blocks of F have changed, and new ones have come. -/
structure Chg (F : Nat → Prop) (w w' : World) : Prop where
  os : w'.os = w.os
  tape : w'.tape = w.tape
  output : w'.output = w.output
  size : w.heap.size ≤ w'.heap.size
  block : ∀ k, k < w.heap.size → ¬ F k → w'.heap[k]? = w.heap[k]?

/-- F and what is new. -/
def Gr (F : Nat → Prop) (w w' : World) : Nat → Prop := fun k => F k ∨ (w.heap.size ≤ k ∧ k < w'.heap.size)

section
variable {F G : Nat → Prop} {w w1 w2 : World}
theorem Chg.refl (F : Nat → Prop) (w : World) : Chg F w w := ⟨rfl, rfl, rfl, Nat.le_refl _, fun _ _ _ => rfl⟩
theorem Chg.mono (h : Chg F w w1) (hs : ∀ k, F k → G k) : Chg G w w1 := ⟨h.os, h.tape, h.output, h.size, fun k hk hn => h.block k hk (fun hf => hn (hs k hf))⟩
theorem Chg.trans (h : Chg F w w1) (k : Chg G w1 w2) (hs : ∀ k, G k → F k ∨ w.heap.size ≤ k) : Chg F w w2 :=
  ⟨k.os.trans h.os, k.tape.trans h.tape, k.output.trans h.output, Nat.le_trans h.size k.size, fun i hi hn =>
    (k.block i (Nat.lt_of_lt_of_le hi h.size) (fun h2 => (hs i h2).elim hn (fun h3 => by omega))).trans (h.block i hi hn)⟩
theorem Chg.then_ (h : Chg F w w1) (k : Chg (Gr F w w1) w1 w2) : Chg F w w2 := h.trans k (fun _ hk => hk.elim .inl (fun h => .inr h.1))
theorem Chg.same (h : Chg F w w1) (k : Chg F w1 w2) : Chg F w w2 := h.trans k (fun _ hk => .inl hk)
theorem Chg.of_below (h : Below w.heap.size w w1) : Chg F w w1 := ⟨h.os, h.tape, h.output, h.size, fun i hi _ => h.block i hi⟩
theorem Chg.of_drawn (h : Drawn0 w w1) : Chg F w w1 := .of_below h.below
theorem Chg.of_grown {row : Option Nat} (h : w.grownBy w1 row) (hr : ∀ k, row = some k → F k ∨ w.heap.size ≤ k) : Chg F w w1 :=
  ⟨h.os, h.tape, h.output, h.size, fun i hi hn => h.block i hi (fun e => (hr i e.symm).elim hn (fun h3 => by omega))⟩
theorem Chg.drewN (w : World) (n : Nat) : Chg F w (w.drewN n) := .of_below (pw_below_drewN (Below.refl _ _) n)
theorem Chg.drew (w : World) : Chg F w w.drew := .of_below (below_drew (Below.refl _ _))
theorem Chg.alloc (w : World) (o : Obj) : Chg F w (w.alloc o) := .of_below (below_alloc (Below.refl _ _) o)
theorem Chg.setCell (w : World) {p : Addr} (hp : F p.block) (u : Value) : Chg F w (w.setCell p u) :=
  ⟨rfl, rfl, rfl, by simp [World.setCell], fun i _ hn => Below.heap_setCell w p u i (fun e => hn (e ▸ hp))⟩
theorem Chg.below (h : Chg F w w1) {B : Nat} (hF : ∀ k, F k → B ≤ k) (hB : B ≤ w.heap.size) : Below B w w1 :=
  ⟨h.os, h.tape, h.output, h.size, fun i hi => h.block i (by omega) (fun hf => by have := hF i hf; omega)⟩
theorem Chg.heap (h : Chg F w w1) {g : Nat} {o : Obj} (hg : w.heap[g]? = some o) (hn : ¬ F g) : w1.heap[g]? = some o := (h.block g (blk_lt hg) hn).trans hg
theorem Chg.cell (h : Chg F w w1) {a : Addr} {v : Value} (hc : w.cell? a = some v) (hn : ¬ F a.block) : w1.cell? a = some v := by
  have := h.block a.block (World.block_lt_of_cell? w a hc) hn
  simpa [World.cell?, this] using hc
theorem Chg.kept (h : Chg F w w1) : Kept w w1 F := ⟨h.size, h.block⟩
theorem Gr.mono (k : Nat) (h : F k) : Gr F w w1 k := .inl h
theorem Gr.trans (h1 : Chg G w w1) (h2 : Chg G w1 w2) (k : Nat) (h : Gr (Gr F w w1) w1 w2 k) : Gr F w w2 k := by
  rcases h with (h | h) | h
  · exact .inl h
  · exact .inr ⟨h.1, Nat.lt_of_lt_of_le h.2 h2.size⟩
  · exact .inr ⟨Nat.le_trans h1.size h.1, h.2⟩
theorem Gr.wide (h2 : Chg G w1 w2) (k : Nat) (h : Gr F w w1 k) : Gr F w w2 k := h.elim .inl (fun h => .inr ⟨h.1, Nat.lt_of_lt_of_le h.2 h2.size⟩)
end

/-! blocks known whole -/
section
variable {w : World} {g t : Nat}
theorem sb_cell {cs : Array Value} {fr : Nat × Nat} (h : w.heap[g]? = some (.cells cs t fr)) (i : Nat) : w.cell? ⟨g, i, none⟩ = cs[i]? := cell_of_row w g i cs t fr h
theorem sb_free {cs : Array Value} (h : w.heap[g]? = some (.cells cs t (0, 0))) (i : Nat) : w.frozen? ⟨g, i, none⟩ = false := by simp [World.frozen?, h]
theorem sb_set {cs : Array Value} {fr : Nat × Nat} (h : w.heap[g]? = some (.cells cs t fr)) (i : Nat) (u : Value) : (w.setCell ⟨g, i, none⟩ u).heap[g]? = some (.cells (cs.setIfInBounds i u) t fr) := by
  simp [World.setCell, Array.getElem?_modify, h]
theorem sb_far {o : Obj} (h : w.heap[g]? = some o) {p : Addr} (hp : g ≠ p.block) (u : Value) : (w.setCell p u).heap[g]? = some o := (Below.heap_setCell w p u g hp).trans h
theorem sb_new (w : World) (o : Obj) : (w.alloc o).heap[w.heap.size]? = some o := heap_alloc_new w o
theorem sb_alloc {o : Obj} (h : w.heap[g]? = some o) (o' : Obj) : (w.alloc o').heap[g]? = some o := (Below.heap_alloc w o' g (blk_lt h)).trans h
end

end Go.Proofs.Ytflajlnknimjaaa.Syn

/- Merged: It, SynA, DkP, DkR, DkW1, DkW2, DkW3. -/
import Derived.Shelf.SlIter.Nil
import Derived.Shelf.SortM.Plain
import Derived.Shelf.SortM.SortNone
import Derived.Ground.GgzProg
import Derived.Ground.SlgmProg
import Derived.Test.YtflajlnknimjaaaProg
import Derived.Test.YtflajlnknimjaaaWKept
import Derived.Test.YtflajlnknimjaaaWMore
import Derived.WideShapes
import Derived.WideAt
import Derived.MapViews
import Derived.Test.YtflajlnknimjaaaPDiskLoadsx0
import Derived.Maps.OwnSet
import Derived.Maps.RangeWalk
import Derived.Test.YtflajlnknimjaaaPDiskLoadsx1
import Derived.WalkSpells
import Derived.StringKeys
import Derived.Lib.Hide
set_option linter.unusedVariables false
set_option linter.unusedSimpArgs false
/-
  DERIVED: THE SHELF's CONTRACTS AT THIS DUMP, IN PLAIN WORDS (tools/lay-plain.mjs out of 'YtflajlnknimjaaaItL.lean', which tools/lay-shelf.mjs wrote): THE SAME DECLARATIONS UNDER THE SAME NAMES: 'import', 'namespace', 'open', 'def', 'theorem' AND NOTHING ELSE: no command of the shelf's: FOR A HAND-IN. Each laying: the table of numbers ('.._ren') and one theorem, a field a fact of the dump's own or the kernel's comparison; each contract: ONE APPLICATION.
-/
namespace Go.Proofs
open Go.Shelf
def Try.keys42_ren : Go.Shelf.Ren := ⟨fun | 7 => 42 | 10 => 61 | n => n, fun | 23 => 62 | 26 => 9 | 3 => 66 | 28 => 73 | 0 => 0 | 27 => 72 | 33 => 65 | 4 => 4 | n => n, fun | n => n⟩
theorem Try.keys42 : Go.Proofs.SlLaysZ.n7 Try.prog Try.keys42_ren := {
  mixed := by kernel_rfl
  f7 := ⟨Try.f42.name, by decide, Try.func42.trans (congrArg some (by kernel_rfl))⟩
  f10 := ⟨Try.f61.name, by decide, Try.func61.trans (congrArg some (by kernel_rfl))⟩
  t0 := Try.underlying0
  a0 := Try.isAgg0
  z0 := Try.sizeOf0
  v0 := Try.zeroValue0
  t4 := Try.underlying4
  a4 := Try.isAgg4
  z4 := Try.sizeOf4
  v4 := Try.zeroValue4
  t23 := Try.underlying62
  a23 := Try.isAgg62
  z23 := Try.sizeOf62
  v23 := Try.zeroValue62
  t26 := Try.underlying9
  a26 := Try.isAgg9
  z26 := Try.sizeOf9
  v26 := Try.zeroValue9
  t27 := Try.underlying72
  a27 := Try.isAgg72
  z27 := Try.sizeOf72
  v27 := Try.zeroValue72
  t28 := Try.underlying73
  a28 := Try.isAgg73
  z28 := Try.sizeOf73
  v28 := Try.zeroValue73
  t33 := Try.underlying65
  a33 := Try.isAgg65
  z33 := Try.sizeOf65
  v33 := Try.zeroValue65 }
def Try.sorted41_ren : Go.Shelf.Ren := ⟨fun | 6 => 41 | 8 => 59 | 9 => 60 | 11 => 63 | 13 => 65 | 12 => 64 | 23 => 75 | 24 => 76 | 14 => 66 | 15 => 67 | 16 => 68 | 17 => 69 | 18 => 70 | 19 => 71 | 20 => 72 | 21 => 73 | 22 => 74 | 25 => 77 | 26 => 78 | 27 => 79 | 28 => 80 | 29 => 81 | 30 => 82 | 31 => 83 | n => n, fun | 26 => 9 | 28 => 73 | 24 => 22 | 0 => 0 | 3 => 3 | 37 => 89 | 48 => 100 | 50 => 102 | 4 => 4 | 40 => 92 | 39 => 91 | 45 => 97 | 5 => 5 | 9 => 9 | 51 => 103 | 55 => 107 | 57 => 109 | 58 => 110 | 33 => 65 | n => n, fun | n => n⟩
theorem Try.sorted41 : Go.Proofs.SlLaysZ.n6 Try.prog Try.sorted41_ren := {
  mixed := by kernel_rfl
  f6 := ⟨Try.f41.name, by decide, Try.func41.trans (congrArg some (by kernel_rfl))⟩
  f8 := ⟨Try.f59.name, by decide, Try.func59.trans (congrArg some (by kernel_rfl))⟩
  f11 := ⟨Try.f63.name, by decide, Try.func63.trans (congrArg some (by kernel_rfl))⟩
  t0 := Try.underlying0
  a0 := Try.isAgg0
  z0 := Try.sizeOf0
  v0 := Try.zeroValue0
  t24 := Try.underlying22
  a24 := Try.isAgg22
  z24 := Try.sizeOf22
  v24 := Try.zeroValue22
  t26 := Try.underlying9
  a26 := Try.isAgg9
  z26 := Try.sizeOf9
  v26 := Try.zeroValue9
  t28 := Try.underlying73
  a28 := Try.isAgg73
  z28 := Try.sizeOf73
  v28 := Try.zeroValue73
  i26 := by kernel_rfl }
def Try.sort60_ren : Go.Shelf.Ren := ⟨fun | 6 => 60 | 8 => 65 | 9 => 64 | 19 => 75 | 20 => 76 | 21 => 66 | 22 => 67 | 23 => 68 | 24 => 69 | 25 => 70 | 26 => 71 | 27 => 72 | 28 => 73 | 29 => 74 | 36 => 77 | 31 => 78 | 32 => 79 | 37 => 80 | 38 => 81 | 39 => 82 | 41 => 83 | n => n, fun | 27 => 22 | 29 => 9 | 3 => 3 | 32 => 89 | 26 => 22 | 0 => 0 | 44 => 100 | 46 => 102 | 4 => 4 | 36 => 92 | 35 => 91 | 41 => 97 | 5 => 5 | 9 => 9 | 53 => 103 | 57 => 107 | 63 => 109 | 64 => 110 | n => n, fun | n => n⟩
theorem Try.sort60 : Go.Proofs.SlLaysM.n6 Try.prog Try.sort60_ren := {
  mixed := by kernel_rfl
  f6 := ⟨Try.f60.name, by decide, Try.func60.trans (congrArg some (by kernel_rfl))⟩
  f8 := Try.func65.trans (congrArg some (by kernel_rfl))
  f9 := ⟨Try.f64.name, by decide, Try.func64.trans (congrArg some (by kernel_rfl))⟩
  f19 := Try.func75.trans (congrArg some (by kernel_rfl))
  f20 := Try.func76.trans (congrArg some (by kernel_rfl))
  f21 := ⟨Try.f66.name, by decide, Try.func66.trans (congrArg some (by kernel_rfl))⟩
  f22 := ⟨Try.f67.name, by decide, Try.func67.trans (congrArg some (by kernel_rfl))⟩
  f23 := ⟨Try.f68.name, by decide, Try.func68.trans (congrArg some (by kernel_rfl))⟩
  f24 := ⟨Try.f69.name, by decide, Try.func69.trans (congrArg some (by kernel_rfl))⟩
  f25 := ⟨Try.f70.name, by decide, Try.func70.trans (congrArg some (by kernel_rfl))⟩
  f26 := ⟨Try.f71.name, by decide, Try.func71.trans (congrArg some (by kernel_rfl))⟩
  f27 := ⟨Try.f72.name, by decide, Try.func72.trans (congrArg some (by kernel_rfl))⟩
  f28 := ⟨Try.f73.name, by decide, Try.func73.trans (congrArg some (by kernel_rfl))⟩
  f29 := ⟨Try.f74.name, by decide, Try.func74.trans (congrArg some (by kernel_rfl))⟩
  f31 := Try.func78.trans (congrArg some (by kernel_rfl))
  f32 := Try.func79.trans (congrArg some (by kernel_rfl))
  f36 := ⟨Try.f77.name, by decide, Try.func77.trans (congrArg some (by kernel_rfl))⟩
  f37 := ⟨Try.f80.name, by decide, Try.func80.trans (congrArg some (by kernel_rfl))⟩
  f38 := ⟨Try.f81.name, by decide, Try.func81.trans (congrArg some (by kernel_rfl))⟩
  f39 := ⟨Try.f82.name, by decide, Try.func82.trans (congrArg some (by kernel_rfl))⟩
  f41 := ⟨Try.f83.name, by decide, Try.func83.trans (congrArg some (by kernel_rfl))⟩
  t0 := Try.underlying0
  a0 := Try.isAgg0
  z0 := Try.sizeOf0
  v0 := Try.zeroValue0
  t3 := Try.underlying3
  a3 := Try.isAgg3
  z3 := Try.sizeOf3
  v3 := Try.zeroValue3
  t4 := Try.underlying4
  a4 := Try.isAgg4
  z4 := Try.sizeOf4
  v4 := Try.zeroValue4
  t5 := Try.underlying5
  a5 := Try.isAgg5
  z5 := Try.sizeOf5
  v5 := Try.zeroValue5
  t9 := Try.underlying9
  a9 := Try.isAgg9
  z9 := Try.sizeOf9
  v9 := Try.zeroValue9
  t26 := Try.underlying22
  a26 := Try.isAgg22
  z26 := Try.sizeOf22
  v26 := Try.zeroValue22
  t27 := Try.underlying22
  a27 := Try.isAgg22
  z27 := Try.sizeOf22
  v27 := Try.zeroValue22
  t29 := Try.underlying9
  a29 := Try.isAgg9
  z29 := Try.sizeOf9
  v29 := Try.zeroValue9
  t32 := Try.underlying89
  a32 := Try.isAgg89
  z32 := Try.sizeOf89
  v32 := Try.zeroValue89
  t35 := Try.underlying91
  a35 := Try.isAgg91
  z35 := Try.sizeOf91
  v35 := Try.zeroValue91
  t36 := Try.underlying92
  a36 := Try.isAgg92
  z36 := Try.sizeOf92
  v36 := Try.zeroValue92
  t41 := Try.underlying97
  a41 := Try.isAgg97
  z41 := Try.sizeOf97
  v41 := Try.zeroValue97
  t44 := Try.underlying100
  a44 := Try.isAgg100
  z44 := Try.sizeOf100
  v44 := Try.zeroValue100
  t46 := Try.underlying102
  a46 := Try.isAgg102
  z46 := Try.sizeOf102
  v46 := Try.zeroValue102
  t53 := Try.underlying103
  a53 := Try.isAgg103
  z53 := Try.sizeOf103
  v53 := Try.zeroValue103
  t57 := Try.underlying107
  a57 := Try.isAgg107
  z57 := Try.sizeOf107
  v57 := Try.zeroValue107
  t63 := Try.underlying109
  a63 := Try.isAgg109
  z63 := Try.sizeOf109
  v63 := Try.zeroValue109
  t64 := Try.underlying110
  a64 := Try.isAgg110
  z64 := Try.sizeOf110
  v64 := Try.zeroValue110 }
open Go.RowKit Go.Maps Go.Sort
/-- slices.Sort's two contracts at this dump, at the fence that asks nothing. -/
theorem Try.sorts41 (m : Nat) : AnyZ.SortsIn Try.prog Try.sorted41_ren Fence.wide m :=
  ⟨fun blk off cap ss W hH hblk hsz => callsIn_wide.2 (AnyM.slices_Sort_string Try.sort60 blk off cap ss W hH hblk hsz),
   fun p cap W => callsIn_wide.2 (AnyM.slices_Sort_string_none Try.sort60 p cap W)⟩

/-- **maps.Keys[map[string]*synod/disk.file,string,*synod/disk.file], at whatever map, the nil one too:** a function value over ONE NEW BLOCK, which holds the map. -/
theorem Try.maps_Keys_42 (mb : Option Nat) (W : World) : CallsIn Fence.wide 5 Try.prog 42 #[.map mb] W fun e w' => e = .returned (.func (.func 61) #[] #[.pointer (some ⟨W.heap.size, 0, none⟩)]) ∧ w' = W.alloc (.cells #[.map mb] 62) :=
  AnyZ.keys_in Try.keys42 Fence.wide 5 trivial rfl mb W

set_option maxHeartbeats 1000000 in
/-- **slices.Sorted[string] AT WHAT maps.Keys[map[string]*synod/disk.file,string,*synod/disk.file] HANDED BACK FOR A MAP THAT IS NOT nil** ('w': the world AHEAD of maps.Keys' call): A NEW SLICE THAT HOLDS THE MAP's KEYS, SORTED; nil just where it has none; nothing that lay before has turned. -/
theorem Try.slices_Sorted_keys_41_42 {H : Type} (b nn : Nat) (D0 : DataW H) (R : Value → Option (DataW H × List MemPlace)) (w : World) (hown : w.ownsMap Try.prog 9 R b nn D0) (hmax : Maps.size D0 ≤ maxLen) (hbytes : Maps.size D0 * 16 ≤ 140737488355328) :
    CallsIn Fence.wide 5 Try.prog 41 #[.func (.func 61) #[] #[.pointer (some ⟨w.heap.size, 0, none⟩)]] (w.alloc (.cells #[.map (some b)] 62)) fun e w' => ∃ (v : Value) (ss : List (List UInt8)), e = .returned v ∧ ss.Perm (strKeys D0) ∧
      w'.ownsRow (w.alloc (.cells #[.map (some b)] 62)).heap.size 9 1 v ss.length ((ss.mergeSort (fun x y => decide (x ≤ y))).map encStr) ∧ (v = .slice none 0 0 ↔ ss = []) ∧ Below (w.alloc (.cells #[.map (some b)] 62)).heap.size (w.alloc (.cells #[.map (some b)] 62)) w' := by
  have hbl := hown.lt
  have hseq : SeqGives Fence.wide 2 Try.prog 61 #[.pointer (some ⟨w.heap.size, 0, none⟩)] encStr (fun ss => ss.Perm (strKeys D0)) (Maps.size D0) (w.alloc (.cells #[.map (some b)] 62)) :=
    AnyZ.keys_gives (ρ := Try.keys42_ren) { Try.keys42 with } Fence.wide _ trivial rfl (by omega) w.heap.size b nn D0 _ (by simp) (by simp) (by
      obtain ⟨es, clock, hb, Ft, hs, hD⟩ := hown
      exact ⟨es, clock, (Below.heap_alloc _ _ b hbl).trans hb, Ft, hs, hD⟩)
  exact AnyZ.sorted_in Try.sorted41 Fence.wide 5 trivial trivial trivial trivial rfl (by omega) (Try.sorts41 _) (enters_of Try.func60 (by kernel_rfl) rfl) 61 #[.pointer (some ⟨w.heap.size, 0, none⟩)] trivial (enters_of Try.func61 (by kernel_rfl) rfl) _ _ hmax hbytes _ hseq

set_option maxHeartbeats 1000000 in
/-- **.. AND FOR THE nil MAP: nil.** -/
theorem Try.slices_Sorted_keys_nil_41_42 (w : World) :
    CallsIn Fence.wide 5 Try.prog 41 #[.func (.func 61) #[] #[.pointer (some ⟨w.heap.size, 0, none⟩)]] (w.alloc (.cells #[.map none] 62)) fun e w' => ∃ (v : Value) (ss : List (List UInt8)), e = .returned v ∧ ss = [] ∧
      w'.ownsRow (w.alloc (.cells #[.map none] 62)).heap.size 9 1 v ss.length ((ss.mergeSort (fun x y => decide (x ≤ y))).map encStr) ∧ (v = .slice none 0 0 ↔ ss = []) ∧ Below (w.alloc (.cells #[.map none] 62)).heap.size (w.alloc (.cells #[.map none] 62)) w' := by
  have hseq : SeqGives Fence.wide 2 Try.prog 61 #[.pointer (some ⟨w.heap.size, 0, none⟩)] encStr (fun ss : List (List UInt8) => ss = []) 0 (w.alloc (.cells #[.map none] 62)) :=
    AnyZ.keys_gives_nil (ρ := Try.keys42_ren) { Try.keys42 with } Fence.wide _ trivial rfl w.heap.size _ (by simp) (by simp)
  exact AnyZ.sorted_in Try.sorted41 Fence.wide 5 trivial trivial trivial trivial rfl (by omega) (Try.sorts41 _) (enters_of Try.func60 (by kernel_rfl) rfl) 61 #[.pointer (some ⟨w.heap.size, 0, none⟩)] trivial (enters_of Try.func61 (by kernel_rfl) rfl) _ 0 (Nat.zero_le _) (by omega) _ hseq

end Go.Proofs

/- Plain words for memory: what has changed (Chg), blocks known whole, rows of bytes. No function of the program is walked here. -/
namespace Go.Proofs.Ytflajlnknimjaaa.Syn
open Go.RowKit Go.Proofs.YtflajlnknimjaaaW.PrintWords

/-- From w to w' only blocks of F have changed, and new ones have come. -/
structure Chg (F : Nat → Prop) (w w' : World) : Prop where
  os : w'.os = w.os
  tape : w'.tape = w.tape
  output : w'.output = w.output
  size : w.heap.size ≤ w'.heap.size
  block : ∀ k, k < w.heap.size → ¬ F k → w'.heap[k]? = w.heap[k]?

/-- F and what is new. -/
def Gr (F : Nat → Prop) (w w' : World) : Nat → Prop := fun k => F k ∨ (w.heap.size ≤ k ∧ k < w'.heap.size)

section
variable {F G : Nat → Prop} {w w1 w2 : World}
theorem Chg.refl (F : Nat → Prop) (w : World) : Chg F w w := ⟨rfl, rfl, rfl, Nat.le_refl _, fun _ _ _ => rfl⟩
theorem Chg.mono (h : Chg F w w1) (hs : ∀ k, F k → G k) : Chg G w w1 := ⟨h.os, h.tape, h.output, h.size, fun k hk hn => h.block k hk (fun hf => hn (hs k hf))⟩
theorem Chg.trans (h : Chg F w w1) (k : Chg G w1 w2) (hs : ∀ k, G k → F k ∨ w.heap.size ≤ k) : Chg F w w2 :=
  ⟨k.os.trans h.os, k.tape.trans h.tape, k.output.trans h.output, Nat.le_trans h.size k.size, fun i hi hn =>
    (k.block i (Nat.lt_of_lt_of_le hi h.size) (fun h2 => (hs i h2).elim hn (fun h3 => by omega))).trans (h.block i hi hn)⟩
theorem Chg.then_ (h : Chg F w w1) (k : Chg (Gr F w w1) w1 w2) : Chg F w w2 := h.trans k (fun _ hk => hk.elim .inl (fun h => .inr h.1))
theorem Chg.same (h : Chg F w w1) (k : Chg F w1 w2) : Chg F w w2 := h.trans k (fun _ hk => .inl hk)
theorem Chg.of_below (h : Below w.heap.size w w1) : Chg F w w1 := ⟨h.os, h.tape, h.output, h.size, fun i hi _ => h.block i hi⟩
theorem Chg.of_drawn (h : Drawn0 w w1) : Chg F w w1 := .of_below h.below
theorem Chg.of_grown {row : Option Nat} (h : w.grownBy w1 row) (hr : ∀ k, row = some k → F k ∨ w.heap.size ≤ k) : Chg F w w1 :=
  ⟨h.os, h.tape, h.output, h.size, fun i hi hn => h.block i hi (fun e => (hr i e.symm).elim hn (fun h3 => by omega))⟩
theorem Chg.drewN (w : World) (n : Nat) : Chg F w (w.drewN n) := .of_below (pw_below_drewN (Below.refl _ _) n)
theorem Chg.drew (w : World) : Chg F w w.drew := .of_below (below_drew (Below.refl _ _))
theorem Chg.alloc (w : World) (o : Obj) : Chg F w (w.alloc o) := .of_below (below_alloc (Below.refl _ _) o)
theorem Chg.setCell (w : World) {p : Addr} (hp : F p.block) (u : Value) : Chg F w (w.setCell p u) :=
  ⟨rfl, rfl, rfl, by simp [World.setCell], fun i _ hn => Below.heap_setCell w p u i (fun e => hn (e ▸ hp))⟩
theorem Chg.below (h : Chg F w w1) {B : Nat} (hF : ∀ k, F k → B ≤ k) (hB : B ≤ w.heap.size) : Below B w w1 :=
  ⟨h.os, h.tape, h.output, h.size, fun i hi => h.block i (by omega) (fun hf => by have := hF i hf; omega)⟩
theorem Chg.heap (h : Chg F w w1) {g : Nat} {o : Obj} (hg : w.heap[g]? = some o) (hn : ¬ F g) : w1.heap[g]? = some o := (h.block g (blk_lt hg) hn).trans hg
theorem Chg.cell (h : Chg F w w1) {a : Addr} {v : Value} (hc : w.cell? a = some v) (hn : ¬ F a.block) : w1.cell? a = some v := by
  have := h.block a.block (World.block_lt_of_cell? w a hc) hn
  simpa [World.cell?, this] using hc
theorem Chg.kept (h : Chg F w w1) : Kept w w1 F := ⟨h.size, h.block⟩
theorem Gr.mono (k : Nat) (h : F k) : Gr F w w1 k := .inl h
theorem Gr.trans (h1 : Chg G w w1) (h2 : Chg G w1 w2) (k : Nat) (h : Gr (Gr F w w1) w1 w2 k) : Gr F w w2 k := by
  rcases h with (h | h) | h
  · exact .inl h
  · exact .inr ⟨h.1, Nat.lt_of_lt_of_le h.2 h2.size⟩
  · exact .inr ⟨Nat.le_trans h1.size h.1, h.2⟩
theorem Gr.wide (h2 : Chg G w1 w2) (k : Nat) (h : Gr F w w1 k) : Gr F w w2 k := h.elim .inl (fun h => .inr ⟨h.1, Nat.lt_of_lt_of_le h.2 h2.size⟩)
end

/-! blocks known whole -/
section
variable {w : World} {g t : Nat}
theorem sb_cell {cs : Array Value} {fr : Nat × Nat} (h : w.heap[g]? = some (.cells cs t fr)) (i : Nat) : w.cell? ⟨g, i, none⟩ = cs[i]? := cell_of_row w g i cs t fr h
theorem sb_free {cs : Array Value} (h : w.heap[g]? = some (.cells cs t (0, 0))) (i : Nat) : w.frozen? ⟨g, i, none⟩ = false := by simp [World.frozen?, h]
theorem sb_set {cs : Array Value} {fr : Nat × Nat} (h : w.heap[g]? = some (.cells cs t fr)) (i : Nat) (u : Value) : (w.setCell ⟨g, i, none⟩ u).heap[g]? = some (.cells (cs.setIfInBounds i u) t fr) := by
  simp [World.setCell, Array.getElem?_modify, h]
theorem sb_far {o : Obj} (h : w.heap[g]? = some o) {p : Addr} (hp : g ≠ p.block) (u : Value) : (w.setCell p u).heap[g]? = some o := (Below.heap_setCell w p u g hp).trans h
theorem sb_new (w : World) (o : Obj) : (w.alloc o).heap[w.heap.size]? = some o := heap_alloc_new w o
theorem sb_alloc {o : Obj} (h : w.heap[g]? = some o) (o' : Obj) : (w.alloc o').heap[g]? = some o := (Below.heap_alloc w o' g (blk_lt h)).trans h
end

end Go.Proofs.Ytflajlnknimjaaa.Syn

/- The plain disk: lists of files by rising names, and what each operation does to them. No Go, no memory. -/
namespace Go.Proofs.Ytflajlnknimjaaa.Dk
open Go.WideAt Go.WideShapes

/-! strings by their bytes -/
theorem bloop_eq (s : ByteArray) : ∀ (d i : Nat) (r : List UInt8), s.size - i = d → ByteArray.toList.loop s i r = r.reverse ++ s.data.toList.drop i := by
  intro d
  induction d with
  | zero =>
    intro i r h
    unfold ByteArray.toList.loop
    rw [if_neg (by omega), List.drop_eq_nil_of_le (by show s.data.toList.length ≤ i; have : s.data.toList.length = s.size := rfl; omega)]
    simp
  | succ d ih =>
    intro i r h
    unfold ByteArray.toList.loop
    have hi : i < s.data.toList.length := by have : s.data.toList.length = s.size := rfl; omega
    rw [if_pos (by omega), ih (i + 1) _ (by omega), List.drop_eq_getElem_cons hi]
    rw [List.reverse_cons, List.append_assoc, List.singleton_append]
    congr 2
    show s.data[i]! = _
    rw [getElem!_pos s.data i hi, Array.getElem_toList]
theorem tl_eq (s : ByteArray) : s.toList = s.data.toList := by
  unfold ByteArray.toList
  rw [bloop_eq s s.size 0 [] (by omega)]
  simp
theorem data_inj {a b : ByteArray} (h : a.data.toList = b.data.toList) : a = b := by
  cases a; cases b; simp only [ByteArray.mk.injEq]; exact Array.toList_inj.mp h
theorem tl_inj {a b : ByteArray} (h : a.toList = b.toList) : a = b := data_inj (by rwa [tl_eq, tl_eq] at h)
theorem tl_beq (a b : ByteArray) : (a.toList == b.toList) = decide (a = b) := by
  by_cases h : a = b
  · subst h; simp
  · rw [decide_eq_false h]
    exact beq_false_of_ne fun e => h (tl_inj e)

/-! lists by a key -/
section
variable {α : Type} (key : α → ByteArray)
abbrev bts (s : ByteArray) : List UInt8 := s.data.toList
def ins (x : α) : List α → List α
  | [] => [x]
  | y :: r => if bytesBefore (bts (key x)) (bts (key y)) then x :: y :: r else y :: ins x r
def era (nm : ByteArray) (l : List α) : List α := l.filter fun y => decide (key y ≠ nm)
def look (nm : ByteArray) (l : List α) : Option α := l.find? fun y => decide (key y = nm)
def Srt (l : List α) : Prop := l.Pairwise fun a b => bytesBefore (bts (key a)) (bts (key b)) = true
variable {key}
theorem before_ne {a b : ByteArray} (h : bytesBefore (bts a) (bts b) = true) : a ≠ b := by
  rintro rfl
  rw [bytes_irrefl] at h
  cases h
theorem before_asymm {a b : ByteArray} (h : bytesBefore (bts a) (bts b) = true) : bytesBefore (bts b) (bts a) = false := by
  cases hb : bytesBefore (bts b) (bts a)
  · rfl
  · exact absurd rfl (before_ne (bytes_trans _ _ _ h hb))
theorem before_of_not {a b : ByteArray} (hne : a ≠ b) (h : bytesBefore (bts a) (bts b) = false) : bytesBefore (bts b) (bts a) = true := by
  rcases bytes_total (bts a) (bts b) (fun e => hne (data_inj e)) with h' | h'
  · rw [h] at h'; cases h'
  · exact h'
theorem mem_ins {x y : α} {l : List α} : y ∈ ins key x l ↔ y = x ∨ y ∈ l := by
  induction l with
  | nil => simp [ins]
  | cons z r ih =>
    unfold ins
    split
    · simp
    · simp only [List.mem_cons, ih]; constructor <;> (intro h; rcases h with h | h | h <;> simp [h])
theorem Srt.ins {x : α} {l : List α} (h : Srt key l) (hx : ∀ y ∈ l, key y ≠ key x) : Srt key (Dk.ins key x l) := by
  induction l with
  | nil => simp [Dk.ins, Srt]
  | cons z r ih =>
    unfold Dk.ins
    have h' := List.pairwise_cons.1 h
    split
    · rename_i hb
      exact List.pairwise_cons.2 ⟨fun y hy => by
        rcases List.mem_cons.1 hy with rfl | hy
        · exact hb
        · exact bytes_trans _ _ _ hb (h'.1 y hy), h⟩
    · rename_i hb
      refine List.pairwise_cons.2 ⟨fun y hy => ?_, ih h'.2 (fun y hy => hx y (List.mem_cons_of_mem _ hy))⟩
      rcases mem_ins.1 hy with rfl | hy
      · exact before_of_not (fun e => hx z List.mem_cons_self e.symm) (by simpa using hb)
      · exact h'.1 y hy
theorem Srt.era {l : List α} (h : Srt key l) (nm : ByteArray) : Srt key (Dk.era key nm l) := List.Pairwise.filter _ h
theorem mem_era {y : α} {nm : ByteArray} {l : List α} : y ∈ era key nm l ↔ y ∈ l ∧ key y ≠ nm := by simp [era]
theorem era_none {nm : ByteArray} {l : List α} (h : ∀ y ∈ l, key y ≠ nm) : era key nm l = l := by
  unfold era
  rw [List.filter_eq_self]
  intro y hy
  simpa using h y hy
theorem look_some {nm : ByteArray} {l : List α} {y : α} (h : look key nm l = some y) : y ∈ l ∧ key y = nm := ⟨List.mem_of_find?_eq_some h, by simpa using List.find?_some h⟩
theorem look_none {nm : ByteArray} {l : List α} : look key nm l = none ↔ ∀ y ∈ l, key y ≠ nm := by simp [look]
theorem Srt.inj {l : List α} (h : Srt key l) {x y : α} (hx : x ∈ l) (hy : y ∈ l) (he : key x = key y) : x = y := by
  induction l with
  | nil => cases hx
  | cons z r ih =>
    have h' := List.pairwise_cons.1 h
    rcases List.mem_cons.1 hx with hx1 | hx1 <;> rcases List.mem_cons.1 hy with hy1 | hy1
    · rw [hx1, hy1]
    · subst hx1; exact absurd he (before_ne (h'.1 y hy1))
    · subst hy1; exact absurd he.symm (before_ne (h'.1 x hx1))
    · exact ih h'.2 hx1 hy1
theorem Srt.look {l : List α} (h : Srt key l) {y : α} (hy : y ∈ l) {nm : ByteArray} (he : key y = nm) : Dk.look key nm l = some y := by
  cases hl : Dk.look key nm l with
  | none => exact absurd he (look_none.1 hl y hy)
  | some z =>
    obtain ⟨hz, hk⟩ := look_some hl
    rw [h.inj hz hy (hk.trans he.symm)]
theorem length_ins (x : α) (l : List α) : (ins key x l).length = l.length + 1 := by
  induction l with
  | nil => rfl
  | cons z r ih => unfold ins; split <;> simp [ih]
end
section
variable {α β : Type} {ka : α → ByteArray} {kb : β → ByteArray} (f : α → β) (hf : ∀ x, kb (f x) = ka x)
include hf
theorem map_ins (x : α) (l : List α) : (ins ka x l).map f = ins kb (f x) (l.map f) := by
  induction l with
  | nil => rfl
  | cons z r ih =>
    simp only [ins, List.map_cons, hf]
    split <;> simp [ih]
theorem map_era (nm : ByteArray) (l : List α) : (era ka nm l).map f = era kb nm (l.map f) := by
  induction l with
  | nil => rfl
  | cons z r ih =>
    simp only [era, List.filter_cons, List.map_cons, hf] at ih ⊢
    split
    · rw [List.map_cons, ih]
    · exact ih
theorem map_look (nm : ByteArray) (l : List α) : look kb nm (l.map f) = (look ka nm l).map f := by
  induction l with
  | nil => rfl
  | cons z r ih =>
    simp only [look, List.find?_cons, List.map_cons, hf] at ih ⊢
    split <;> simp [ih]
theorem map_srt (l : List α) : Srt kb (l.map f) ↔ Srt ka l := by simp [Srt, List.pairwise_map, hf]
end

/-! files, and a disk -/
structure Fl where
  nm : ByteArray
  dat : List Int
  syn : Nat
structure St where
  fs : List Fl
  last : ByteArray
  armed : Nat
  down : Bool
def nil_ : ByteArray := ⟨#[]⟩
def St.new : St := ⟨[], nil_, 0, false⟩
def total (l : List Fl) : Nat := (l.map fun x => x.dat.length).sum
def upd (nm : ByteArray) (g : Fl → Fl) (l : List Fl) : List Fl := l.map fun x => if x.nm = nm then g x else x
def okByte (c : UInt8) : Bool := decide (97 ≤ c.toNat ∧ c.toNat ≤ 122) || decide (48 ≤ c.toNat ∧ c.toNat ≤ 57) || decide (c.toNat = 45) || decide (c.toNat = 46)
def okName (s : ByteArray) : Bool := s.data.toList.all okByte && (decide (0 < s.size) && decide (s.size ≤ 32))
def tick (d : St) : Bool × St := if d.armed = 0 then (false, d) else (decide (d.armed = 1), { d with armed := d.armed - 1, down := decide (d.armed = 1) })
def St.create (nm : ByteArray) (d : St) : Int × St :=
  if d.down then (11, d) else if okName nm = false then (7, d) else if (look Fl.nm nm d.fs).isSome then (9, d) else if 256 ≤ d.fs.length then (10, d)
  else if (tick d).1 then (11, (tick d).2) else (0, { (tick d).2 with fs := ins Fl.nm ⟨nm, [], 0⟩ d.fs })
def St.append (nm : ByteArray) (b : List Int) (d : St) : Int × St :=
  if d.down then (11, d) else match look Fl.nm nm d.fs with
  | none => (8, d)
  | some _ => if 16777216 < b.length + total d.fs then (10, d)
    else (if (tick d).1 then 11 else 0, { (tick d).2 with fs := upd nm (fun x => { x with dat := x.dat ++ if (tick d).1 then b.take (b.length / 2) else b }) d.fs, last := nm })
def St.sync (nm : ByteArray) (d : St) : Int × St :=
  if d.down then (11, d) else match look Fl.nm nm d.fs with
  | none => (8, d)
  | some _ => if (tick d).1 then (11, (tick d).2) else (0, { (tick d).2 with fs := upd nm (fun x => { x with syn := x.dat.length }) d.fs })
def St.cut (nm : ByteArray) (n : Int) (d : St) : Int × St :=
  if d.down then (11, d) else match look Fl.nm nm d.fs with
  | none => (8, d)
  | some f => if n < 0 ∨ f.dat.length < n then (1, d) else if (tick d).1 then (11, (tick d).2)
    else (0, { (tick d).2 with fs := upd nm (fun x => { x with dat := x.dat.take n.toNat, syn := min x.syn n.toNat }) d.fs })
def St.rename (a b : ByteArray) (d : St) : Int × St :=
  if d.down then (11, d) else match look Fl.nm a d.fs with
  | none => (8, d)
  | some f => if okName b = false then (7, d) else if (tick d).1 then (11, (tick d).2) else if a = b then (0, (tick d).2)
    else (0, { (tick d).2 with fs := ins Fl.nm { f with nm := b } (era Fl.nm b (era Fl.nm a d.fs)), last := if d.last = a then b else if d.last = b then nil_ else d.last })
def St.remove (nm : ByteArray) (d : St) : Int × St :=
  if d.down then (11, d) else match look Fl.nm nm d.fs with
  | none => (8, d)
  | some _ => if (tick d).1 then (11, (tick d).2) else (0, { (tick d).2 with fs := era Fl.nm nm d.fs, last := if d.last = nm then nil_ else d.last })
def St.arm (n : Int) (d : St) : St := { d with armed := n.toNat }
def kept (last : ByteArray) (keep : Int) (x : Fl) : Nat := if x.nm = last then x.syn + min (keep.toNat) (x.dat.length - x.syn) else x.syn
def St.crash (keep : Int) (d : St) : St :=
  { fs := d.fs.map fun x => { x with dat := x.dat.take (kept d.last keep x), syn := kept d.last keep x }, last := nil_, armed := 0, down := false }

/-- What holds of every disk. -/
structure St.Ok (d : St) : Prop where
  srt : Srt Fl.nm d.fs
  syn : ∀ x ∈ d.fs, x.syn ≤ x.dat.length
  tot : total d.fs ≤ 16777216
  cnt : d.fs.length ≤ 256
  last : d.last = nil_ ∨ ∃ x ∈ d.fs, x.nm = d.last
  named : ∀ x ∈ d.fs, okName x.nm = true
  armed : d.armed ≤ 9223372036854775807
end Go.Proofs.Ytflajlnknimjaaa.Dk

/- The disk's memory: which blocks it has and what they hold (DiskAt). No function is walked here. -/
namespace Go.Proofs.Ytflajlnknimjaaa.Dk
open Go.RowKit Go.Maps Go.Proofs.YtflajlnknimjaaaW.PrintWords Go.Proofs.Ytflajlnknimjaaa.Syn

/-- A file as it lies: its block, its bytes' slice. -/
structure FileC where
  nm : ByteArray
  blk : Nat
  dat : Value
  bs : List Int
  syn : Nat
def FileC.abs (c : FileC) : Fl := ⟨c.nm, c.bs, c.syn⟩

/-- A row of bytes of one's own, whatever room is behind its capacity. -/
def DRow (w : World) (v : Value) (bs : List Int) : Prop :=
  (v = .slice none 0 0 ∧ bs = []) ∨ ∃ g cap cur, v = .slice (some ⟨g, 0, none⟩) bs.length cap ∧ w.heap[g]? = some (.cells cur 5 (0, 0)) ∧ bs.length ≤ cap ∧ cap ≤ cur.size ∧ cap ≤ maxLen ∧ cur.toList.take bs.length = nums .u8 bs

def RP (v : Value) : Option (DataW Unit × List MemPlace) :=
  match v with
  | .pointer (some ⟨b, 0, none⟩) => some (.lit (.int .i64 b), [])
  | .pointer none => some (.nil, [])
  | _ => none
theorem RP_ptr (b : Nat) : RP (.pointer (some ⟨b, 0, none⟩)) = some (.lit (.int .i64 b), []) := rfl
theorem RP_nil : RP (.pointer none) = some (.nil, []) := rfl
theorem RP_inv {v : Value} {ps : List MemPlace} (h : RP v = some (.nil, ps)) : v = .pointer none := by
  unfold RP at h
  split at h
  · simp at h
  · rfl
  · cases h
theorem RP_inv2 {v : Value} {b : Nat} {ps : List MemPlace} (h : RP v = some (.lit (.int .i64 b), ps)) : v = .pointer (some ⟨b, 0, none⟩) := by
  unfold RP at h
  split at h
  · rename_i c
    simp only [Option.some.injEq, Prod.mk.injEq, DataW.lit.injEq, Lit.int.injEq, true_and] at h
    obtain ⟨h, _⟩ := h
    have : c = b := by omega
    rw [this]
  · simp at h
  · cases h

def entry (c : FileC) : Lit × DataW Unit := (.string (bts c.nm), .lit (.int .i64 c.blk))
def mapD (L : List FileC) : DataW Unit := .map (L.map entry)

theorem sameKey_str (a b : ByteArray) : (Lit.string (bts a)).sameKey (.string (bts b)) = decide (a = b) := by
  show (bts a == bts b) = _
  by_cases h : a = b
  · subst h; simp
  · rw [decide_eq_false h]; exact beq_false_of_ne fun e => h (data_inj e)
theorem atKey_mapD (L : List FileC) (nm : ByteArray) : (mapD L).atKey (.string (bts nm)) .nil = match look FileC.nm nm L with | some c => .lit (.int .i64 c.blk) | none => .nil := by
  unfold mapD DataW.atKey look
  simp only
  induction L with
  | nil => rfl
  | cons z r ih =>
    simp only [List.map_cons, List.find?_cons, entry, sameKey_str] at ih ⊢
    by_cases h : z.nm = nm
    · simp [h]
    · simp [h] at ih ⊢; exact ih
theorem put_mapD (L : List FileC) (c : FileC) : (mapD L).put (.string (bts c.nm)) (.lit (.int .i64 c.blk)) = mapD (ins FileC.nm c (era FileC.nm c.nm L)) := by
  unfold mapD DataW.put
  simp only [DataW.map.injEq]
  have h1 : (L.map entry).filter (fun p => !p.1.sameKey (.string (bts c.nm))) = (era FileC.nm c.nm L).map entry := by
    induction L with
    | nil => rfl
    | cons z r ih =>
      simp only [List.map_cons, List.filter_cons, era, entry, sameKey_str] at ih ⊢
      by_cases h : z.nm = c.nm <;> simp [h] at ih ⊢ <;> first | exact ih | exact ⟨rfl, ih⟩
  rw [h1]
  generalize era FileC.nm c.nm L = M
  induction M with
  | nil => rfl
  | cons z r ih =>
    simp only [ins, List.map_cons, DataW.insert]
    show (if bytesBefore (bts c.nm) (bts z.nm) then _ else _) = _
    split
    · rfl
    · rw [ih]; rfl
theorem del_mapD (L : List FileC) (nm : ByteArray) : (mapD L).del (.string (bts nm)) = mapD (era FileC.nm nm L) := by
  unfold mapD DataW.del
  simp only [DataW.map.injEq]
  induction L with
  | nil => rfl
  | cons z r ih =>
    simp only [List.map_cons, List.filter_cons, era, entry, sameKey_str] at ih ⊢
    by_cases h : z.nm = nm <;> simp [h] at ih ⊢ <;> first | exact ih | exact ⟨rfl, ih⟩
theorem size_mapD (L : List FileC) : Maps.size (mapD L) = L.length := by simp [mapD, Maps.size]

/-- The map's block. -/
def MapAt (w : World) (m : Nat) (L : List FileC) : Prop := w.ownsMap Try.prog 9 RP m L.length (mapD L)
theorem MapAt.of {w : World} {m n : Nat} {L : List FileC} (h : w.ownsMap Try.prog 9 RP m n (mapD L)) : MapAt w m L := by
  obtain ⟨es, clock, h1, h2, h3, h4⟩ := h
  refine ⟨es, clock, h1, h2, ?_, h4⟩
  have e := congrArg Maps.size h4
  rw [size_mapD] at e
  simp [Maps.size, length_sorted] at e
  omega
theorem MapAt.heap {w w' : World} {m : Nat} {L : List FileC} (h : MapAt w m L) (he : w'.heap[m]? = w.heap[m]?) : MapAt w' m L := by
  obtain ⟨es, clock, h1, h2⟩ := h
  exact ⟨es, clock, he.trans h1, h2⟩

def FileAt (w : World) (F : Nat → Prop) (c : FileC) : Prop :=
  w.heap[c.blk]? = some (.cells #[c.dat, .int .i64 c.syn] 68 (0, 0)) ∧ F c.blk ∧ DRow w c.dat c.bs ∧ ∀ g, c.dat.ownBlock = some g → F g
def Sep (a b : FileC) : Prop := a.blk ≠ b.blk ∧ ∀ g, a.dat.ownBlock = some g → b.dat.ownBlock ≠ some g
theorem Sep.symm {a b : FileC} (h : Sep a b) : Sep b a := ⟨fun e => h.1 e.symm, fun g hg hg' => h.2 g hg' hg⟩

/-- THE DISK: its struct in block p, its map in block m, its files. -/
structure DiskIs (w : World) (F : Nat → Prop) (p m : Nat) (L : List FileC) (last : ByteArray) (armed : Nat) (down : Bool) : Prop where
  blk : w.heap[p]? = some (.cells #[.map (some m), .string last, .int .i64 armed, .bool down] 64 (0, 0))
  fp : F p
  fm : F m
  map : MapAt w m L
  files : ∀ c ∈ L, FileAt w F c
  sep : L.Pairwise Sep
  lt : ∀ k, F k → k < w.heap.size
def DiskAt (w : World) (F : Nat → Prop) (p : Nat) (d : St) : Prop := ∃ m L, DiskIs w F p m L d.last d.armed d.down ∧ L.map FileC.abs = d.fs

section
variable {w w' : World} {F G : Nat → Prop} {p m : Nat} {L : List FileC} {la : ByteArray} {ar : Nat} {dn : Bool} {v : Value} {bs : List Int}
theorem DRow.heap (h : DRow w v bs) (he : ∀ g, v.ownBlock = some g → w'.heap[g]? = w.heap[g]?) : DRow w' v bs := by
  rcases h with h | ⟨g, cap, cur, rfl, h1, h2⟩
  · exact .inl h
  · exact .inr ⟨g, cap, cur, rfl, (he g rfl).trans h1, h2⟩
theorem DRow.blk (h : DRow w v bs) {g : Nat} (hg : v.ownBlock = some g) : ∃ cur, w.heap[g]? = some (.cells cur 5 (0, 0)) := by
  rcases h with ⟨rfl, _⟩ | ⟨g', cap, cur, rfl, h1, h2⟩
  · simp [Value.ownBlock] at hg
  · have : g' = g := by simpa [Value.ownBlock] using hg
    subst this
    exact ⟨cur, h1⟩
theorem FileAt.heap {c : FileC} (h : FileAt w F c) (he : ∀ k, k = c.blk ∨ c.dat.ownBlock = some k → w'.heap[k]? = w.heap[k]?) (hF : ∀ k, F k → G k) : FileAt w' G c :=
  ⟨(he _ (.inl rfl)).trans h.1, hF _ h.2.1, h.2.2.1.heap (fun g hg => he g (.inr hg)), fun g hg => hF g (h.2.2.2 g hg)⟩
/-- Other blocks have changed. -/
theorem DiskIs.chg (h : DiskIs w F p m L la ar dn) (hc : Chg G w w') (hd : ∀ k, F k → ¬ G k) : DiskIs w' F p m L la ar dn := by
  have e : ∀ k, F k → w'.heap[k]? = w.heap[k]? := fun k hk => hc.block k (h.lt k hk) (hd k hk)
  exact ⟨(e p h.fp).trans h.blk, h.fp, h.fm, h.map.heap (e m h.fm), fun c hc' => (h.files c hc').heap (fun k hk => e k (by
    rcases hk with rfl | hk
    · exact (h.files c hc').2.1
    · exact (h.files c hc').2.2.2 k hk)) (fun _ h => h), h.sep, fun k hk => Nat.lt_of_lt_of_le (h.lt k hk) hc.size⟩
theorem DiskAt.chg {d : St} (h : DiskAt w F p d) (hc : Chg G w w') (hd : ∀ k, F k → ¬ G k) : DiskAt w' F p d := by
  obtain ⟨m, L, h1, h2⟩ := h
  exact ⟨m, L, h1.chg hc hd, h2⟩
theorem DiskAt.lt {d : St} (h : DiskAt w F p d) : ∀ k, F k → k < w.heap.size := by
  obtain ⟨m, L, h1, h2⟩ := h
  exact h1.lt
theorem DiskIs.wide (h : DiskIs w F p m L la ar dn) (hF : ∀ k, F k → G k) (hG : ∀ k, G k → k < w.heap.size) : DiskIs w G p m L la ar dn :=
  ⟨h.blk, hF _ h.fp, hF _ h.fm, h.map, fun c hc => (h.files c hc).heap (fun _ _ => rfl) hF, h.sep, hG⟩
theorem Gr.lt (hF : ∀ k, F k → k < w.heap.size) (hc : w.heap.size ≤ w'.heap.size) : ∀ k, Gr F w w' k → k < w'.heap.size := fun k hk => hk.elim (fun h => Nat.lt_of_lt_of_le (hF k h) hc) (fun h => h.2)
/-- Two blocks of different makes. -/
theorem ne_of_type {a b t u : Nat} {ca cb : Array Value} {fa fb : Nat × Nat} (ha : w.heap[a]? = some (.cells ca t fa)) (hb : w.heap[b]? = some (.cells cb u fb)) (h : t ≠ u) : a ≠ b := by
  rintro rfl
  rw [ha] at hb
  injection hb with hb
  injection hb with _ hb
  exact h hb
theorem MapAt.ne (h : MapAt w m L) {a t : Nat} {ca : Array Value} {fa : Nat × Nat} (ha : w.heap[a]? = some (.cells ca t fa)) : m ≠ a := by
  rintro rfl
  obtain ⟨es, clock, h1, _⟩ := h
  rw [h1] at ha
  cases ha
end
end Go.Proofs.Ytflajlnknimjaaa.Dk

/- The disk's small functions: fails, Has, Down, Arm, New; the map's look-up, store, delete at the disk's map. -/
namespace Go.Proofs.Ytflajlnknimjaaa.Dk
open Go.RowKit Go.Maps Go.Proofs.YtflajlnknimjaaaW.PrintWords Go.Proofs.Ytflajlnknimjaaa.Syn

theorem lawS : Keyed Try.prog 9 := string_keyed Try.underlying9
theorem zeroP (w : World) : (zeroValue 66).run Try.prog w = .ok (.pointer none) w := by kernel_rfl

def ptrOf (o : Option FileC) : Value := match o with | some c => .pointer (some ⟨c.blk, 0, none⟩) | none => .pointer none
theorem MapAt.look {w : World} {m : Nat} {L : List FileC} (h : MapAt w m L) {nm : ByteArray} (hn : nm.size ≤ maxLen) :
    (Instr.lookup 62 (.map (some m)) (.string nm) false).run Try.prog w = .ok (ptrOf (look FileC.nm nm L)) w := by
  obtain ⟨v, ps, h1, h2⟩ := World.ownsMap.lookup h lawS Try.underlying62 (zeroP w) RP_nil (Go.WideMaps.keyOf_string_mk Try.underlying9 hn)
  rw [h1]
  rw [atKey_mapD] at h2
  cases hl : Dk.look FileC.nm nm L with
  | none => rw [hl] at h2; rw [RP_inv h2]; rfl
  | some c => rw [hl] at h2; rw [RP_inv2 h2]; rfl
theorem MapAt.len {w : World} {m : Nat} {L : List FileC} (h : MapAt w m L) (ty : TypeId) : (Builtin.len_ #[62] ty #[.map (some m)]).run Try.prog w = .ok (.int .i64 L.length) w := by
  rw [World.ownsMap.len h Try.underlying62 ty, size_mapD]
theorem MapAt.store {w : World} {m : Nat} {L : List FileC} (h : MapAt w m L) (c : FileC) (nm : ByteArray) (b : Nat) (e1 : c.nm = nm) (e2 : c.blk = b) (hn : nm.size ≤ maxLen) (hl : L.length < maxLen) :
    ∃ w', (Instr.mapUpdate 62 (.map (some m)) (.string nm) (.pointer (some ⟨b, 0, none⟩))).run Try.prog w = .ok () w' ∧ MapAt w' m (ins FileC.nm c (era FileC.nm nm L)) ∧ w.mapTurned w' m := by
  subst e1 e2
  obtain ⟨w', h1, h2, h3⟩ := World.ownsMap.store h lawS Try.underlying62 hl (Go.WideMaps.keyOf_string_mk Try.underlying9 hn) (RP_ptr c.blk)
  have h2' : w'.ownsMap Try.prog 9 RP m (L.length + 1) ((mapD L).put (.string (bts c.nm)) (.lit (.int .i64 c.blk))) := h2
  rw [put_mapD] at h2'
  exact ⟨w', h1, .of h2', h3⟩
theorem MapAt.drop {w : World} {m : Nat} {L : List FileC} (h : MapAt w m L) {nm : ByteArray} (hn : nm.size ≤ maxLen) (ty : TypeId) :
    ∃ w', (Builtin.delete_ #[62, 9] ty #[.map (some m), .string nm]).run Try.prog w = .ok (.tuple #[]) w' ∧ MapAt w' m (era FileC.nm nm L) ∧ w.mapTurned w' m := by
  obtain ⟨w', h1, h2, h3⟩ := World.ownsMap.drop h lawS Try.underlying62 (Go.WideMaps.keyOf_string_mk Try.underlying9 hn) ty
  have h2' : w'.ownsMap Try.prog 9 RP m L.length ((mapD L).del (.string (bts nm))) := h2
  rw [del_mapD] at h2'
  exact ⟨w', h1, .of h2', h3⟩
theorem turned_heap {w w' : World} {m : Nat} (h : w.mapTurned w' m) : w'.heap.size = w.heap.size ∧ ∀ k, k ≠ m → w'.heap[k]? = w.heap[k]? := by
  obtain ⟨es, clock, es', clock', hb, rfl⟩ := h
  exact ⟨by simp [ChangeMaps.setBlock], fun k hk => ChangeMaps.heap_setBlock_other hb _ hk⟩
theorem turned_chg {w w' : World} {m : Nat} (h : w.mapTurned w' m) {F : Nat → Prop} (hm : F m) : Chg F w w' :=
  .of_grown h.grown (fun k hk => .inl (by cases hk; exact hm))

set_option maxHeartbeats 400000 in
theorem fails_no (p : Nat) (w : World) (m la dn : Value) (h : w.heap[p]? = some (.cells #[m, la, .int .i64 0, dn] 64 (0, 0))) :
    Calls Try.prog 35 #[.pointer (some ⟨p, 0, none⟩)] w fun e w' => e = .returned (.bool false) ∧ w = w' := by
  have h2 := sb_cell h 2
  simp at h2
  clear h
  go_enter Try.func35, Try.ntmps35
  go_wp2
  go_ret
  exact ⟨rfl, rfl⟩

set_option maxHeartbeats 400000 in
theorem fails_yes (p : Nat) (w : World) (m la : Value) (n : Nat) (dn : Bool) (hn : 0 < n) (hm : n ≤ 9223372036854775807) (h : w.heap[p]? = some (.cells #[m, la, .int .i64 n, .bool dn] 64 (0, 0))) :
    Calls Try.prog 35 #[.pointer (some ⟨p, 0, none⟩)] w fun e w' => e = .returned (.bool (decide (n = 1))) ∧ w'.heap[p]? = some (.cells #[m, la, .int .i64 (n - 1 : Nat), .bool (decide (n = 1))] 64 (0, 0)) ∧ w'.heap.size = w.heap.size ∧ Chg (· = p) w w' := by
  have h2 := sb_cell h 2
  have h3 := sb_cell h 3
  have f2 := sb_free h 2
  have f3 := sb_free h 3
  simp at h2 h3
  have H := Lib.hid h
  clear h
  go_enter Try.func35, Try.ntmps35
  go_wp2
  go_ret
  have e1 : ((n : Int) - 1) = ((n - 1 : Nat) : Int) := by omega
  have e2 : ((n : Int) - 1 == 0) = decide (n = 1) := by
    by_cases h1 : n = 1
    · subst h1; rfl
    · rw [decide_eq_false h1]; exact beq_false_of_ne (by omega)
  rw [e2, e1]
  refine ⟨rfl, ?_, by simp [World.setCell], ?_⟩
  · have := sb_set (sb_set H.out 2 (.int .i64 ((n - 1 : Nat) : Int))) 3 (.bool (decide (n = 1)))
    simpa using this
  · exact (Chg.setCell (F := (· = p)) w (p := ⟨p, 2, none⟩) rfl _).same (Chg.setCell (F := (· = p)) _ (p := ⟨p, 3, none⟩) rfl _)

theorem tick_calls (p m : Nat) (w : World) (la : ByteArray) (ar : Nat) (dn : Bool) (d : St) (hd : d.armed = ar) (hdn : d.down = dn) (hm : ar ≤ 9223372036854775807)
    (h : w.heap[p]? = some (.cells #[.map (some m), .string la, .int .i64 ar, .bool dn] 64 (0, 0))) :
    Calls Try.prog 35 #[.pointer (some ⟨p, 0, none⟩)] w fun e w' => e = .returned (.bool (tick d).1) ∧ w'.heap[p]? = some (.cells #[.map (some m), .string la, .int .i64 (tick d).2.armed, .bool (tick d).2.down] 64 (0, 0)) ∧ w'.heap.size = w.heap.size ∧ Chg (· = p) w w' := by
  subst hd hdn
  by_cases h0 : d.armed = 0
  · rw [h0] at h
    refine (fails_no p w _ _ _ h).mono ?_
    rintro e w' ⟨rfl, rfl⟩
    have e : tick d = (false, d) := by simp only [tick, h0, if_true]
    rw [e]
    exact ⟨rfl, by rw [h0]; exact h, rfl, Chg.refl _ _⟩
  · refine (fails_yes p w _ _ d.armed d.down (by omega) hm h).mono ?_
    rintro e w' ⟨rfl, h1, h2, h3⟩
    have e : tick d = (decide (d.armed = 1), { d with armed := d.armed - 1, down := decide (d.armed = 1) }) := by simp only [tick, h0, if_false]
    rw [e]
    exact ⟨rfl, h1, h2, h3⟩

set_option maxHeartbeats 400000 in
theorem has_calls (p m : Nat) (w : World) (L : List FileC) (nm : ByteArray) (x y z : Value) (hn : nm.size ≤ maxLen) (h : w.heap[p]? = some (.cells #[.map (some m), x, y, z] 64 (0, 0))) (hm : MapAt w m L) :
    Calls Try.prog 34 #[.pointer (some ⟨p, 0, none⟩), .string nm] w fun e w' => e = .returned (.bool (look FileC.nm nm L).isSome) ∧ w = w' := by
  have h0 := sb_cell h 0
  simp at h0
  have hl := hm.look hn
  clear h hm
  cases hk : look FileC.nm nm L with
  | none =>
    rw [hk] at hl
    simp only [ptrOf] at hl
    clear hk
    go_enter Try.func34, Try.ntmps34
    go_wp2
    go_ret
    exact ⟨rfl, rfl⟩
  | some c =>
    rw [hk] at hl
    simp only [ptrOf] at hl
    clear hk
    go_enter Try.func34, Try.ntmps34
    go_wp2
    go_ret
    exact ⟨rfl, rfl⟩

set_option maxHeartbeats 400000 in
theorem down_calls (p : Nat) (w : World) (x y z : Value) (b : Bool) (h : w.heap[p]? = some (.cells #[x, y, z, .bool b] 64 (0, 0))) :
    Calls Try.prog 23 #[.pointer (some ⟨p, 0, none⟩)] w fun e w' => e = .returned (.bool b) ∧ w = w' := by
  have h3 := sb_cell h 3
  simp at h3
  clear h
  go_enter Try.func23, Try.ntmps23
  go_wp2
  go_ret
  exact ⟨rfl, rfl⟩
end Go.Proofs.Ytflajlnknimjaaa.Dk

/- named, Create, Remove, Sync, Cut of the disk. -/
namespace Go.Proofs.Ytflajlnknimjaaa.Dk
open Go.RowKit Go.Maps Go.Proofs.YtflajlnknimjaaaW.PrintWords Go.Proofs.Ytflajlnknimjaaa.Syn
open Go.Proofs.Ytflajlnknimjaaa.PDiskLoads (disk_named.f disk_named.l0 disk_named.calls)

/-! named -/
theorem bt_nat (s : ByteArray) (i : Nat) (h : i < s.size) : bt s i = ((s.data.toList[i]'(by simpa using h)).toNat : Int) := by
  unfold bt
  rw [dif_pos (by simpa using h)]
  simp
  rfl
theorem drop_all (s : ByteArray) (i : Nat) (h : i < s.size) (p : UInt8 → Bool) : (s.data.toList.drop i).all p = (p (s.data.toList[i]'(by simpa using h)) && (s.data.toList.drop (i + 1)).all p) := by
  rw [List.drop_eq_getElem_cons (by simpa using h), List.all_cons]
theorem wrap_small {i : Int} (h0 : 0 ≤ i) (h : i ≤ 9223372036854775806) : wrap64 (i + 1) = i + 1 := by unfold wrap64; omega
theorem named_l (s : ByteArray) (hs : s.size ≤ 9223372036854775806) (d : Nat) : ∀ (k i : Nat), i ≤ s.size → s.size - i = d → d < k →
    disk_named.l0 k s i = some ((s.data.toList.drop i).all okByte && (decide (0 < s.size) && decide (s.size ≤ 32))) := by
  induction d with
  | zero =>
    intro k i h1 h2 h3
    obtain ⟨k, rfl⟩ : ∃ m, k = m + 1 := ⟨k - 1, by omega⟩
    have hi : i = s.size := by omega
    subst hi
    simp only [disk_named.l0]
    rw [if_neg (by omega), List.drop_eq_nil_of_le (by simp)]
    by_cases h0 : 0 < s.size
    · rw [if_pos (by omega)]; simp [h0]; omega
    · rw [if_neg (by omega)]; simp [h0]
  | succ d ih =>
    intro k i h1 h2 h3
    obtain ⟨k, rfl⟩ : ∃ m, k = m + 1 := ⟨k - 1, by omega⟩
    have hi : i < s.size := by omega
    have hw : wrap64 ((i : Int) + 1) = ((i + 1 : Nat) : Int) := by rw [wrap_small (by omega) (by omega)]; omega
    have hnext := ih k (i + 1) (by omega) (by omega) (by omega)
    simp only [disk_named.l0]
    rw [if_pos (by omega), if_pos (by omega), hw, hnext, bt_nat s i hi, drop_all s i hi, Bool.and_assoc]
    generalize s.data.toList[i]'(by simpa using hi) = c
    generalize ((s.data.toList.drop (i + 1)).all okByte && (decide (0 < s.size) && decide (s.size ≤ 32))) = r at *
    have hc : okByte c = (decide (97 ≤ c.toNat ∧ c.toNat ≤ 122) || decide (48 ≤ c.toNat ∧ c.toNat ≤ 57) || decide (c.toNat = 45) || decide (c.toNat = 46)) := rfl
    rw [hc]
    clear hc hnext hw ih
    generalize c.toNat = x
    repeat' split
    all_goals (cases r <;> simp <;> omega)
theorem named_calls (s : ByteArray) (w : World) (hs : s.size ≤ 9223372036854775806) : Calls Try.prog 33 #[.string s] w fun e w' => e = .returned (.bool (okName s)) ∧ Drawn0 w w' := by
  refine disk_named.calls (s.size + 1) s (okName s) w ?_
  have := named_l s hs s.size (s.size + 1) 0 (by omega) (by omega) (by omega)
  unfold disk_named.f okName
  simpa using this

/-- What an operation of the disk leaves. -/
def Post (F : Nat → Prop) (p : Nat) (w : World) (r : Int × St) (e : Ending) (w' : World) : Prop := e = .returned (.int .i64 r.1) ∧ DiskAt w' (Gr F w w') p r.2 ∧ Chg F w w'

section
variable {F : Nat → Prop} {p m : Nat} {w w1 : World} {L : List FileC} {la : ByteArray} {ar : Nat} {dn : Bool}
theorem Post.same {d : St} {r : Int} (h : DiskAt w F p d) (hd : w.drewN 0 = w := rfl) (n : Nat) : Post F p w (r, d) (.returned (.int .i64 r)) (w.drewN n) := by
  refine ⟨rfl, ?_, Chg.drewN _ _⟩
  have h1 := h.chg (G := fun _ => False) (w' := w.drewN n) (Chg.drewN _ _) (fun _ _ h => h)
  obtain ⟨m, L, hI, hL⟩ := h1
  exact ⟨m, L, hI.wide (fun _ h => .inl h) (Gr.lt h.lt (Nat.le_refl _)), hL⟩
/-- The struct's cells have changed. -/
theorem DiskIs.head (h : DiskIs w F p m L la ar dn) {la' : ByteArray} {ar' : Nat} {dn' : Bool} (hb : w1.heap[p]? = some (.cells #[.map (some m), .string la', .int .i64 ar', .bool dn'] 64 (0, 0))) (hc : Chg (· = p) w w1) (hs : w1.heap.size = w.heap.size) :
    DiskIs w1 F p m L la' ar' dn' := by
  have e : ∀ k, F k → k ≠ p → w1.heap[k]? = w.heap[k]? := fun k hk hn => hc.block k (h.lt k hk) hn
  refine ⟨hb, h.fp, h.fm, h.map.heap (e m h.fm (h.map.ne h.blk)), fun c hc' => ?_, h.sep, fun k hk => by rw [hs]; exact h.lt k hk⟩
  have hf := h.files c hc'
  refine hf.heap (fun k hk => e k ?_ ?_) (fun _ h => h)
  · rcases hk with rfl | hk
    · exact hf.2.1
    · exact hf.2.2.2 k hk
  · rcases hk with rfl | hk
    · exact ne_of_type hf.1 h.blk (by decide)
    · obtain ⟨cur, hcur⟩ := hf.2.2.1.blk hk
      exact ne_of_type hcur h.blk (by decide)
end

theorem tick_fs (d : St) : (tick d).2.fs = d.fs := by unfold tick; split <;> rfl
theorem tick_last (d : St) : (tick d).2.last = d.last := by unfold tick; split <;> rfl
theorem Post.ticked {F : Nat → Prop} {p m : Nat} {w w1 : World} {L : List FileC} {d : St} {nd : Nat} {r : Int} (h : DiskIs w F p m L d.last d.armed d.down) (hL : L.map FileC.abs = d.fs)
    (hb : w1.heap[p]? = some (.cells #[.map (some m), .string d.last, .int .i64 (tick d).2.armed, .bool (tick d).2.down] 64 (0, 0))) (hs : w1.heap.size = w.heap.size) (hc : Chg (· = p) (w.drewN nd) w1) :
    Post F p w (r, (tick d).2) (.returned (.int .i64 r)) w1 := by
  have hc' : Chg (· = p) w w1 := (Chg.drewN w nd).same hc
  refine ⟨rfl, ⟨m, L, ?_, by rw [hL, tick_fs]⟩, hc'.mono (fun k hk => by rw [hk]; exact h.fp)⟩
  rw [tick_last]
  exact (h.head hb hc' hs).wide (fun _ h => .inl h) (fun k hk => hk.elim (fun h1 => by have := h.lt k h1; omega) (fun h1 => h1.2))
/-- A new file has come. -/
theorem DiskIs.added {F : Nat → Prop} {p m : Nat} {w1 w2 : World} {L : List FileC} {la : ByteArray} {ar : Nat} {dn : Bool} (h : DiskIs w1 F p m L la ar dn) {nm : ByteArray} (hno : look FileC.nm nm L = none)
    {cs : Array Value} (hcs : cs = #[.slice none 0 0, .int .i64 0]) (hm : MapAt w2 m (ins FileC.nm ⟨nm, w1.heap.size, .slice none 0 0, [], 0⟩ (era FileC.nm nm L))) (ht : (w1.alloc (.cells cs 68)).mapTurned w2 m) :
    DiskIs w2 (Gr F w1 w2) p m (ins FileC.nm ⟨nm, w1.heap.size, .slice none 0 0, [], 0⟩ L) la ar dn := by
  subst hcs
  obtain ⟨hs, hk⟩ := turned_heap ht
  rw [era_none (look_none.1 hno)] at hm
  have hsz : w2.heap.size = w1.heap.size + 1 := by rw [hs]; simp
  have hmlt : m < w1.heap.size := h.lt m h.fm
  have e : ∀ k, k < w1.heap.size → k ≠ m → w2.heap[k]? = w1.heap[k]? := fun k h1 h2 => (hk k h2).trans (Below.heap_alloc w1 _ k h1)
  have hF : ∀ k, F k → Gr F w1 w2 k := fun _ h => .inl h
  refine ⟨(e p (h.lt p h.fp) (fun e => h.map.ne h.blk e.symm)).trans h.blk, hF _ h.fp, hF _ h.fm, hm, fun c hc => ?_, ?_, Gr.lt h.lt (by omega)⟩
  · rcases mem_ins.1 hc with rfl | hc
    · refine ⟨?_, .inr ⟨Nat.le_refl _, by show w1.heap.size < _; omega⟩, .inl ⟨rfl, rfl⟩, fun g hg => by simp [Value.ownBlock] at hg⟩
      show w2.heap[w1.heap.size]? = _
      rw [hk _ (by omega)]
      exact sb_new w1 _
    · have hf := h.files c hc
      refine hf.heap (fun k hk' => e k ?_ ?_) hF
      · rcases hk' with rfl | hk'
        · exact h.lt _ hf.2.1
        · exact h.lt _ (hf.2.2.2 k hk')
      · rcases hk' with rfl | hk'
        · exact fun e => h.map.ne hf.1 e.symm
        · obtain ⟨cur, hcur⟩ := hf.2.2.1.blk hk'
          exact fun e => h.map.ne hcur e.symm
  · have hnew : ∀ c ∈ L, Sep ⟨nm, w1.heap.size, .slice none 0 0, [], 0⟩ c := fun c hc => ⟨by have := h.lt _ (h.files c hc).2.1; show w1.heap.size ≠ c.blk; omega, fun g hg => by simp [Value.ownBlock] at hg⟩
    have hsep := h.sep
    clear hm e hF h hmlt hno
    induction L with
    | nil => simp [ins]
    | cons z r ih =>
      unfold ins
      have h' := List.pairwise_cons.1 hsep
      split
      · exact List.pairwise_cons.2 ⟨hnew, hsep⟩
      · refine List.pairwise_cons.2 ⟨fun y hy => ?_, ih (fun c hc => hnew c (List.mem_cons_of_mem _ hc)) h'.2⟩
        rcases mem_ins.1 hy with rfl | hy
        · exact (hnew z List.mem_cons_self).symm
        · exact h'.1 y hy

set_option maxRecDepth 100000 in
set_option maxHeartbeats 400000 in
theorem create_calls {F : Nat → Prop} {p : Nat} {w : World} {d : St} (nm : ByteArray) (h : DiskAt w F p d) (ok : d.Ok) (hn : nm.size ≤ 140737488351232) :
    Calls Try.prog 12 #[.pointer (some ⟨p, 0, none⟩), .string nm] w (Post F p w (d.create nm)) := by
  have hn1 : nm.size ≤ maxLen := by unfold maxLen; omega
  have hn2 : nm.size ≤ 9223372036854775806 := by omega
  have h' := h
  obtain ⟨m, L, hI, hL⟩ := h
  have b0 := sb_cell hI.blk 0
  have b3 := sb_cell hI.blk 3
  simp at b0 b3
  unfold St.create
  by_cases hd : d.down = true
  · rw [if_pos hd]
    rw [hd] at b3
    clear hI hL
    go_enter Try.func12, Try.ntmps12
    go_wp2
    go_ret
    exact Post.same h' rfl 0
  rw [if_neg hd]
  have hd' : d.down = false := by simpa using hd
  rw [hd'] at b3
  by_cases hk : okName nm = false
  · rw [if_pos hk]
    clear hI hL
    go_enter Try.func12, Try.ntmps12
    go_wp2_with (go_at_call 33; refine (named_calls _ _ hn2).mono ?_; rintro e w' ⟨rfl, ⟨nd, rfl⟩⟩)
    go_ret
    exact Post.same h' rfl nd
  rw [if_neg hk]
  have hk' : okName nm = true := by simpa using hk
  have hlk : (look Fl.nm nm d.fs).isSome = (look FileC.nm nm L).isSome := by rw [← hL, map_look (ka := FileC.nm) (kb := Fl.nm) FileC.abs (fun _ => rfl)]; simp
  by_cases hh : (look FileC.nm nm L).isSome = true
  · rw [if_pos (by rw [hlk]; exact hh)]
    have HB := Lib.hid hI.blk
    have HM := Lib.hid hI.map
    clear hI hL hlk hk hd hd'
    go_enter Try.func12, Try.ntmps12
    go_wp2_with (first
      | (go_at_call 33; refine (named_calls _ _ hn2).mono ?_; rintro e w' ⟨rfl, ⟨nd, rfl⟩⟩)
      | (go_at_call 34; refine (has_calls p m _ L nm _ _ _ hn1 (by exact HB.out) (by exact HM.out)).mono ?_; rintro e w' ⟨rfl, rfl⟩))
    go_ret
    exact Post.same h' rfl nd
  rw [if_neg (by rw [hlk]; exact hh)]
  have hh' : (look FileC.nm nm L).isSome = false := by simpa using hh
  have hlen : d.fs.length = L.length := by rw [← hL]; simp
  have hcnt := ok.cnt
  have HB := Lib.hid hI.blk
  have HM := Lib.hid hI.map
  have hml := hI.map.len
  by_cases hf : 256 ≤ d.fs.length
  · rw [if_pos hf]
    have hf' : 256 ≤ L.length := by omega
    clear hI hL hlk hk hd hd' hf hcnt ok hlen
    go_enter Try.func12, Try.ntmps12
    go_wp2_with (first
      | (go_at_call 33; refine (named_calls _ _ hn2).mono ?_; rintro e w' ⟨rfl, ⟨nd, rfl⟩⟩; have hml' := MapAt.len (w := w.drewN nd) HM.out; clear hml)
      | (go_at_call 34; refine (has_calls p m _ L nm _ _ _ hn1 (by exact HB.out) (by exact HM.out)).mono ?_; rintro e w' ⟨rfl, rfl⟩))
    go_ret
    exact Post.same h' rfl nd
  rw [if_neg hf]
  have hf' : L.length < 256 := by omega
  have hin : look FileC.nm nm L = none := by simpa using hh'
  have hT := tick_calls p m
  cases ht : (tick d).1 with
  | true =>
    rw [if_pos rfl]
    have HI := Lib.hid hI
    have HT := Lib.hid ht
    clear hI hlk hk hd hf hcnt hlen ht hT
    go_enter Try.func12, Try.ntmps12
    go_wp2_with (first
      | (go_at_call 33; refine (named_calls _ _ hn2).mono ?_; rintro e w' ⟨rfl, ⟨nd, rfl⟩⟩; have hml' := MapAt.len (w := w.drewN nd) HM.out; clear hml)
      | (go_at_call 34; refine (has_calls p m _ L nm _ _ _ hn1 (by exact HB.out) (by exact HM.out)).mono ?_; rintro e w' ⟨rfl, rfl⟩)
      | (go_at_call 35; refine (tick_calls p m _ d.last d.armed d.down d rfl rfl ok.armed (by exact HB.out)).mono ?_; rintro e w1 ⟨rfl, hb1, hs1, hc1⟩; rw [HT.out]; have HX := Lib.hid hb1; clear hb1))
    go_ret
    exact Post.ticked HI.out hL HX.out hs1 hc1
  | false =>
    rw [if_neg (by simp)]
    have HI := Lib.hid hI
    have HT := Lib.hid ht
    have HN := Lib.hid hin
    clear hI hlk hk hd hf hcnt hlen ht hT hin
    go_enter Try.func12, Try.ntmps12
    go_wp2_with (first
      | (go_at_call 33; refine (named_calls _ _ hn2).mono ?_; rintro e w' ⟨rfl, ⟨nd, rfl⟩⟩; have hml' := MapAt.len (w := w.drewN nd) HM.out; clear hml)
      | (go_at_call 34; refine (has_calls p m _ L nm _ _ _ hn1 (by exact HB.out) (by exact HM.out)).mono ?_; rintro e w' ⟨rfl, rfl⟩)
      | (go_at_call 35; refine (tick_calls p m _ d.last d.armed d.down d rfl rfl ok.armed (by exact HB.out)).mono ?_; rintro e w1 ⟨rfl, hb1, hs1, hc1⟩; rw [HT.out]; have HX := Lib.hid hb1; have c0 := sb_cell hb1 0; simp at c0; clear hb1 hml'; have HI1 := Lib.hid (HI.out.head HX.out ((Chg.drewN w nd).same hc1) hs1); obtain ⟨w2, hrun, hm2, ht2⟩ := MapAt.store (w := w1.alloc (.cells #[.slice none 0 0, .int .i64 0] 68)) (HI1.out.map.heap (Below.heap_alloc w1 _ m (HI1.out.lt m HI1.out.fm))) ⟨nm, w1.heap.size, .slice none 0 0, [], 0⟩ nm w1.heap.size rfl rfl hn1 (by unfold maxLen; omega); have HM2 := Lib.hid hm2; have HT2 := Lib.hid ht2; have HS := Lib.hid hs1; clear hm2 ht2 hs1))
    go_ret
    have hc : Chg F w w1 := ((Chg.drewN w nd).same hc1).mono (fun k hk => by rw [hk]; exact HI.out.fp)
    have hD := HI1.out.added HN.out rfl HM2.out HT2.out
    have hc2 : Chg F w1 w2 := (Chg.alloc w1 _).same (turned_chg HT2.out HI.out.fm)
    refine ⟨rfl, ⟨m, ins FileC.nm ⟨nm, w1.heap.size, .slice none 0 0, [], 0⟩ L, ?_, ?_⟩, hc.same hc2⟩
    · simp only [tick_last]
      refine hD.wide ?_ (Gr.lt HI.out.lt (hc.same hc2).size)
      rintro k (hk | hk)
      · exact .inl hk
      · exact .inr ⟨Nat.le_trans hc.size hk.1, hk.2⟩
    · rw [map_ins (ka := FileC.nm) (kb := Fl.nm) FileC.abs (fun _ => rfl), hL]
      rfl
end Go.Proofs.Ytflajlnknimjaaa.Dk

/- Sync, Cut, Remove, Arm, New of the disk. -/
namespace Go.Proofs.Ytflajlnknimjaaa.Dk
open Go.RowKit Go.Maps Go.Proofs.YtflajlnknimjaaaW.PrintWords Go.Proofs.Ytflajlnknimjaaa.Syn

def updC (nm : ByteArray) (c' : FileC) (L : List FileC) : List FileC := L.map fun x => if x.nm = nm then c' else x
theorem updC_abs {L : List FileC} {c c' : FileC} (hs : Srt FileC.nm L) (hc : c ∈ L) (g : Fl → Fl) (hg : c'.abs = g c.abs) : (updC c.nm c' L).map FileC.abs = upd c.nm g (L.map FileC.abs) := by
  unfold updC upd
  rw [List.map_map, List.map_map]
  apply List.map_congr_left
  intro x hx
  simp only [Function.comp]
  by_cases h : x.nm = c.nm
  · have : x = c := hs.inj hx hc h
    subst this
    rw [if_pos rfl, hg]
    exact (if_pos (rfl : x.abs.nm = x.nm)).symm
  · rw [if_neg h, if_neg (show ¬ x.abs.nm = c.nm from h)]
theorem updC_srt {L : List FileC} {c c' : FileC} (hs : Srt FileC.nm L) (hnm : c'.nm = c.nm) : (updC c.nm c' L).map FileC.nm = L.map FileC.nm := by
  unfold updC
  rw [List.map_map]
  apply List.map_congr_left
  intro x hx
  simp only [Function.comp]
  split
  · rename_i h; rw [hnm, h]
  · rfl
theorem mapD_updC {L : List FileC} {c c' : FileC} (hs : Srt FileC.nm L) (hc : c ∈ L) (hnm : c'.nm = c.nm) (hb : c'.blk = c.blk) : mapD (updC c.nm c' L) = mapD L := by
  unfold mapD updC
  rw [List.map_map]
  congr 1
  apply List.map_congr_left
  intro x hx
  simp only [Function.comp]
  split
  · rename_i h
    rw [hs.inj hx hc h]
    simp [entry, hnm, hb]
  · rfl
theorem mem_updC {nm : ByteArray} {c' x : FileC} {L : List FileC} (h : x ∈ updC nm c' L) : x = c' ∨ (x ∈ L ∧ x.nm ≠ nm) := by
  obtain ⟨y, hy, rfl⟩ := List.mem_map.1 h
  split
  · exact .inl rfl
  · rename_i hn; exact .inr ⟨hy, hn⟩

theorem sep_of {L : List FileC} (h : L.Pairwise Sep) {a b : FileC} (ha : a ∈ L) (hb : b ∈ L) (hne : a ≠ b) : Sep a b := by
  induction L with
  | nil => cases ha
  | cons z r ih =>
    have h' := List.pairwise_cons.1 h
    rcases List.mem_cons.1 ha with ha1 | ha1 <;> rcases List.mem_cons.1 hb with hb1 | hb1
    · exact absurd (ha1.trans hb1.symm) hne
    · rw [ha1]; exact h'.1 b hb1
    · rw [hb1]; exact (h'.1 a ha1).symm
    · exact ih h'.2 ha1 hb1
section
variable {F G : Nat → Prop} {p m : Nat} {w w' : World} {L : List FileC} {la : ByteArray} {ar : Nat} {dn : Bool}
/-- Only one file has changed. -/
theorem DiskIs.upd (h : DiskIs w F p m L la ar dn) (hs : Srt FileC.nm L) {c c' : FileC} (hc : c ∈ L) (hnm : c'.nm = c.nm) (hb : c'.blk = c.blk) (hf : FileAt w' G c')
    (e : ∀ k, F k → k ≠ c.blk → c.dat.ownBlock ≠ some k → w'.heap[k]? = w.heap[k]?) (hown : ∀ g, c'.dat.ownBlock = some g → c.dat.ownBlock = some g ∨ w.heap.size ≤ g) (hF : ∀ k, F k → G k) (hG : ∀ k, G k → k < w'.heap.size) :
    DiskIs w' G p m (updC c.nm c' L) la ar dn := by
  have hfc := h.files c hc
  have hty : ∀ {k t : Nat} {cs : Array Value}, w.heap[k]? = some (.cells cs t (0, 0)) → t ≠ 68 → t ≠ 5 → k ≠ c.blk ∧ c.dat.ownBlock ≠ some k := by
    intro k t cs hk h1 h2
    refine ⟨ne_of_type hk hfc.1 h1, fun ho => ?_⟩
    obtain ⟨cur, hcur⟩ := hfc.2.2.1.blk ho
    exact ne_of_type hk hcur h2 rfl
  refine ⟨?_, hF _ h.fp, hF _ h.fm, ?_, fun x hx => ?_, ?_, hG⟩
  · have := hty h.blk (by decide) (by decide)
    exact (e p h.fp this.1 this.2).trans h.blk
  · have hm : MapAt w' m L := h.map.heap (e m h.fm (h.map.ne hfc.1) (fun ho => by
      obtain ⟨cur, hcur⟩ := hfc.2.2.1.blk ho
      exact h.map.ne hcur rfl))
    unfold MapAt at hm ⊢
    rw [mapD_updC hs hc hnm hb, show (updC c.nm c' L).length = L.length by simp [updC]]
    exact hm
  · rcases mem_updC hx with rfl | ⟨hx, hne⟩
    · exact hf
    · have hfx := h.files x hx
      have hsp : Sep c x := sep_of h.sep hc hx (fun e => hne (by rw [← e]))
      refine hfx.heap (fun k hk => e k ?_ ?_ ?_) hF
      · rcases hk with rfl | hk
        · exact hfx.2.1
        · exact hfx.2.2.2 k hk
      · rcases hk with rfl | hk
        · exact fun e => hsp.1 e.symm
        · obtain ⟨cur, hcur⟩ := hfx.2.2.1.blk hk
          exact ne_of_type hcur hfc.1 (by decide)
      · rcases hk with rfl | hk
        · intro ho
          obtain ⟨cur, hcur⟩ := hfc.2.2.1.blk ho
          exact ne_of_type hfx.1 hcur (by decide) rfl
        · exact fun ho => hsp.2 k ho hk
  · have hsep := h.sep
    have hlt : ∀ x ∈ L, x.blk < w.heap.size ∧ ∀ g, x.dat.ownBlock = some g → g < w.heap.size := fun x hx => ⟨h.lt _ (h.files x hx).2.1, fun g hg => h.lt _ ((h.files x hx).2.2.2 g hg)⟩
    have hsc : ∀ x ∈ L, Sep c x → Sep c' x := fun x hx hs => ⟨by rw [hb]; exact hs.1, fun g hg => by
      rcases hown g hg with ho | ho
      · exact hs.2 g ho
      · exact fun hx' => by have := (hlt x hx).2 g hx'; omega⟩
    unfold updC
    rw [List.pairwise_map]
    refine List.Pairwise.imp_of_mem ?_ (hs.and hsep)
    intro a b ha hb' hab
    by_cases h1 : a.nm = c.nm
    · have := hs.inj ha hc h1
      subst this
      rw [if_pos rfl, if_neg (fun e => before_ne hab.1 e.symm)]
      exact hsc b hb' hab.2
    · rw [if_neg h1]
      by_cases h2 : b.nm = c.nm
      · have := hs.inj hb' hc h2
        subst this
        rw [if_pos rfl]
        exact (hsc a ha hab.2.symm).symm
      · rw [if_neg h2]
        exact hab.2
end

theorem DRow.form {w : World} {v : Value} {bs : List Int} (h : DRow w v bs) : ∃ A cap, v = .slice A bs.length cap ∧ bs.length ≤ cap ∧ cap ≤ maxLen := by
  rcases h with ⟨rfl, rfl⟩ | ⟨g, cap, cur, rfl, h1, h2, h3, h4, h5⟩
  · exact ⟨none, 0, rfl, Nat.le_refl _, by unfold maxLen; omega⟩
  · exact ⟨_, cap, rfl, h2, h4⟩
theorem look_abs {L : List FileC} {fs : List Fl} (hL : L.map FileC.abs = fs) (nm : ByteArray) : look Fl.nm nm fs = (look FileC.nm nm L).map FileC.abs := by rw [← hL, map_look (ka := FileC.nm) (kb := Fl.nm) FileC.abs (fun _ => rfl)]
theorem srt_abs {L : List FileC} {fs : List Fl} (hL : L.map FileC.abs = fs) (h : Srt Fl.nm fs) : Srt FileC.nm L := by rw [← hL] at h; exact (map_srt (ka := FileC.nm) (kb := Fl.nm) FileC.abs (fun _ => rfl) L).1 h

set_option maxRecDepth 100000 in
set_option maxHeartbeats 400000 in
theorem sync_calls {F : Nat → Prop} {p : Nat} {w : World} {d : St} (nm : ByteArray) (h : DiskAt w F p d) (ok : d.Ok) (hn : nm.size ≤ 140737488351232) :
    Calls Try.prog 32 #[.pointer (some ⟨p, 0, none⟩), .string nm] w (Post F p w (d.sync nm)) := by
  have hn1 : nm.size ≤ maxLen := by unfold maxLen; omega
  have H := Lib.hid h
  obtain ⟨m, L, hI, hL⟩ := h
  have b0 := sb_cell hI.blk 0
  have b3 := sb_cell hI.blk 3
  simp at b0 b3
  have hl := hI.map.look hn1
  have hla := look_abs hL nm
  have HI := Lib.hid hI
  generalize hr : d.sync nm = r
  unfold St.sync at hr
  have HL := Lib.hid hL
  have HA := Lib.hid ok
  clear hI hL
  cases hd : d.down with
  | true =>
    rw [if_pos hd] at hr
    rw [hd] at b3
    have HR := Lib.hid hr
    cases hk : look FileC.nm nm L with
    | none =>
      rw [hk] at hl
      simp only [ptrOf] at hl
      clear hk hla hr hd ok
      go_enter Try.func32, Try.ntmps32
      go_wp2
      go_ret
      rw [← HR.out]
      exact Post.same H.out rfl 0
    | some c =>
      rw [hk] at hl
      simp only [ptrOf] at hl
      clear hk hla hr hd ok
      go_enter Try.func32, Try.ntmps32
      go_wp2
      go_ret
      rw [← HR.out]
      exact Post.same H.out rfl 0
  | false =>
  rw [if_neg (by rw [hd]; simp), hla] at hr
  rw [hd] at b3
  cases hk : look FileC.nm nm L with
  | none =>
    rw [hk] at hl hr
    simp only [ptrOf] at hl
    have HR := Lib.hid hr
    clear hk hla hd hr ok
    go_enter Try.func32, Try.ntmps32
    go_wp2
    go_ret
    rw [← HR.out]
    exact Post.same H.out rfl 0
  | some c =>
    rw [hk] at hl hr
    simp only [ptrOf] at hl
    simp only [Option.map_some] at hr
    obtain ⟨hcm, hcn⟩ := look_some hk
    have hfc := HI.out.files c hcm
    have hsL := srt_abs HL.out ok.srt
    obtain ⟨A, cap, hv, hcap, hcm2⟩ := hfc.2.2.1.form
    have HT := Lib.hid (rfl : (tick d).1 = (tick d).1)
    cases ht : (tick d).1 with
    | true =>
      rw [if_pos ht] at hr
      have HT := Lib.hid ht
      have HR := Lib.hid hr
      clear hk hla hd ht ok hv hfc hcn hcm hsL hr
      go_enter Try.func32, Try.ntmps32
      go_wp2_with (go_at_call 35; refine (tick_calls p m _ d.last d.armed d.down d rfl rfl HA.out.armed (by exact HI.out.blk)).mono ?_; rintro e w1 ⟨rfl, hb1, hs1, hc1⟩; rw [HT.out]; have HX := Lib.hid hb1; have HS := Lib.hid hs1; clear hb1 hs1)
      go_ret
      rw [← HR.out]
      exact Post.ticked (nd := 0) HI.out HL.out HX.out HS.out hc1
    | false =>
      rw [if_neg (by rw [ht]; simp)] at hr
      have HT := Lib.hid ht
      have HF := Lib.hid hfc
      have HV := Lib.hid hv
      have HN := Lib.hid hcn
      have HR := Lib.hid hr
      clear hk hla hd ht ok hv hfc hcn hr
      go_enter Try.func32, Try.ntmps32
      go_wp2_with (go_at_call 35; refine (tick_calls p m _ d.last d.armed d.down d rfl rfl HA.out.armed (by exact HI.out.blk)).mono ?_; rintro e w1 ⟨rfl, hb1, hs1, hc1⟩; rw [HT.out]; have hI1 := HI.out.head hb1 hc1 hs1; have hf1 := hI1.files c hcm; have c0 := sb_cell hf1.1 0; have c1 := sb_cell hf1.1 1; have f1 := sb_free hf1.1 1; simp at c0 c1; rw [HV.out] at c0; have HI1 := Lib.hid hI1; have HF1 := Lib.hid hf1; have HS := Lib.hid hs1; clear hb1 hs1 hI1 hf1)
      go_ret
      have hc : Chg F w w1 := hc1.mono (fun k hk => by rw [hk]; exact HI.out.fp)
      have hc2 : Chg F w1 (w1.setCell ⟨c.blk, 1, none⟩ (.int .i64 c.bs.length)) := Chg.setCell w1 (p := ⟨c.blk, 1, none⟩) HF1.out.2.1 _
      have hcc := hc.same hc2
      have hlt : ∀ k, F k → k < (w1.setCell ⟨c.blk, 1, none⟩ (.int .i64 c.bs.length)).heap.size := fun k hk => Nat.lt_of_lt_of_le (HI.out.lt k hk) hcc.size
      rw [← HR.out]
      refine ⟨rfl, ⟨m, updC c.nm { c with syn := c.bs.length } L, ?_, ?_⟩, hcc⟩
      · simp only [tick_last]
        refine (HI1.out.upd hsL hcm (c' := { c with syn := c.bs.length }) (G := F) rfl rfl ⟨?_, HF1.out.2.1, HF1.out.2.2.1.heap (fun g hg => ?_), HF1.out.2.2.2⟩ (fun k _ hk _ => Below.heap_setCell _ _ _ _ hk) (fun g hg => .inl hg) (fun _ h => h) hlt).wide (fun _ h => .inl h) (Gr.lt HI.out.lt hcc.size)
        · have := sb_set HF1.out.1 1 (.int .i64 (c.bs.length : Int))
          simpa using this
        · obtain ⟨cur, hcur⟩ := HF1.out.2.2.1.blk hg
          exact Below.heap_setCell _ _ _ _ (ne_of_type hcur HF1.out.1 (by decide))
      · rw [updC_abs hsL hcm (fun x => { x with syn := x.dat.length }) rfl, HL.out, HN.out]
end Go.Proofs.Ytflajlnknimjaaa.Dk

/- The disk's small functions: fails, Has, Down, Arm, New; the map's look-up, store, delete at the disk's map. -/
import Derived.Test.YtflajlnknimjaaaDkR
import Derived.Test.YtflajlnknimjaaaPDiskLoadsx1
import Derived.WalkSpells
import Derived.StringKeys
import Derived.Lib.Hide
namespace Go.Proofs.Ytflajlnknimjaaa.Dk
open Go.RowKit Go.Maps Go.Proofs.YtflajlnknimjaaaW.PrintWords Go.Proofs.Ytflajlnknimjaaa.Syn

theorem lawS : Keyed Try.prog 9 := string_keyed Try.underlying9
theorem zeroP (w : World) : (zeroValue 66).run Try.prog w = .ok (.pointer none) w := by kernel_rfl

def ptrOf (o : Option FileC) : Value := match o with | some c => .pointer (some ⟨c.blk, 0, none⟩) | none => .pointer none
theorem MapAt.look {w : World} {m : Nat} {L : List FileC} (h : MapAt w m L) {nm : ByteArray} (hn : nm.size ≤ maxLen) :
    (Instr.lookup 62 (.map (some m)) (.string nm) false).run Try.prog w = .ok (ptrOf (look FileC.nm nm L)) w := by
  obtain ⟨v, ps, h1, h2⟩ := World.ownsMap.lookup h lawS Try.underlying62 (zeroP w) RP_nil (Go.WideMaps.keyOf_string_mk Try.underlying9 hn)
  rw [h1]
  rw [atKey_mapD] at h2
  cases hl : Dk.look FileC.nm nm L with
  | none => rw [hl] at h2; rw [RP_inv h2]; rfl
  | some c => rw [hl] at h2; rw [RP_inv2 h2]; rfl
theorem MapAt.len {w : World} {m : Nat} {L : List FileC} (h : MapAt w m L) (ty : TypeId) : (Builtin.len_ #[62] ty #[.map (some m)]).run Try.prog w = .ok (.int .i64 L.length) w := by
  rw [World.ownsMap.len h Try.underlying62 ty, size_mapD]
theorem MapAt.store {w : World} {m : Nat} {L : List FileC} (h : MapAt w m L) (c : FileC) (nm : ByteArray) (b : Nat) (e1 : c.nm = nm) (e2 : c.blk = b) (hn : nm.size ≤ maxLen) (hl : L.length < maxLen) :
    ∃ w', (Instr.mapUpdate 62 (.map (some m)) (.string nm) (.pointer (some ⟨b, 0, none⟩))).run Try.prog w = .ok () w' ∧ MapAt w' m (ins FileC.nm c (era FileC.nm nm L)) ∧ w.mapTurned w' m := by
  subst e1 e2
  obtain ⟨w', h1, h2, h3⟩ := World.ownsMap.store h lawS Try.underlying62 hl (Go.WideMaps.keyOf_string_mk Try.underlying9 hn) (RP_ptr c.blk)
  have h2' : w'.ownsMap Try.prog 9 RP m (L.length + 1) ((mapD L).put (.string (bts c.nm)) (.lit (.int .i64 c.blk))) := h2
  rw [put_mapD] at h2'
  exact ⟨w', h1, .of h2', h3⟩
theorem MapAt.drop {w : World} {m : Nat} {L : List FileC} (h : MapAt w m L) {nm : ByteArray} (hn : nm.size ≤ maxLen) (ty : TypeId) :
    ∃ w', (Builtin.delete_ #[62, 9] ty #[.map (some m), .string nm]).run Try.prog w = .ok (.tuple #[]) w' ∧ MapAt w' m (era FileC.nm nm L) ∧ w.mapTurned w' m := by
  obtain ⟨w', h1, h2, h3⟩ := World.ownsMap.drop h lawS Try.underlying62 (Go.WideMaps.keyOf_string_mk Try.underlying9 hn) ty
  have h2' : w'.ownsMap Try.prog 9 RP m L.length ((mapD L).del (.string (bts nm))) := h2
  rw [del_mapD] at h2'
  exact ⟨w', h1, .of h2', h3⟩
theorem turned_heap {w w' : World} {m : Nat} (h : w.mapTurned w' m) : w'.heap.size = w.heap.size ∧ ∀ k, k ≠ m → w'.heap[k]? = w.heap[k]? := by
  obtain ⟨es, clock, es', clock', hb, rfl⟩ := h
  exact ⟨by simp [ChangeMaps.setBlock], fun k hk => ChangeMaps.heap_setBlock_other hb _ hk⟩
theorem turned_chg {w w' : World} {m : Nat} (h : w.mapTurned w' m) {F : Nat → Prop} (hm : F m) : Chg F w w' :=
  .of_grown h.grown (fun k hk => .inl (by cases hk; exact hm))

set_option maxHeartbeats 400000 in
theorem fails_no (p : Nat) (w : World) (m la dn : Value) (h : w.heap[p]? = some (.cells #[m, la, .int .i64 0, dn] 64 (0, 0))) :
    Calls Try.prog 35 #[.pointer (some ⟨p, 0, none⟩)] w fun e w' => e = .returned (.bool false) ∧ w = w' := by
  have h2 := sb_cell h 2
  simp at h2
  clear h
  go_enter Try.func35, Try.ntmps35
  go_wp2
  go_ret
  exact ⟨rfl, rfl⟩

set_option maxHeartbeats 400000 in
theorem fails_yes (p : Nat) (w : World) (m la : Value) (n : Nat) (dn : Bool) (hn : 0 < n) (hm : n ≤ 9223372036854775807) (h : w.heap[p]? = some (.cells #[m, la, .int .i64 n, .bool dn] 64 (0, 0))) :
    Calls Try.prog 35 #[.pointer (some ⟨p, 0, none⟩)] w fun e w' => e = .returned (.bool (decide (n = 1))) ∧ w'.heap[p]? = some (.cells #[m, la, .int .i64 (n - 1 : Nat), .bool (decide (n = 1))] 64 (0, 0)) ∧ w'.heap.size = w.heap.size ∧ Chg (· = p) w w' := by
  have h2 := sb_cell h 2
  have h3 := sb_cell h 3
  have f2 := sb_free h 2
  have f3 := sb_free h 3
  simp at h2 h3
  have H := Lib.hid h
  clear h
  go_enter Try.func35, Try.ntmps35
  go_wp2
  go_ret
  have e1 : ((n : Int) - 1) = ((n - 1 : Nat) : Int) := by omega
  have e2 : ((n : Int) - 1 == 0) = decide (n = 1) := by
    by_cases h1 : n = 1
    · subst h1; rfl
    · rw [decide_eq_false h1]; exact beq_false_of_ne (by omega)
  rw [e2, e1]
  refine ⟨rfl, ?_, by simp [World.setCell], ?_⟩
  · have := sb_set (sb_set H.out 2 (.int .i64 ((n - 1 : Nat) : Int))) 3 (.bool (decide (n = 1)))
    simpa using this
  · exact (Chg.setCell (F := (· = p)) w (p := ⟨p, 2, none⟩) rfl _).same (Chg.setCell (F := (· = p)) _ (p := ⟨p, 3, none⟩) rfl _)

theorem tick_calls (p m : Nat) (w : World) (la : ByteArray) (ar : Nat) (dn : Bool) (d : St) (hd : d.armed = ar) (hdn : d.down = dn) (hm : ar ≤ 9223372036854775807)
    (h : w.heap[p]? = some (.cells #[.map (some m), .string la, .int .i64 ar, .bool dn] 64 (0, 0))) :
    Calls Try.prog 35 #[.pointer (some ⟨p, 0, none⟩)] w fun e w' => e = .returned (.bool (tick d).1) ∧ w'.heap[p]? = some (.cells #[.map (some m), .string la, .int .i64 (tick d).2.armed, .bool (tick d).2.down] 64 (0, 0)) ∧ w'.heap.size = w.heap.size ∧ Chg (· = p) w w' := by
  subst hd hdn
  by_cases h0 : d.armed = 0
  · rw [h0] at h
    refine (fails_no p w _ _ _ h).mono ?_
    rintro e w' ⟨rfl, rfl⟩
    have e : tick d = (false, d) := by simp only [tick, h0, if_true]
    rw [e]
    exact ⟨rfl, by rw [h0]; exact h, rfl, Chg.refl _ _⟩
  · refine (fails_yes p w _ _ d.armed d.down (by omega) hm h).mono ?_
    rintro e w' ⟨rfl, h1, h2, h3⟩
    have e : tick d = (decide (d.armed = 1), { d with armed := d.armed - 1, down := decide (d.armed = 1) }) := by simp only [tick, h0, if_false]
    rw [e]
    exact ⟨rfl, h1, h2, h3⟩

set_option maxHeartbeats 400000 in
theorem has_calls (p m : Nat) (w : World) (L : List FileC) (nm : ByteArray) (x y z : Value) (hn : nm.size ≤ maxLen) (h : w.heap[p]? = some (.cells #[.map (some m), x, y, z] 64 (0, 0))) (hm : MapAt w m L) :
    Calls Try.prog 34 #[.pointer (some ⟨p, 0, none⟩), .string nm] w fun e w' => e = .returned (.bool (look FileC.nm nm L).isSome) ∧ w = w' := by
  have h0 := sb_cell h 0
  simp at h0
  have hl := hm.look hn
  clear h hm
  cases hk : look FileC.nm nm L with
  | none =>
    rw [hk] at hl
    simp only [ptrOf] at hl
    clear hk
    go_enter Try.func34, Try.ntmps34
    go_wp2
    go_ret
    exact ⟨rfl, rfl⟩
  | some c =>
    rw [hk] at hl
    simp only [ptrOf] at hl
    clear hk
    go_enter Try.func34, Try.ntmps34
    go_wp2
    go_ret
    exact ⟨rfl, rfl⟩

set_option maxHeartbeats 400000 in
theorem down_calls (p : Nat) (w : World) (x y z : Value) (b : Bool) (h : w.heap[p]? = some (.cells #[x, y, z, .bool b] 64 (0, 0))) :
    Calls Try.prog 23 #[.pointer (some ⟨p, 0, none⟩)] w fun e w' => e = .returned (.bool b) ∧ w = w' := by
  have h3 := sb_cell h 3
  simp at h3
  clear h
  go_enter Try.func23, Try.ntmps23
  go_wp2
  go_ret
  exact ⟨rfl, rfl⟩
end Go.Proofs.Ytflajlnknimjaaa.Dk

/- Ranging over the disk's map: the laws at 'range' and 'next', in terms of the files that are still to come. -/
import Derived.Test.YtflajlnknimjaaaDkW5
import Derived.Sort.KeysCollected
namespace Go.Proofs.Ytflajlnknimjaaa.Dk
open Go.RowKit Go.Maps Go.Proofs.YtflajlnknimjaaaW.PrintWords Go.Proofs.YtflajlnknimjaaaW.PrintMore Go.Proofs.Ytflajlnknimjaaa.Syn

/-- The loop over map m is under way with iterator r; T: the files still to come. -/
def Going (w : World) (m r : Nat) (L T : List FileC) (cnt : Nat) : Prop :=
  ∃ left, w.ranges Try.prog 9 RP m r L.length (mapD L) left cnt ∧ T = L.filter fun c => left (.string (bts c.nm))

def mkV (o : Option Nat) : Value := .pointer (o.map fun b => ⟨b, 0, none⟩)
theorem invK (key : Value) (kl : Lit) (h : keyOf Try.prog 9 key = some kl) : ∃ x : ByteArray, key = .string x := by
  obtain ⟨x, hx, _⟩ := Go.Maps.keyOf_str Try.underlying9 h
  exact ⟨_, hx⟩
theorem invV (v : Value) (y : DataW Unit × List MemPlace) (h : RP v = some y) : ∃ o, v = mkV o := by
  unfold RP at h
  split at h
  · rename_i b; exact ⟨some b, rfl⟩
  · exact ⟨none, rfl⟩
  · cases h

section
variable {P : Program} (w : World) {ops : Array Oper} {rest : List Oper} {o : Oper} {a : Act} {Q : Exit → Act → World → Prop} {m : Nat} {L : List FileC}
theorem wpList_range_d (hg : o.guard = none) (x : Operand) (hop : o.op = Op.range 62 x) (hx : a.eval x = .map (some m)) (hm : MapAt w m L)
    (hK : ∀ w', Going w' m w.heap.size L L L.length → w.grownBy w' none → w'.heap.size = w.heap.size + 1 → wpList Try.prog ops Q rest (a.put o.dst (.pointer (some ⟨w.heap.size, 0, none⟩))) w') :
    wpList Try.prog ops Q (o :: rest) a w := by
  refine wpList_range_own w hg x 62 hop 9 66 lawS Try.underlying62 RP m L.length (mapD L) hx hm ?_
  intro w' h1 h2 h3
  rw [size_mapD] at h1
  refine hK w' ⟨_, h1, ?_⟩ h2 h3
  rw [eq_comm, List.filter_eq_self]
  intro c hc
  show (L.map entry).any _ = true
  exact List.any_eq_true.2 ⟨entry c, List.mem_map.2 ⟨c, hc, rfl⟩, by rw [show (entry c).1 = Lit.string (bts c.nm) from rfl, sameKey_str]; simp⟩
theorem wpList_next_d (hg : o.guard = none) (it : Operand) (hop : o.op = Op.next it false) (r : Nat) (T : List FileC) (cnt : Nat) (hs : Srt FileC.nm L) (hit : a.eval it = .pointer (some ⟨r, 0, none⟩)) (h : Going w m r L T cnt)
    (hDone : T = [] → wpList Try.prog ops Q rest (a.put o.dst (.tuple #[.bool false])) w)
    (hMore : ∀ (c : FileC) (w' : World) (cnt' : Nat), c ∈ T → c ∈ L → Going w' m r L (era FileC.nm c.nm T) cnt' → cnt' < cnt → w.grownBy w' (some r) → w'.heap.size = w.heap.size →
      (Instr.entry (.pointer (some ⟨r, 0, none⟩))).run Try.prog w' = .ok (.tuple #[.string c.nm, .pointer (some ⟨c.blk, 0, none⟩)]) w' → wpList Try.prog ops Q rest (a.put o.dst (.tuple #[.bool true, .string c.nm, .pointer (some ⟨c.blk, 0, none⟩)])) w') :
    wpList Try.prog ops Q (o :: rest) a w := by
  obtain ⟨left, hr, rfl⟩ := h
  refine wpList_next_ranges w hg it hop 9 lawS RP Value.string mkV invK invV m r L.length (mapD L) left cnt hit hr ?_ ?_
  · intro _ hl
    refine hDone ?_
    rw [List.filter_eq_nil_iff]
    intro c _
    rw [hl]
    simp
  · intro x o kl y w' cnt' hkey hlk hv hat hr' hlt hgr hsz hen
    have hkl : kl = .string (bts x) := by
      obtain ⟨x', hx', e, _⟩ := Go.Maps.keyOf_str Try.underlying9 hkey
      have h2 : Value.string x = Value.string ⟨x'.toArray⟩ := hx'
      have h3 : x = ⟨x'.toArray⟩ := Value.string.inj h2
      rw [e, h3]
    subst hkl
    have h1 := hat .nil
    have h2 := hat (.agg [])
    cases hlo : look FileC.nm x L with
    | none =>
      exfalso
      have e1 : (mapD L).atKey (.string (bts x)) (.agg []) = .agg [] := by
        have hno := look_none.1 hlo
        unfold mapD DataW.atKey
        simp only
        rw [List.find?_eq_none.2 (fun p hp => by
          obtain ⟨c, hc, rfl⟩ := List.mem_map.1 hp
          rw [show (entry c).1 = Lit.string (bts c.nm) from rfl, sameKey_str]
          simpa using hno c hc)]
      rw [atKey_mapD, hlo] at h1
      rw [e1] at h2
      simp only at h1
      rw [← h1] at h2
      cases h2
    | some c =>
      obtain ⟨hcL, hcx⟩ := look_some hlo
      subst hcx
      rw [atKey_mapD, hlo] at h1
      simp only at h1
      have ho : mkV o = .pointer (some ⟨c.blk, 0, none⟩) := RP_inv2 (ps := y.2) (by rw [hv, h1])
      rw [ho] at hen ⊢
      refine hMore c w' cnt' (List.mem_filter.2 ⟨hcL, hlk⟩) hcL ⟨_, hr', ?_⟩ hlt hgr hsz hen
      unfold era
      rw [List.filter_filter]
      apply List.filter_congr
      intro z _
      rw [sameKey_str]
      cases left (.string (bts z.nm)) <;> simp
end
section
variable {w w' : World} {m r cnt : Nat} {L T : List FileC}
theorem Going.kept {row : Option Nat} (h : Going w m r L T cnt) (hg : w.grownBy w' row) (h1 : some m ≠ row) (h2 : some r ≠ row) : Going w' m r L T cnt := by
  obtain ⟨left, hr, e⟩ := h
  exact ⟨left, hr.kept hg h1 h2, e⟩
theorem Going.left_eq (h : Going w m r L T cnt) : w.rangeLeft m r = cnt := by
  obtain ⟨left, hr, e⟩ := h
  exact hr.left_eq
theorem Going.lt (h : Going w m r L T cnt) : r < w.heap.size := by
  obtain ⟨left, hr, e⟩ := h
  exact hr.lt
theorem Going.map (h : Going w m r L T cnt) : MapAt w m L := by
  obtain ⟨left, hr, e⟩ := h
  exact hr.owns
theorem Going.sub (h : Going w m r L T cnt) : ∀ c ∈ T, c ∈ L := by
  obtain ⟨left, hr, e⟩ := h
  subst e
  exact fun c hc => (List.mem_filter.1 hc).1
end
end Go.Proofs.Ytflajlnknimjaaa.Dk

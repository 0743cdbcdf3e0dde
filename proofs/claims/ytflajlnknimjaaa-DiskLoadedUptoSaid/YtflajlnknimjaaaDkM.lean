/- Several things in memory apart from each other, each in blocks of its own behind B; what a call does to one of them leaves the others. -/
import Derived.Test.YtflajlnknimjaaaDkF
import Derived.Test.YtflajlnknimjaaaDkO
namespace Go.Proofs.Ytflajlnknimjaaa.Dk
open Go.RowKit Go.Maps Go.Proofs.YtflajlnknimjaaaW.PrintWords Go.Proofs.YtflajlnknimjaaaW.PrintMore Go.Proofs.Ytflajlnknimjaaa.Syn Go.Proofs.Ytflajlnknimjaaa.PDiskLoads

/-- A thing: what it says of a world and of the blocks that are its own; it stays where those stay. -/
structure Thing where
  P : World → (Nat → Prop) → Prop
  stay : ∀ {w w' : World} {F : Nat → Prop}, (∀ k, F k → k < w.heap.size) → w.heap.size ≤ w'.heap.size → (∀ k, F k → w'.heap[k]? = w.heap[k]?) → P w F → P w' F

/-- The things D, apart from each other, all in blocks from B on; below B the world is as w0. -/
def Many (B : Nat) (w0 w : World) (D : List Thing) : Prop :=
  Below B w0 w ∧ B ≤ w.heap.size ∧ ∃ own : Nat → Nat, (∀ k, own k ≠ 0 → B ≤ k ∧ k < w.heap.size) ∧ ∀ i (t : Thing), D[i]? = some t → t.P w (fun k => own k = i + 1)

section
variable {B i : Nat} {w0 w w' : World} {D : List Thing} {t : Thing}
theorem Many.start (w : World) : Many w.heap.size w w [] := ⟨Below.refl _ _, Nat.le_refl _, fun _ => 0, fun k h => absurd rfl h, fun i t h => by simp at h⟩
theorem Many.below (h : Many B w0 w D) : Below B w0 w := h.1
theorem Many.size (h : Many B w0 w D) : B ≤ w.heap.size := h.2.1
/-- One of them, with its blocks. -/
theorem Many.get (h : Many B w0 w D) (hi : D[i]? = some t) : ∃ F : Nat → Prop, t.P w F ∧ (∀ k, F k → B ≤ k ∧ k < w.heap.size) ∧ (∀ (j : Nat) (u : Thing), j ≠ i → D[j]? = some u → ∃ G : Nat → Prop, u.P w G ∧ ∀ k, G k → k < w.heap.size ∧ ¬ F k) ∧
    ∀ {w' : World} {t' : Thing}, Chg F w w' → t'.P w' (Gr F w w') → Many B w0 w' (D.set i t') := by
  obtain ⟨h1, h2, own, h3, h4⟩ := h
  refine ⟨fun k => own k = i + 1, h4 i t hi, fun k hk => h3 k (by omega), fun j u hj hu => ⟨fun k => own k = j + 1, h4 j u hu, fun k hk => ⟨(h3 k (by omega)).2, fun e => hj (by omega)⟩⟩, fun {w' t'} hc ht => ?_⟩
  have hil := (List.getElem?_eq_some_iff.1 hi).1
  have hs := hc.size
  refine ⟨⟨hc.os.trans h1.os, hc.tape.trans h1.tape, hc.output.trans h1.output, Nat.le_trans h1.size hs, fun k hk => (hc.block k (by omega) (fun e => by have := (h3 k (by omega)).1; omega)).trans (h1.block k hk)⟩, Nat.le_trans h2 hs, fun k => if k < w.heap.size then own k else if k < w'.heap.size then i + 1 else 0, fun k hk => ?_, fun j u hj => ?_⟩
  · by_cases hk1 : k < w.heap.size
    · simp only [hk1, if_true] at hk
      have := h3 k hk
      omega
    · simp only [hk1, if_false] at hk
      by_cases hk2 : k < w'.heap.size
      · omega
      · simp [hk2] at hk
  · rw [List.getElem?_set] at hj
    by_cases hij : i = j
    · subst hij
      simp only [if_true, hil] at hj
      injection hj with hj
      subst hj
      have e : (fun k => (if k < w.heap.size then own k else if k < w'.heap.size then i + 1 else 0) = i + 1) = Gr (fun k => own k = i + 1) w w' := by
        funext k
        apply propext
        unfold Gr
        by_cases hk1 : k < w.heap.size
        · simp only [hk1, if_true]
          constructor
          · exact .inl
          · rintro (h | h)
            · exact h
            · omega
        · simp only [hk1, if_false]
          by_cases hk2 : k < w'.heap.size
          · simp only [hk2, if_true, true_iff]
            exact .inr ⟨by omega, trivial⟩
          · simp only [hk2, if_false]
            constructor
            · intro h; omega
            · rintro (h | h)
              · have := h3 k (by omega); omega
              · exact absurd h.2 (by simp)
      rw [e]
      exact ht
    · rw [if_neg hij] at hj
      have hu := h4 j u hj
      have e : (fun k => (if k < w.heap.size then own k else if k < w'.heap.size then i + 1 else 0) = j + 1) = fun k => own k = j + 1 := by
        funext k
        apply propext
        by_cases hk1 : k < w.heap.size
        · simp only [hk1, if_true]
        · simp only [hk1, if_false]
          constructor
          · intro h
            split at h <;> omega
          · intro h
            have := h3 k (by omega)
            omega
      rw [e]
      exact u.stay (fun k hk => (h3 k (by omega)).2) hs (fun k hk => hc.block k (h3 k (by omega)).2 (fun e => by omega)) hu
/-- Nothing has changed but what is new. -/
theorem Many.read (h : Many B w0 w D) (hb : Below w.heap.size w w') : Many B w0 w' D := by
  obtain ⟨h1, h2, own, h3, h4⟩ := h
  refine ⟨⟨hb.os.trans h1.os, hb.tape.trans h1.tape, hb.output.trans h1.output, Nat.le_trans h1.size hb.size, fun k hk => (hb.block k (by omega)).trans (h1.block k hk)⟩, Nat.le_trans h2 hb.size, own, fun k hk => ⟨(h3 k hk).1, Nat.lt_of_lt_of_le (h3 k hk).2 hb.size⟩, fun i t hi => t.stay (fun k hk => (h3 k (by omega)).2) hb.size (fun k hk => hb.block k (h3 k (by omega)).2) (h4 i t hi)⟩
/-- A new thing has come. -/
theorem Many.add (h : Many B w0 w D) (hb : Below w.heap.size w w') (ht : t.P w' (fun k => w.heap.size ≤ k ∧ k < w'.heap.size)) : Many B w0 w' (D ++ [t]) := by
  obtain ⟨h1, h2, own, h3, h4⟩ := h
  have hs := hb.size
  refine ⟨⟨hb.os.trans h1.os, hb.tape.trans h1.tape, hb.output.trans h1.output, Nat.le_trans h1.size hs, fun k hk => (hb.block k (by omega)).trans (h1.block k hk)⟩, Nat.le_trans h2 hs, fun k => if k < w.heap.size then (if own k ≤ D.length then own k else 0) else if k < w'.heap.size then D.length + 1 else 0, fun k hk => ?_, fun i u hi => ?_⟩
  · by_cases hk1 : k < w.heap.size
    · simp only [hk1, if_true] at hk
      split at hk
      · have := h3 k hk; omega
      · exact absurd rfl hk
    · simp only [hk1, if_false] at hk
      by_cases hk2 : k < w'.heap.size
      · omega
      · simp [hk2] at hk
  · rcases Nat.lt_or_ge i D.length with hil | hil
    · rw [List.getElem?_append_left hil] at hi
      have hu := h4 i u hi
      have e : (fun k => (if k < w.heap.size then (if own k ≤ D.length then own k else 0) else if k < w'.heap.size then D.length + 1 else 0) = i + 1) = fun k => own k = i + 1 := by
        funext k
        apply propext
        by_cases hk1 : k < w.heap.size
        · simp only [hk1, if_true]
          by_cases h5 : own k ≤ D.length
          · simp only [h5, if_true]
          · simp only [h5, if_false]
            constructor <;> (intro h; omega)
        · simp only [hk1, if_false]
          constructor
          · intro h
            split at h <;> omega
          · intro h
            have := h3 k (by omega)
            omega
      rw [e]
      exact u.stay (fun k hk => (h3 k (by omega)).2) hs (fun k hk => hb.block k (h3 k (by omega)).2) hu
    · have hie : i = D.length := by
        have := (List.getElem?_eq_some_iff.1 hi).1
        simp at this
        omega
      subst hie
      simp at hi
      subst hi
      have e : (fun k => (if k < w.heap.size then (if own k ≤ D.length then own k else 0) else if k < w'.heap.size then D.length + 1 else 0) = D.length + 1) = fun k => w.heap.size ≤ k ∧ k < w'.heap.size := by
        funext k
        apply propext
        by_cases hk1 : k < w.heap.size
        · simp only [hk1, if_true]
          constructor
          · intro h
            split at h <;> omega
          · intro h; omega
        · simp only [hk1, if_false]
          by_cases hk2 : k < w'.heap.size
          · simp only [hk2, if_true]
            exact ⟨fun _ => ⟨by omega, trivial⟩, fun _ => trivial⟩
          · simp only [hk2, if_false]
            exact ⟨fun h => by omega, fun h => absurd h.2 (by simp)⟩
      rw [e]
      exact ht
end

/-! the things -/
theorem DiskIs.stay {w w' : World} {F : Nat → Prop} {p m : Nat} {L : List FileC} {la : ByteArray} {ar : Nat} {dn : Bool} (h : DiskIs w F p m L la ar dn) (hs : w.heap.size ≤ w'.heap.size) (e : ∀ k, F k → w'.heap[k]? = w.heap[k]?) : DiskIs w' F p m L la ar dn :=
  ⟨(e p h.fp).trans h.blk, h.fp, h.fm, h.map.heap (e m h.fm), fun c hc' => (h.files c hc').heap (fun k hk => e k (by
    rcases hk with rfl | hk
    · exact (h.files c hc').2.1
    · exact (h.files c hc').2.2.2 k hk)) (fun _ h => h), h.sep, fun k hk => Nat.lt_of_lt_of_le (h.lt k hk) hs⟩
/-- A disk. -/
def DISK (p : Nat) (d : St) : Thing where
  P := fun w F => DiskAt w F p d ∧ d.Ok
  stay := fun _ hs he ⟨⟨m, L, h1, h2⟩, h3⟩ => ⟨⟨m, L, h1.stay hs he, h2⟩, h3⟩
/-- Files. -/
def FILES (v : Value) (l : List SF) : Thing where
  P := fun w F => kF.R 36 w 0 F v l
  stay := fun _ _ he h => Kd.R_move h he
/-- A row of bytes. -/
def BYTES (v : Value) (l : List Int) : Thing where
  P := fun w F => (Kd.int .u8).R 5 w 0 F v l
  stay := fun _ _ he h => Kd.R_move h he
/-- A row of strings. -/
def TEXTS (v : Value) (l : List ByteArray) : Thing where
  P := fun w F => Kd.string.R 9 w 0 F v l
  stay := fun _ _ he h => Kd.R_move h he
end Go.Proofs.Ytflajlnknimjaaa.Dk

/- What the printed helpers say, in plain words: SameBytes, SameFiles, few. -/
import Derived.Test.YtflajlnknimjaaaDkQ
namespace Go.Proofs.Ytflajlnknimjaaa.Dk
open Go.RowKit Go.Maps Go.Proofs.YtflajlnknimjaaaW.PrintWords Go.Proofs.YtflajlnknimjaaaW.PrintMore Go.Proofs.Ytflajlnknimjaaa.Syn Go.Proofs.Ytflajlnknimjaaa.PDiskLoads

theorem wrap_next (i : Nat) (h : i < 4611686018427387904) : wrap64 ((i : Int) + 1) = ((i + 1 : Nat) : Int) := by unfold wrap64; omega
theorem sameBytes_loop {a b : List Int} (hl : a.length = b.length) (hs : a.length ≤ 4611686018427387904) : ∀ (n i k : Nat), a.length - i = n → i ≤ a.length → n < k → synodref_SameBytes.l0 k a b (i : Int) = some (decide (a.drop i = b.drop i)) := by
  intro n
  induction n with
  | zero =>
    intro i k hn hi hk
    obtain ⟨k, rfl⟩ : ∃ k', k = k' + 1 := ⟨k - 1, by omega⟩
    rw [synodref_SameBytes.l0, if_neg (by omega), List.drop_eq_nil_of_le (by omega), List.drop_eq_nil_of_le (by omega)]
    rfl
  | succ n ih =>
    intro i k hn hi hk
    obtain ⟨k, rfl⟩ : ∃ k', k = k' + 1 := ⟨k - 1, by omega⟩
    have h1 : i < a.length := by omega
    have h2 : i < b.length := by omega
    rw [synodref_SameBytes.l0, if_pos (by omega), if_pos (by omega), if_pos (by omega), wrap_next i (by omega), ih (i + 1) k (by omega) (by omega) (by omega)]
    have key : a.drop i = b.drop i ↔ a[i] = b[i] ∧ a.drop (i + 1) = b.drop (i + 1) := by rw [List.drop_eq_getElem_cons h1, List.drop_eq_getElem_cons h2, List.cons.injEq]
    have e1 : rd a (i : Int) = a[i] := by simp [rd, h1]
    have e2 : rd b (i : Int) = b[i] := by simp [rd, h2]
    rw [e1, e2]
    by_cases h : a[i] = b[i]
    · rw [if_pos h]
      exact congrArg some (decide_eq_decide.2 (by rw [key]; exact ⟨fun e => ⟨h, e⟩, fun e => e.2⟩))
    · rw [if_neg h]
      exact congrArg some (decide_eq_false (fun e => h (key.1 e).1)).symm
theorem sameBytes_f (a b : List Int) (k : Nat) (hs : a.length ≤ 4611686018427387904) (hk : a.length < k) : synodref_SameBytes.f k a b = some (decide (a = b)) := by
  unfold synodref_SameBytes.f
  by_cases h : a.length = b.length
  · rw [if_pos (by omega)]
    have := sameBytes_loop h hs _ 0 k rfl (Nat.zero_le _) (by omega)
    simpa using this
  · rw [if_neg (by omega)]
    have : a ≠ b := fun e => h (by rw [e])
    simp [this]
theorem rdF {a : List SF} {i : Nat} (h : i < a.length) : rd_T36 a (i : Int) = a[i] := by simp [rd_T36, h]
theorem sf_ext {x y : SF} : x = y ↔ x.f0 = y.f0 ∧ x.f1 = y.f1 ∧ x.f2 = y.f2 := by
  cases x; cases y
  simp
instance : DecidableEq SF := fun _ _ => decidable_of_iff _ sf_ext.symm
theorem sameFiles_loop {a b : List SF} (hl : a.length = b.length) (hs : a.length ≤ 4611686018427387904) {m : Nat} (hm : ∀ x ∈ a, x.f1.length ≤ m) (hm2 : m ≤ 4611686018427387904) : ∀ (n i k : Nat), a.length - i = n → i ≤ a.length → n + m + 1 < k → synodref_SameFiles.l0 k a b (i : Int) = some (decide (a.drop i = b.drop i)) := by
  intro n
  induction n with
  | zero =>
    intro i k hn hi hk
    obtain ⟨k, rfl⟩ : ∃ k', k = k' + 1 := ⟨k - 1, by omega⟩
    rw [synodref_SameFiles.l0, if_neg (by omega), List.drop_eq_nil_of_le (by omega), List.drop_eq_nil_of_le (by omega)]
    rfl
  | succ n ih =>
    intro i k hn hi hk
    obtain ⟨k, rfl⟩ : ∃ k', k = k' + 1 := ⟨k - 1, by omega⟩
    have h1 : i < a.length := by omega
    have h2 : i < b.length := by omega
    have h3 := hm a[i] (List.getElem_mem h1)
    rw [synodref_SameFiles.l0, if_pos (by omega), if_pos (by omega), if_pos (by omega), wrap_next i (by omega), ih (i + 1) k (by omega) (by omega) (by omega), rdF h1, rdF h2, sameBytes_f _ _ k (by omega) (by omega)]
    have key : a.drop i = b.drop i ↔ a[i] = b[i] ∧ a.drop (i + 1) = b.drop (i + 1) := by rw [List.drop_eq_getElem_cons h1, List.drop_eq_getElem_cons h2, List.cons.injEq]
    rw [sf_ext] at key
    simp only [Option.bind_some, decide_eq_true_eq]
    by_cases e1 : a[i].f1 = b[i].f1
    · rw [if_pos e1]
      by_cases e0 : a[i].f0 = b[i].f0
      · rw [if_pos (by rw [e0])]
        by_cases e2 : a[i].f2 = b[i].f2
        · rw [if_pos e2]
          exact congrArg some (decide_eq_decide.2 (by rw [key]; exact ⟨fun e => ⟨⟨e0, e1, e2⟩, e⟩, fun e => e.2⟩))
        · rw [if_neg e2]
          exact congrArg some (decide_eq_false (fun e => e2 (key.1 e).1.2.2)).symm
      · rw [if_neg (fun h => e0 (tl_inj h))]
        exact congrArg some (decide_eq_false (fun e => e0 (key.1 e).1.1)).symm
    · rw [if_neg e1]
      exact congrArg some (decide_eq_false (fun e => e1 (key.1 e).1.2.1)).symm
theorem sameFiles_f (a b : List SF) {m : Nat} (k : Nat) (hs : a.length ≤ 4611686018427387904) (hm : ∀ x ∈ a, x.f1.length ≤ m) (hm2 : m ≤ 4611686018427387904) (hk : a.length + m + 1 < k) : synodref_SameFiles.f k a b = some (decide (a = b)) := by
  unfold synodref_SameFiles.f
  by_cases h : a.length = b.length
  · rw [if_pos (by omega)]
    have := sameFiles_loop h hs hm hm2 _ 0 k rfl (Nat.zero_le _) (by omega)
    simpa using this
  · rw [if_neg (by omega)]
    have : a ≠ b := fun e => h (by rw [e])
    simp [this]
theorem few_loop (l : List SO) : ∀ (n i k : Nat) (x : Int), 400 - i = n → i ≤ 400 → n < k → ∃ b, synodlaw4_few.l0 k l x (i : Int) = some b := by
  intro n
  induction n with
  | zero =>
    intro i k x hn hi hk
    obtain ⟨k, rfl⟩ : ∃ k', k = k' + 1 := ⟨k - 1, by omega⟩
    rw [synodlaw4_few.l0]
    by_cases h : (i : Int) < l.length
    · rw [if_pos h, if_neg (by omega)]
      split <;> exact ⟨_, rfl⟩
    · rw [if_neg h]
      split <;> exact ⟨_, rfl⟩
  | succ n ih =>
    intro i k x hn hi hk
    obtain ⟨k, rfl⟩ : ∃ k', k = k' + 1 := ⟨k - 1, by omega⟩
    rw [synodlaw4_few.l0]
    by_cases h : (i : Int) < l.length
    · rw [if_pos h, if_pos (by omega), if_pos (by omega), wrap_next i (by omega)]
      exact ih (i + 1) k _ (by omega) (by omega) (by omega)
    · rw [if_neg h]
      split <;> exact ⟨_, rfl⟩
theorem few_f (l : List SO) : ∃ b, synodlaw4_few.f 401 l = some b := few_loop l 400 0 401 0 rfl (Nat.zero_le _) (by omega)

section
variable {B i j : Nat} {w0 w : World} {D : List Thing} {v u : Value} {l r : List SF}
theorem Many.files (hM : Many B w0 w D) (hi : D[i]? = some (FILES v l)) : ∃ A c, v = .slice A l.length c ∧ l.length ≤ c ∧ kF.C w A l.length l := by
  obtain ⟨F, h, _⟩ := hM.get hi
  exact Kd.R_reads h
theorem C_len {α : Type} {k : Kd α} {A : Option Addr} {n : Nat} {xs : List α} (h : k.C w A n xs) : xs.length ≤ 9223372036854775807 := by
  have h1 := h.1
  have h2 := h.2.1
  omega
/-- Two rows of files, in whatever memory they lie. -/
theorem same_calls {A A' : Option Addr} {c c' : Nat} {l r : List SF} (h1 : kF.C w A l.length l) (h2 : l.length ≤ c) (h3 : kF.C w A' r.length r) (h4 : r.length ≤ c') (hl : l.length ≤ 1099511627776) (hm : ∀ x ∈ l, x.f1.length ≤ 1099511627776) :
    Calls Try.prog 25 #[.slice A l.length c, .slice A' r.length c'] w fun e w' => e = .returned (.bool (decide (l = r))) ∧ Below w.heap.size w w' := by
  refine (synodref_SameFiles.calls _ A c l A' c' r _ w h1 h2 h3 h4 (sameFiles_f l r (l.length + 1099511627776 + 2) (by omega) hm (by omega) (by omega))).mono ?_
  rintro e w' ⟨he, hd⟩
  exact ⟨he, hd.below⟩
theorem m_few {A : Option Addr} {c : Nat} {l : List SO} (hM : Many w0.heap.size w0 w D) (hl : Ops w0 A l) (hc : l.length ≤ c) :
    Calls Try.prog 19 #[.slice A l.length c] w fun e w' => ∃ b, e = .returned (.bool b) ∧ Many w0.heap.size w0 w' D := by
  obtain ⟨b, hb⟩ := few_f l
  refine (synodlaw4_few.calls _ A c l b w (Kd.C_below hl.row hM.below) hc hb).mono ?_
  rintro e w' ⟨he, hd⟩
  exact ⟨b, he, hM.read hd⟩
end
end Go.Proofs.Ytflajlnknimjaaa.Dk

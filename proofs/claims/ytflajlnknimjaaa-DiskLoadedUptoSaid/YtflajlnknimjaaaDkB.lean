/- The laws' arguments: operations as they lie when the law is called. -/
import Derived.Test.YtflajlnknimjaaaDk2
import Derived.Test.YtflajlnknimjaaaRows
import Derived.WalkKit
import Derived.ProofKit
import Derived.OpenShut
import Derived.JoinedCond
import Derived.Deep.Slices
import Derived.Deep.Fields
import Derived.ChangeSame
import Derived.Carry
namespace Go.Proofs.Ytflajlnknimjaaa.Dk
open Go.ChangeShapes Go.WideShapes Go.ChangeAt Go.Deep
open Go.RowKit Go.Maps Go.Proofs.YtflajlnknimjaaaW.PrintWords Go.Proofs.YtflajlnknimjaaaW.PrintMore Go.Proofs.Ytflajlnknimjaaa.Syn Go.Proofs.Ytflajlnknimjaaa.PDiskLoads

theorem bulk_pos {H : Type} (d : DataW H) : 1 ≤ Rows.uptoBulk d := by
  cases d with
  | lit l => cases l <;> simp [Rows.uptoBulk]
  | _ => simp [Rows.uptoBulk]
theorem bulk_mem {H : Type} {d : DataW H} {l : List (DataW H)} (h : d ∈ l) : Rows.uptoBulk d ≤ Rows.uptoBulkAll l := by
  induction l with
  | nil => cases h
  | cons x r ih =>
    simp only [Rows.uptoBulkAll]
    rcases List.mem_cons.1 h with e | e
    · subst e; omega
    · have := ih e; omega
theorem bulk_len {H : Type} (l : List (DataW H)) : l.length ≤ Rows.uptoBulkAll l := by
  induction l with
  | nil => simp [Rows.uptoBulkAll]
  | cons x r ih => have := bulk_pos x; simp only [Rows.uptoBulkAll, List.length_cons]; omega
section
variable {H : Type} {enc : TypeId × Value → H} {P : Program} {w : World} {base : Nat} {spare : Nat → Bool} {held : Bool}
/-- A struct in memory, read: each of its fields, one cell each. -/
theorem fields_at {e : TypeId} {fs : Array Field} {fuel : Nat} {a : Addr} {cs : List Value} {y : DataW H × List MemPlace} (he : P.underlying e = some (.struct fs)) (hone : oneCellFields P fs = true)
    (hc : w.cells? base a fs.size = some cs) (ht : DataW.trod enc P w base spare held fuel e cs = some y) :
    ∃ (ys : List (DataW H × List MemPlace)) (n : Nat), y.1 = .agg (ys.map (·.1)) ∧ ∀ (j : Nat) (f : Field), fs[j]? = some f → ∃ (v : Value) (z : DataW H × List MemPlace), w.cell? (a.add j) = some v ∧ ys[j]? = some z ∧ DataW.trod enc P w base spare held n f.type [v] = some z := by
  obtain ⟨ys, n, _, e1, _, e2, hf⟩ := DataW.trod_struct he ht
  have hcs := World.cells?_some hc
  refine ⟨ys, n, by rw [e1], fun j f hj => ?_⟩
  have hjl := (Array.getElem?_eq_some_iff.1 hj).1
  have o := hone_of hone j f hj
  have hjc : j < cs.length := by have := hcs.2.1; omega
  have hjy : j < ys.length := by omega
  have g := hf j f hj
  rw [o.1, o.2, List.drop_eq_getElem_cons hjc, List.take_succ_cons, List.take_zero, List.getElem?_eq_getElem hjy] at g
  exact ⟨cs[j], ys[j], (hcs.2.2 j hjl).trans (List.getElem?_eq_getElem hjc), List.getElem?_eq_getElem hjy, g⟩
end
theorem list_of {α : Type} {Q : Nat → α → Prop} : ∀ n, (∀ i, i < n → ∃ x, Q i x) → ∃ l : List α, l.length = n ∧ ∀ i (h : i < l.length), Q i l[i] := by
  intro n
  induction n with
  | zero => exact fun _ => ⟨[], rfl, fun i h => absurd h (Nat.not_lt_zero i)⟩
  | succ n ih =>
    intro h
    obtain ⟨l, hl, hq⟩ := ih (fun i hi => h i (by omega))
    obtain ⟨x, hx⟩ := h n (by omega)
    refine ⟨l ++ [x], by simp [hl], fun i hi => ?_⟩
    by_cases hin : i < l.length
    · rw [List.getElem_append_left hin]; exact hq i hin
    · have : i = n := by simp at hi; omega
      subst this
      rw [List.getElem_append_right (by omega)]
      simpa [hl] using hx
theorem wf_max {n : Int} (h : (Lit.int .i64 n).wf = true) : n ≤ 9223372036854775807 := by
  have : -9223372036854775808 ≤ n ∧ n ≤ 9223372036854775807 := by simpa [Lit.wf, IntKind.min, IntKind.max, IntKind.signed, IntKind.bits] using h
  exact this.2
theorem bulk_small {H : Type} {l : List (DataW H)} (hk : Rows.uptoSmall H l = true) : Rows.uptoBulkAll l ≤ 1048576 := of_decide_eq_true hk
theorem info_op : ∃ fs, Try.prog.underlying 52 = some (.struct fs) ∧ fs.size = 5 ∧ oneCellFields Try.prog fs = true ∧ (fs.map (·.type)) = #[3, 3, 9, 9, 34] := ⟨_, Try.underlying52, by kernel_rfl, by kernel_rfl, by kernel_rfl⟩
theorem field_at {fs : Array Field} {ts : Array TypeId} (h : (fs.map (·.type)) = ts) {j : Nat} {t : TypeId} (ht : ts[j]? = some t) : ∃ f, fs[j]? = some f ∧ f.type = t := by
  subst h
  rw [Array.getElem?_map] at ht
  cases hf : fs[j]? with
  | none => rw [hf] at ht; cases ht
  | some f => rw [hf] at ht; exact ⟨f, rfl, by simpa using ht⟩

set_option maxRecDepth 10000 in
theorem open_bytes {H : Type} {enc : TypeId × Value → H} {W : World} {fuel : Nat} {v : Value} {y : DataW H × List MemPlace} (h : DataW.trod enc Try.prog W 0 (fun _ => true) true fuel 34 [v] = some y) :
    ∃ A c ys, v = .slice A ys.length c ∧ ys.length ≤ c ∧ (Kd.int .u8).C W A ys.length ys ∧ ys.length ≤ Rows.uptoBulk y.1 := by
  rcases open_ints Try.underlying34 Try.underlying5 (by kernel_rfl) h with ⟨hcs, _⟩ | ⟨a, len, cap, zs, hcs, _, hl, hm, hz, hx, hcell, _⟩
  · obtain rfl : v = .slice none 0 0 := by simpa using hcs
    exact ⟨none, 0, [], rfl, Nat.le_refl _, ⟨rfl, Nat.zero_le _, fun h => absurd h (Nat.lt_irrefl 0)⟩, Nat.zero_le _⟩
  · obtain rfl : v = .slice (some a) len cap := by simpa using hcs
    have hzc : zs.length = cap := by simpa using hz
    have hlen : (zs.take len).length = len := by rw [List.length_take]; omega
    refine ⟨some a, cap, zs.take len, by rw [hlen], by rw [hlen]; exact hl, ⟨rfl, by rw [hlen]; unfold maxLen at hm; omega, fun _ => ⟨a, rfl, fun j p hj => ⟨[.int .u8 p], rfl, rfl, fun i u hu => ?_⟩⟩⟩, ?_⟩
    · have hi : i = 0 := by
        have := (List.getElem?_eq_some_iff.1 hu).1
        simpa using this
      subst hi
      have hu' : u = .int .u8 p := by simpa using hu.symm
      subst hu'
      obtain ⟨hj1, hj2⟩ := List.getElem?_eq_some_iff.1 hj
      rw [hlen] at hj1
      have e : zs.getD j 0 = p := by
        rw [List.getElem_take] at hj2
        simp [List.getD_eq_getElem?_getD, List.getElem?_eq_getElem (show j < zs.length by omega), hj2]
      have := hcell j (by omega)
      rw [e] at this
      have e2 : j * (Kd.int .u8).sz + 0 = j := by show j * 1 + 0 = j; omega
      rw [e2]
      exact this
    · subst hx
      have h1 := bulk_len (H := H) (lits .u8 (zs.take len))
      simp only [Rows.uptoBulk]
      have h2 : (lits (H := H) .u8 (zs.take len)).length = len := by simp [lits, hlen]; omega
      omega

set_option maxRecDepth 10000 in
/-- OPERATIONS, as they come in. -/
theorem open_ops {H : Type} {enc : TypeId × Value → H} {W : World} {v : Value} {d : DataW H} {p : List MemPlace} (h : DataW.Trod enc Try.prog W 0 (fun _ => true) true 42 v d p) {base : Nat} (hv : Value.okWide Try.prog W .any base 42 v) (hb : Rows.uptoBulk d ≤ 1048576) :
    ∃ A c l, v = .slice A l.length c ∧ l.length ≤ c ∧ Ops W A l := by
  obtain ⟨a0, n0, c0, rfl⟩ := okWide_slice Try.underlying42 hv
  obtain ⟨fuel, hf⟩ := h
  obtain ⟨fs, he, hfs, hone, hty⟩ := info_op
  have hC : Try.prog.cellsOf 52 = 5 := by kernel_rfl
  rcases open_slice Try.underlying42 hf with ⟨hcs, _⟩ | ⟨a, len, cap, m, n, D, Pl, hcs, _, hl, hm, hmm, hx, hi⟩
  · simp [Value.cells] at hcs
    obtain ⟨rfl, rfl, rfl⟩ := hcs
    exact ⟨none, 0, [], rfl, Nat.le_refl _, ⟨⟨rfl, Nat.zero_le _, fun h => absurd h (Nat.lt_irrefl 0)⟩, Nat.zero_le _, fun x hx => absurd hx (by simp)⟩⟩
  · simp [Value.cells] at hcs
    obtain ⟨rfl, rfl, rfl⟩ : some a = a0 ∧ len = n0 ∧ cap = c0 := ⟨hcs.1.symm, hcs.2.1.symm, hcs.2.2.symm⟩
    have hmc : m = cap := by simpa using hmm
    have hd : d = .slice ((List.range len).map D) ((List.range (m - len)).map fun j => D (len + j)) := congrArg Prod.fst hx
    have hbl : Rows.uptoBulkAll ((List.range len).map D) ≤ 1048576 := by
      rw [hd] at hb
      simp only [Rows.uptoBulk] at hb
      omega
    have hlen : len ≤ 1048576 := by
      have := bulk_len ((List.range len).map D)
      rw [List.length_map, List.length_range] at this
      omega
    obtain ⟨l, hll, hq⟩ := list_of (Q := fun i (x : SO) => ∃ A4 c4, x.f4.length ≤ c4 ∧ (Kd.int .u8).C W A4 x.f4.length x.f4 ∧ OpFits x ∧ W.cell? (a.add (i * 5)) = some (.int .i64 x.f0) ∧ W.cell? (a.add (i * 5 + 1)) = some (.int .i64 x.f1) ∧ W.cell? (a.add (i * 5 + 2)) = some (.string x.f2) ∧ W.cell? (a.add (i * 5 + 3)) = some (.string x.f3) ∧ W.cell? (a.add (i * 5 + 4)) = some (.slice A4 x.f4.length c4)) len (by
      intro i hil
      obtain ⟨cs', hc, ht⟩ := hi i (by omega)
      rw [hC] at hc
      obtain ⟨ys, n', hy, hF⟩ := fields_at he hone (by rw [hfs]; exact hc) ht
      have hbi : Rows.uptoBulkAll (ys.map (·.1)) ≤ 1048576 := by
        have h1 := bulk_mem (List.mem_map_of_mem (f := D) (List.mem_range.2 hil))
        have h2 : D i = .agg (ys.map (·.1)) := hy
        rw [h2] at h1
        simp only [Rows.uptoBulk] at h1
        omega
      have hbz : ∀ (j : Nat) (z : DataW H × List MemPlace), ys[j]? = some z → Rows.uptoBulk z.1 ≤ 1048576 := fun j z hz => Nat.le_trans (bulk_mem (List.mem_map_of_mem (f := fun x : DataW H × List MemPlace => x.1) (List.mem_of_getElem? hz))) hbi
      obtain ⟨g0, q0, r0⟩ := field_at hty (j := 0) rfl
      obtain ⟨g1, q1, r1⟩ := field_at hty (j := 1) rfl
      obtain ⟨g2, q2, r2⟩ := field_at hty (j := 2) rfl
      obtain ⟨g3, q3, r3⟩ := field_at hty (j := 3) rfl
      obtain ⟨g4, q4, r4⟩ := field_at hty (j := 4) rfl
      obtain ⟨v0, z0, m0, y0, t0⟩ := hF 0 g0 q0
      obtain ⟨v1, z1, m1, y1, t1⟩ := hF 1 g1 q1
      obtain ⟨v2, z2, m2, y2, t2⟩ := hF 2 g2 q2
      obtain ⟨v3, z3, m3, y3, t3⟩ := hF 3 g3 q3
      obtain ⟨v4, z4, m4, y4, t4⟩ := hF 4 g4 q4
      rw [r0] at t0
      rw [r1] at t1
      rw [r2] at t2
      rw [r3] at t3
      rw [r4] at t4
      obtain ⟨x0, e0, _, _⟩ := DataW.trod_int Try.underlying3 t0
      obtain ⟨x1, e1, _, w1⟩ := DataW.trod_int Try.underlying3 t1
      obtain ⟨x2, e2, d2, _⟩ := DataW.trod_string Try.underlying9 t2
      obtain ⟨x3, e3, d3, _⟩ := DataW.trod_string Try.underlying9 t3
      obtain ⟨A4, c4, x4, e4, l4, hC4, b4⟩ := open_bytes t4
      obtain rfl : v0 = .int .i64 x0 := by simpa using e0
      obtain rfl : v1 = .int .i64 x1 := by simpa using e1
      obtain rfl : v2 = .string x2 := by simpa using e2
      obtain rfl : v3 = .string x3 := by simpa using e3
      subst e4
      have k2 := hbz 2 _ y2
      have k3 := hbz 3 _ y3
      have k4 := hbz 4 _ y4
      rw [d2] at k2
      rw [d3] at k3
      simp only [Rows.uptoBulk] at k2 k3
      have s2 : x2.data.toList.length = x2.size := by rw [Array.length_toList]; rfl
      have s3 : x3.data.toList.length = x3.size := by rw [Array.length_toList]; rfl
      have hadd : ∀ j, (a.add (i * 5)).add j = a.add (i * 5 + j) := fun j => Go.Deep.add_add _ _ _
      rw [hadd] at m0 m1 m2 m3 m4
      exact ⟨⟨x0, x1, x2, x3, x4⟩, A4, c4, l4, hC4, ⟨wf_max w1, by show x2.size ≤ _; omega, by show x3.size ≤ _; omega, by show x4.length ≤ _; omega⟩, m0, m1, m2, m3, m4⟩)
    subst hll
    refine ⟨some a, cap, l, rfl, hl, ⟨⟨rfl, by omega, fun _ => ⟨a, rfl, fun j x hj => ?_⟩⟩, hlen, fun x hx => ?_⟩⟩
    · obtain ⟨hj1, rfl⟩ := List.getElem?_eq_some_iff.1 hj
      obtain ⟨A4, c4, h4, hC4, _, k0, k1, k2, k3, k4⟩ := hq j hj1
      refine ⟨_, rfl, k52_mk W l[j] h4 hC4, fun i u hu => ?_⟩
      have hi5 : i < 5 := (List.getElem?_eq_some_iff.1 hu).1
      show W.cell? (a.add (j * 5 + i)) = some u
      rcases i with _ | _ | _ | _ | _ | i
      · rw [← hu]; exact k0
      · rw [← hu]; exact k1
      · rw [← hu]; exact k2
      · rw [← hu]; exact k3
      · rw [← hu]; exact k4
      · omega
    · obtain ⟨j, hj, rfl⟩ := List.getElem_of_mem hx
      obtain ⟨A4, c4, _, _, h5, _⟩ := hq j hj
      exact h5
end Go.Proofs.Ytflajlnknimjaaa.Dk

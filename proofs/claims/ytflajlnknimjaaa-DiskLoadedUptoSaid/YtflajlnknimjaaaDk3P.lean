/- What a crash leaves, in plain words: for DiskDurable. -/
import Derived.Test.YtflajlnknimjaaaDkB
namespace Go.Proofs.Ytflajlnknimjaaa.Dk
open Go.RowKit Go.Maps Go.Proofs.YtflajlnknimjaaaW.PrintWords Go.Proofs.YtflajlnknimjaaaW.PrintMore Go.Proofs.Ytflajlnknimjaaa.Syn Go.Proofs.Ytflajlnknimjaaa.PDiskLoads

theorem kept_in {last : ByteArray} {keep : Int} {x : Fl} (h : x.syn ≤ x.dat.length) : x.syn ≤ kept last keep x ∧ kept last keep x ≤ x.dat.length ∧ ((kept last keep x : Nat) : Int) - x.syn ≤ max keep 0 := by
  unfold kept
  split
  · omega
  · omega
theorem crash_fs (d : St) (keep : Int) : (d.crash keep).fs = d.fs.map fun x => { x with dat := x.dat.take (kept d.last keep x), syn := kept d.last keep x } := rfl
theorem crash_len (d : St) (keep : Int) : (filesOf (d.crash keep)).length = (filesOf d).length := by simp [filesOf, crash_fs]
/-- The i-th file, ahead of a crash and behind it. -/
theorem crash_at {d : St} (ok : d.Ok) (keep : Int) {i : Nat} (h : i < (filesOf d).length) (h' : i < (filesOf (d.crash keep)).length) :
    ∃ x ∈ d.fs, d.fs[i]? = some x ∧ (filesOf d)[i] = ⟨x.nm, x.dat, x.syn⟩ ∧ (filesOf (d.crash keep))[i] = ⟨x.nm, x.dat.take (kept d.last keep x), kept d.last keep x⟩ ∧ x.syn ≤ kept d.last keep x ∧ kept d.last keep x ≤ x.dat.length ∧ ((kept d.last keep x : Nat) : Int) - x.syn ≤ max keep 0 ∧ x.dat.length ≤ 16777216 := by
  have hi : i < d.fs.length := by simpa [filesOf] using h
  have hm := List.getElem_mem hi
  obtain ⟨k1, k2, k3⟩ := kept_in (last := d.last) (keep := keep) (ok.syn _ hm)
  refine ⟨d.fs[i], hm, List.getElem?_eq_getElem hi, ?_, ?_, k1, k2, k3, Nat.le_trans (total_mem hm) ok.tot⟩
  · simp [filesOf, Fl.out]
  · simp [filesOf, Fl.out, crash_fs]
def more (d : St) (keep : Int) (k : Nat) : Nat := (d.fs.take k).countP fun x => decide (x.syn < kept d.last keep x)
theorem more_succ {d : St} {keep : Int} {k : Nat} {x : Fl} (h : d.fs[k]? = some x) : more d keep (k + 1) = more d keep k + if x.syn < kept d.last keep x then 1 else 0 := by
  obtain ⟨hk, rfl⟩ := List.getElem?_eq_some_iff.1 h
  unfold more
  rw [List.take_succ_eq_append_getElem hk, List.countP_append]
  simp [List.countP_cons]
theorem more_le {d : St} (ok : d.Ok) (keep : Int) (k : Nat) : more d keep k ≤ 1 := by
  unfold more
  have key : ∀ l : List Fl, Srt Fl.nm l → l.countP (fun x => decide (x.syn < kept d.last keep x)) ≤ 1 := by
    intro l
    induction l with
    | nil => intro _; simp
    | cons y r ih =>
      intro hs
      have h' := List.pairwise_cons.1 hs
      rw [List.countP_cons]
      by_cases hy : y.nm = d.last
      · have hz : r.countP (fun x => decide (x.syn < kept d.last keep x)) = 0 := by
          rw [List.countP_eq_zero]
          intro z hz
          have hne : z.nm ≠ d.last := fun e => before_ne (h'.1 z hz) (hy.trans e.symm)
          simp [kept, hne]
        rw [hz]
        split <;> omega
      · have : ¬ y.syn < kept d.last keep y := by simp [kept, hy]
        simp only [this, decide_false]
        exact ih h'.2
  refine key _ (List.Pairwise.sublist (List.take_sublist _ _) ok.srt)
theorem crash_twice {d : St} (ok : d.Ok) (keep again : Int) : filesOf ((d.crash keep).crash again) = filesOf (d.crash keep) := by
  unfold filesOf
  rw [crash_fs (d.crash keep)]
  rw [List.map_map]
  refine List.map_congr_left fun y hy => ?_
  rw [crash_fs] at hy
  obtain ⟨x, hx, rfl⟩ := List.mem_map.1 hy
  obtain ⟨k1, k2, k3⟩ := kept_in (last := d.last) (keep := keep) (ok.syn _ hx)
  have hl : (x.dat.take (kept d.last keep x)).length = kept d.last keep x := by rw [List.length_take]; omega
  have e : kept (d.crash keep).last again { x with dat := x.dat.take (kept d.last keep x), syn := kept d.last keep x } = kept d.last keep x := by
    have h := kept_in (last := (d.crash keep).last) (keep := again) (x := { x with dat := x.dat.take (kept d.last keep x), syn := kept d.last keep x }) (by show kept d.last keep x ≤ (x.dat.take (kept d.last keep x)).length; omega)
    obtain ⟨h1, h2, _⟩ := h
    simp only at h1 h2
    omega
  simp only [Function.comp_apply, e]
  rw [List.take_of_length_le (by omega)]
end Go.Proofs.Ytflajlnknimjaaa.Dk

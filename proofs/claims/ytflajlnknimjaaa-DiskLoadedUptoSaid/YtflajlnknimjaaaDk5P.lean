/- Load of a disk's own files, in plain words: for DiskLoaded. -/
import Derived.Test.YtflajlnknimjaaaDkLf
namespace Go.Proofs.Ytflajlnknimjaaa.Dk
open Go.RowKit Go.Maps Go.Proofs.YtflajlnknimjaaaW.PrintWords Go.Proofs.YtflajlnknimjaaaW.PrintMore Go.Proofs.Ytflajlnknimjaaa.Syn Go.Proofs.Ytflajlnknimjaaa.PDiskLoads

theorem ins_last {α : Type} {key : α → ByteArray} {x : α} : ∀ {l : List α}, (∀ y ∈ l, bytesBefore (bts (key y)) (bts (key x)) = true) → ins key x l = l ++ [x]
  | [], _ => rfl
  | y :: r, h => by
    unfold ins
    rw [if_neg (by rw [before_asymm (h y List.mem_cons_self)]; simp), ins_last (fun z hz => h z (List.mem_cons_of_mem _ hz))]
    rfl
theorem out_fl (f : Fl) : SF.fl f.out = f := by
  cases f
  simp [SF.fl, Fl.out]
/-- A disk of these files, just loaded. -/
def ofFiles (l : List Fl) : St := ⟨l, nil_, 0, false⟩
theorem half_files {d : St} (ok : d.Ok) : ∀ k, k ≤ d.fs.length → Half (filesOf d) k (ofFiles (d.fs.take k)) := by
  intro k
  induction k with
  | zero => exact fun _ => Half.new _
  | succ k ih =>
    intro hk
    have hlt : k < d.fs.length := by omega
    have hlt2 : k < (filesOf d).length := by simpa [filesOf] using hlt
    have e : (filesOf d)[k] = d.fs[k].out := by simp [filesOf]
    have hm := List.getElem_mem hlt
    have hsrt : ∀ y ∈ d.fs.take k, bytesBefore (bts y.nm) (bts d.fs[k].nm) = true := by
      intro y hy
      obtain ⟨j, hj, rfl⟩ := List.getElem_of_mem hy
      rw [List.length_take] at hj
      rw [List.getElem_take]
      exact List.pairwise_iff_getElem.1 ok.srt j k (by omega) hlt (by omega)
    have h := (ih (by omega)).step hlt2 (by rw [e]; exact ok.named _ hm) (by
      rw [e]
      show look Fl.nm d.fs[k].nm (d.fs.take k) = none
      exact look_none.2 (fun y hy => before_ne (hsrt y hy))) (by
      rw [e]
      have := ok.syn _ hm
      show ¬ ((d.fs[k].syn : Int) < 0 ∨ (d.fs[k].dat.length : Int) < (d.fs[k].syn : Int))
      omega)
    rw [e, out_fl] at h
    have e2 : ins Fl.nm d.fs[k] (ofFiles (d.fs.take k)).fs = d.fs.take (k + 1) := by
      show ins Fl.nm d.fs[k] (d.fs.take k) = _
      rw [ins_last hsrt, List.take_succ_eq_append_getElem hlt]
    rw [e2] at h
    exact h
theorem load_files {d : St} (ok : d.Ok) : load (filesOf d) = (0, some (ofFiles d.fs)) := by
  have h := half_files ok d.fs.length (Nat.le_refl _)
  rw [List.take_length] at h
  have hl : (filesOf d).length = d.fs.length := by simp [filesOf]
  rw [← hl] at h
  refine h.yes ?_
  have h1 := ok.cnt
  have h2 := ok.tot
  show ¬ (256 < (filesOf d).length ∨ 16777216 < total d.fs)
  omega
theorem files_of (l : List Fl) (d : St) (h : d.fs = l) : filesOf d = l.map Fl.out := by rw [filesOf, h]
theorem crash_loaded {d : St} (ok : d.Ok) : (ofFiles d.fs).crash 5 = d.crash 0 := by
  unfold St.crash
  congr 1
  refine List.map_congr_left fun x hx => ?_
  have hne : x.nm ≠ nil_ := by
    intro e
    have h := ok.named x hx
    rw [e] at h
    revert h
    decide
  have e1 : kept (ofFiles d.fs).last 5 x = x.syn := by unfold kept; rw [if_neg (by exact hne)]
  have e2 : kept d.last 0 x = x.syn := by unfold kept; split <;> simp
  rw [e1, e2]
theorem files_fits {d : St} (ok : d.Ok) : (∀ x ∈ filesOf d, FileFits x) ∧ ((filesOf d).map fun f => f.f1.length).sum ≤ 16777216 := by
  refine ⟨fun x hx => ?_, ?_⟩
  · have h2 := (files_len ok).2 x hx
    obtain ⟨f, hf, rfl⟩ := List.mem_map.1 hx
    exact ⟨by have := okName_size (ok.named f hf); show f.nm.size ≤ _; omega, h2⟩
  · have h := ok.tot
    unfold total at h
    unfold filesOf
    rw [List.map_map]
    exact h
end Go.Proofs.Ytflajlnknimjaaa.Dk

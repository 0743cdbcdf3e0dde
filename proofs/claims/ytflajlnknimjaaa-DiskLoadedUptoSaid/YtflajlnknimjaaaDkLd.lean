/- Load: what it makes of files, and its walk. -/
import Derived.Test.YtflajlnknimjaaaDk3
namespace Go.Proofs.Ytflajlnknimjaaa.Dk
open Go.RowKit Go.Maps Go.Proofs.YtflajlnknimjaaaW.PrintWords Go.Proofs.YtflajlnknimjaaaW.PrintMore Go.Proofs.YtflajlnknimjaaaW.PrintLast Go.Proofs.Ytflajlnknimjaaa.Syn Go.Proofs.Ytflajlnknimjaaa.PDiskLoads

def SF.fl (f : SF) : Fl := ⟨f.f0, f.f1, f.f2.toNat⟩
def loadGo : List SF → St → Int × Option St
  | [], d => (0, some d)
  | f :: r, d => if okName f.f0 = false then (7, none) else if (look Fl.nm f.f0 d.fs).isSome then (9, none) else if f.f2 < 0 ∨ (f.f1.length : Int) < f.f2 then (1, none)
    else loadGo r { d with fs := ins Fl.nm (SF.fl f) d.fs }
def load (l : List SF) : Int × Option St :=
  match loadGo l St.new with
  | (c, none) => (c, none)
  | (_, some d) => if 256 < l.length ∨ 16777216 < total d.fs then (10, none) else (0, some d)

/-- The disk that Load has made of the first k files. -/
structure Half (l : List SF) (k : Nat) (d : St) : Prop where
  srt : Srt Fl.nm d.fs
  syn : ∀ x ∈ d.fs, x.syn ≤ x.dat.length
  named : ∀ x ∈ d.fs, okName x.nm = true
  cnt : d.fs.length = k
  tot : total d.fs = ((l.take k).map fun f => f.f1.length).sum
  rest : d.last = nil_ ∧ d.armed = 0 ∧ d.down = false
  go : loadGo l St.new = loadGo (l.drop k) d
theorem Half.new (l : List SF) : Half l 0 St.new := ⟨List.Pairwise.nil, fun x hx => absurd hx (by simp [St.new]), fun x hx => absurd hx (by simp [St.new]), rfl, rfl, ⟨rfl, rfl, rfl⟩, rfl⟩
theorem Half.step {l : List SF} {k : Nat} {d : St} (h : Half l k d) (hk : k < l.length) (h1 : okName l[k].f0 = true) (h2 : look Fl.nm l[k].f0 d.fs = none) (h3 : ¬ (l[k].f2 < 0 ∨ (l[k].f1.length : Int) < l[k].f2)) :
    Half l (k + 1) { d with fs := ins Fl.nm (SF.fl l[k]) d.fs } := by
  refine ⟨h.srt.ins (fun y hy => look_none.1 h2 y hy), fun x hx => ?_, fun x hx => ?_, by rw [length_ins, h.cnt], ?_, h.rest, ?_⟩
  · rcases mem_ins.1 hx with rfl | hx
    · show l[k].f2.toNat ≤ l[k].f1.length
      omega
    · exact h.syn x hx
  · rcases mem_ins.1 hx with rfl | hx
    · exact h1
    · exact h.named x hx
  · rw [total_ins, h.tot, List.take_succ_eq_append_getElem hk, List.map_append, List.sum_append]
    simp [SF.fl]
    omega
  · rw [h.go, List.drop_eq_getElem_cons hk, loadGo, if_neg (by simp [h1]), if_neg (by simp [h2]), if_neg h3]
theorem Half.bad {l : List SF} {k : Nat} {d : St} (h : Half l k d) (hk : k < l.length) : loadGo l St.new = (if okName l[k].f0 = false then (7, none) else if (look Fl.nm l[k].f0 d.fs).isSome then (9, none) else if l[k].f2 < 0 ∨ (l[k].f1.length : Int) < l[k].f2 then (1, none)
    else loadGo (l.drop (k + 1)) { d with fs := ins Fl.nm (SF.fl l[k]) d.fs }) := by
  rw [h.go, List.drop_eq_getElem_cons hk, loadGo]
theorem Half.end {l : List SF} {k : Nat} {d : St} (h : Half l k d) (hk : ¬ k < l.length) : loadGo l St.new = (0, some d) := by
  rw [h.go, List.drop_eq_nil_of_le (by omega)]
  rfl
theorem Half.ok {l : List SF} {k : Nat} {d : St} (h : Half l k d) (h1 : k ≤ 256) (h2 : total d.fs ≤ 16777216) : d.Ok :=
  ⟨h.srt, h.syn, h2, by rw [h.cnt]; exact h1, .inl h.rest.1, h.named, by rw [h.rest.2.1]; exact Nat.zero_le _⟩
/-- A disk that need not be whole yet. -/
def RAW (p : Nat) (d : St) : Thing where
  P := fun w F => DiskAt w F p d
  stay := fun _ hs he ⟨m, L, h1, h2⟩ => ⟨m, L, h1.stay hs he, h2⟩
section
variable {B i : Nat} {w0 w : World} {D : List Thing} {t : Thing} {p : Nat} {d : St}
theorem Many.less (h : Many B w0 w (D ++ [t])) : Many B w0 w D := by
  obtain ⟨h1, h2, own, h3, h4⟩ := h
  exact ⟨h1, h2, own, h3, fun i u hu => h4 i u (by rw [List.getElem?_append_left (List.getElem?_eq_some_iff.1 hu).1]; exact hu)⟩
theorem Many.whole (h : Many B w0 w (D ++ [RAW p d])) (ok : d.Ok) : Many B w0 w (D ++ [DISK p d]) := by
  obtain ⟨F, hd, hF, _, hst⟩ := h.get (get_last D _)
  have e : Gr F w w = F := by
    funext k
    exact propext ⟨fun h => h.elim id (fun h => by omega), .inl⟩
  have := hst (w' := w) (t' := DISK p d) (Chg.refl _ _) (by rw [e]; exact ⟨hd, ok⟩)
  rwa [set_last] at this
theorem Many.raw (h : Many B w0 w (D ++ [DISK p d])) : Many B w0 w (D ++ [RAW p d]) := by
  obtain ⟨F, hd, hF, _, hst⟩ := h.get (get_last D _)
  have e : Gr F w w = F := by
    funext k
    exact propext ⟨fun h => h.elim id (fun h => by omega), .inl⟩
  have := hst (w' := w) (t' := RAW p d) (Chg.refl _ _) (by rw [e]; exact hd.1)
  rwa [set_last] at this
end
end Go.Proofs.Ytflajlnknimjaaa.Dk

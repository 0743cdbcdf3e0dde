/- Merged: Dk3, DkLd, DkLe. -/
import Derived.Test.YtflajlnknimjaaaMl8
import Derived.Deep.QuietTactic
import Derived.BigQuiet
import Derived.Test.YtflajlnknimjaaaMl9
set_option linter.unusedVariables false
set_option linter.unusedSimpArgs false
/- DiskDurable: the walk of the law. -/
namespace Go.Proofs.Ytflajlnknimjaaa.Dk
open Go.RowKit Go.Maps Go.Proofs.YtflajlnknimjaaaW.PrintWords Go.Proofs.YtflajlnknimjaaaW.PrintMore Go.Proofs.Ytflajlnknimjaaa.Syn Go.Proofs.Ytflajlnknimjaaa.PDiskLoads

attribute [local go_sem] max2_int min2_int max_two min_two
theorem same_bytes {w : World} {A A' : Option Addr} {c c' : Nat} {ys : List Int} (h1 : (Kd.int .u8).C w A ys.length ys) (h2 : ys.length ≤ c) (h3 : (Kd.int .u8).C w A' ys.length ys) (h4 : ys.length ≤ c') (hl : ys.length ≤ 1099511627776) :
    Calls Try.prog 24 #[.slice A ys.length c, .slice A' ys.length c'] w fun e w' => e = .returned (.bool true) ∧ Drawn0 w w' :=
  synodref_SameBytes.calls (ys.length + 1) A c ys A' c' ys true w h1 h2 h3 h4 (by rw [sameBytes_f _ _ _ (by omega) (by omega)]; exact congrArg some (decide_eq_true rfl))
theorem Many.at {B i : Nat} {w0 w : World} {D : List Thing} {A : Option Addr} {n c : Nat} {l : List SF} (hM : Many B w0 w D) (hi : D[i]? = some (FILES (.slice A n c) l)) {k : Nat} (hk : k < l.length) :
    ∃ ad A4 c4, A = some ad ∧ w.cell? (ad.add (k * 3)) = some (.string l[k].f0) ∧ w.cell? ⟨(ad.add (k * 3)).block, (ad.add (k * 3)).off + 1, none⟩ = some (.slice A4 l[k].f1.length c4) ∧ w.cell? ⟨(ad.add (k * 3)).block, (ad.add (k * 3)).off + 2, none⟩ = some (.int .i64 l[k].f2) ∧ l[k].f1.length ≤ c4 ∧ (Kd.int .u8).C w A4 l[k].f1.length l[k].f1 := by
  obtain ⟨A1, c1, e, _, hC⟩ := hM.files hi
  cases e
  obtain ⟨ad, A4, c4, rfl, x0, x1, x2, h1, h2⟩ := at_T36 hC (k : Int) (by omega) (by omega)
  have e : rd_T36 l (k : Int) = l[k] := rdF hk
  rw [e] at x0 x1 x2 h1 h2
  simp only [Int.toNat_natCast] at x0 x1 x2
  exact ⟨ad, A4, c4, rfl, x0, x1, x2, h1, h2⟩

end Go.Proofs.Ytflajlnknimjaaa.Dk

/- Load: what it makes of files, and its walk. -/
namespace Go.Proofs.Ytflajlnknimjaaa.Dk
open Go.RowKit Go.Maps Go.Proofs.YtflajlnknimjaaaW.PrintWords Go.Proofs.YtflajlnknimjaaaW.PrintMore Go.Proofs.YtflajlnknimjaaaW.PrintLast Go.Proofs.Ytflajlnknimjaaa.Syn Go.Proofs.Ytflajlnknimjaaa.PDiskLoads

def SF.fl (f : SF) : Fl := ⟨f.f0, f.f1, f.f2.toNat⟩
def loadGo : List SF → St → Int × Option St
  | [], d => (0, some d)
  | f :: r, d => if okName f.f0 = false then (7, none) else if (look Fl.nm f.f0 d.fs).isSome then (9, none) else if f.f2 < 0 ∨ (f.f1.length : Int) < f.f2 then (1, none)
    else loadGo r { d with fs := ins Fl.nm (SF.fl f) d.fs }
def load (l : List SF) : Int × Option St :=
  match loadGo l St.new with
  | (c, none) => (c, none)
  | (_, some d) => if 256 < l.length ∨ 16777216 < total d.fs then (10, none) else (0, some d)

/-- The disk that Load has made of the first k files. -/
structure Half (l : List SF) (k : Nat) (d : St) : Prop where
  srt : Srt Fl.nm d.fs
  syn : ∀ x ∈ d.fs, x.syn ≤ x.dat.length
  named : ∀ x ∈ d.fs, okName x.nm = true
  cnt : d.fs.length = k
  tot : total d.fs = ((l.take k).map fun f => f.f1.length).sum
  rest : d.last = nil_ ∧ d.armed = 0 ∧ d.down = false
  go : loadGo l St.new = loadGo (l.drop k) d
theorem Half.new (l : List SF) : Half l 0 St.new := ⟨List.Pairwise.nil, fun x hx => absurd hx (by simp [St.new]), fun x hx => absurd hx (by simp [St.new]), rfl, rfl, ⟨rfl, rfl, rfl⟩, rfl⟩
theorem Half.step {l : List SF} {k : Nat} {d : St} (h : Half l k d) (hk : k < l.length) (h1 : okName l[k].f0 = true) (h2 : look Fl.nm l[k].f0 d.fs = none) (h3 : ¬ (l[k].f2 < 0 ∨ (l[k].f1.length : Int) < l[k].f2)) :
    Half l (k + 1) { d with fs := ins Fl.nm (SF.fl l[k]) d.fs } := by
  refine ⟨h.srt.ins (fun y hy => look_none.1 h2 y hy), fun x hx => ?_, fun x hx => ?_, by rw [length_ins, h.cnt], ?_, h.rest, ?_⟩
  · rcases mem_ins.1 hx with rfl | hx
    · show l[k].f2.toNat ≤ l[k].f1.length
      omega
    · exact h.syn x hx
  · rcases mem_ins.1 hx with rfl | hx
    · exact h1
    · exact h.named x hx
  · rw [total_ins, h.tot, List.take_succ_eq_append_getElem hk, List.map_append, List.sum_append]
    simp [SF.fl]
    omega
  · rw [h.go, List.drop_eq_getElem_cons hk, loadGo, if_neg (by simp [h1]), if_neg (by simp [h2]), if_neg h3]
theorem Half.bad {l : List SF} {k : Nat} {d : St} (h : Half l k d) (hk : k < l.length) : loadGo l St.new = (if okName l[k].f0 = false then (7, none) else if (look Fl.nm l[k].f0 d.fs).isSome then (9, none) else if l[k].f2 < 0 ∨ (l[k].f1.length : Int) < l[k].f2 then (1, none)
    else loadGo (l.drop (k + 1)) { d with fs := ins Fl.nm (SF.fl l[k]) d.fs }) := by
  rw [h.go, List.drop_eq_getElem_cons hk, loadGo]
theorem Half.end {l : List SF} {k : Nat} {d : St} (h : Half l k d) (hk : ¬ k < l.length) : loadGo l St.new = (0, some d) := by
  rw [h.go, List.drop_eq_nil_of_le (by omega)]
  rfl
theorem Half.ok {l : List SF} {k : Nat} {d : St} (h : Half l k d) (h1 : k ≤ 256) (h2 : total d.fs ≤ 16777216) : d.Ok :=
  ⟨h.srt, h.syn, h2, by rw [h.cnt]; exact h1, .inl h.rest.1, h.named, by rw [h.rest.2.1]; exact Nat.zero_le _⟩
/-- A disk that need not be whole yet. -/
def RAW (p : Nat) (d : St) : Thing where
  P := fun w F => DiskAt w F p d
  stay := fun _ hs he ⟨m, L, h1, h2⟩ => ⟨m, L, h1.stay hs he, h2⟩
section
variable {B i : Nat} {w0 w : World} {D : List Thing} {t : Thing} {p : Nat} {d : St}
theorem Many.less (h : Many B w0 w (D ++ [t])) : Many B w0 w D := by
  obtain ⟨h1, h2, own, h3, h4⟩ := h
  exact ⟨h1, h2, own, h3, fun i u hu => h4 i u (by rw [List.getElem?_append_left (List.getElem?_eq_some_iff.1 hu).1]; exact hu)⟩
theorem Many.whole (h : Many B w0 w (D ++ [RAW p d])) (ok : d.Ok) : Many B w0 w (D ++ [DISK p d]) := by
  obtain ⟨F, hd, hF, _, hst⟩ := h.get (get_last D _)
  have e : Gr F w w = F := by
    funext k
    exact propext ⟨fun h => h.elim id (fun h => by omega), .inl⟩
  have := hst (w' := w) (t' := DISK p d) (Chg.refl _ _) (by rw [e]; exact ⟨hd, ok⟩)
  rwa [set_last] at this
theorem Many.raw (h : Many B w0 w (D ++ [DISK p d])) : Many B w0 w (D ++ [RAW p d]) := by
  obtain ⟨F, hd, hF, _, hst⟩ := h.get (get_last D _)
  have e : Gr F w w = F := by
    funext k
    exact propext ⟨fun h => h.elim id (fun h => by omega), .inl⟩
  have := hst (w' := w) (t' := RAW p d) (Chg.refl _ _) (by rw [e]; exact hd.1)
  rwa [set_last] at this
end
end Go.Proofs.Ytflajlnknimjaaa.Dk

/- Load: its walk. -/
namespace Go.Proofs.Ytflajlnknimjaaa.Dk
open Go.RowKit Go.Maps Go.Proofs.YtflajlnknimjaaaW.PrintWords Go.Proofs.YtflajlnknimjaaaW.PrintMore Go.Proofs.YtflajlnknimjaaaW.PrintLast Go.Proofs.Ytflajlnknimjaaa.Syn Go.Proofs.Ytflajlnknimjaaa.PDiskLoads

theorem DRow.of_own {w : World} {base : Nat} {v : Value} {bs : List Int} (h : w.ownsRow base 5 1 v bs.length (nums .u8 bs)) : DRow w v bs := by
  obtain ⟨_, h⟩ := h
  rcases h with ⟨rfl, h0⟩ | ⟨g, cap, cur, rfl, _, hb, hc, hm, hs, ht⟩
  · exact .inl ⟨rfl, List.eq_nil_of_length_eq_zero h0⟩
  · exact .inr ⟨g, cap, cur, rfl, hb, hc, by omega, hm, by rwa [Nat.mul_one] at ht⟩
theorem fresh_drow {w : World} {base : Nat} {v : Value} {ys : List Int} (h : Fresh w base v ys) : DRow w v ys ∧ ∀ g, v.ownBlock = some g → base ≤ g := by
  have h1 := Kd.own_of_R h
  refine ⟨DRow.of_own (by simpa [encs, nums] using h1), fun g hg => Kd.R_base h g hg⟩
/-- A new file with bytes has come. -/
theorem DiskIs.added2 {F : Nat → Prop} {p m : Nat} {wA w1 w2 : World} {L : List FileC} {la : ByteArray} {ar : Nat} {dn : Bool} (h : DiskIs w1 F p m L la ar dn) (hA : ∀ k, F k → k < wA.heap.size) (hAle : wA.heap.size ≤ w1.heap.size) {nm : ByteArray} (hno : look FileC.nm nm L = none)
    {v : Value} {bs : List Int} {syn : Nat} (hdr : DRow w1 v bs) (hvb : ∀ g, v.ownBlock = some g → wA.heap.size ≤ g)
    (hm : MapAt w2 m (ins FileC.nm ⟨nm, w1.heap.size, v, bs, syn⟩ (era FileC.nm nm L))) (ht : (w1.alloc (.cells #[v, .int .i64 syn] 68)).mapTurned w2 m) :
    DiskIs w2 (Gr F wA w2) p m (ins FileC.nm ⟨nm, w1.heap.size, v, bs, syn⟩ L) la ar dn := by
  obtain ⟨hs, hk⟩ := turned_heap ht
  rw [era_none (look_none.1 hno)] at hm
  have hsz : w2.heap.size = w1.heap.size + 1 := by rw [hs]; simp
  have hmlt : m < w1.heap.size := h.lt m h.fm
  have hmA : m < wA.heap.size := hA m h.fm
  have e : ∀ k, k < w1.heap.size → k ≠ m → w2.heap[k]? = w1.heap[k]? := fun k h1 h2 => (hk k h2).trans (Below.heap_alloc w1 _ k h1)
  have hF : ∀ k, F k → Gr F wA w2 k := fun _ h => .inl h
  have hvlt : ∀ g, v.ownBlock = some g → g < w1.heap.size := fun g hg => by
    obtain ⟨cur, hcur⟩ := hdr.blk hg
    exact blk_lt hcur
  refine ⟨(e p (h.lt p h.fp) (fun e => h.map.ne h.blk e.symm)).trans h.blk, hF _ h.fp, hF _ h.fm, hm, fun c hc => ?_, ?_, Gr.lt hA (by omega)⟩
  · rcases mem_ins.1 hc with rfl | hc
    · refine ⟨?_, .inr ⟨hAle, by show w1.heap.size < _; omega⟩, hdr.heap (fun g hg => e g (hvlt g hg) (by have := hvb g hg; omega)), fun g hg => .inr ⟨hvb g hg, by have := hvlt g hg; omega⟩⟩
      show w2.heap[w1.heap.size]? = _
      rw [hk _ (by omega)]
      exact sb_new w1 _
    · have hf := h.files c hc
      refine hf.heap (fun k hk' => e k ?_ ?_) hF
      · rcases hk' with rfl | hk'
        · exact h.lt _ hf.2.1
        · exact h.lt _ (hf.2.2.2 k hk')
      · rcases hk' with rfl | hk'
        · exact fun e => h.map.ne hf.1 e.symm
        · obtain ⟨cur, hcur⟩ := hf.2.2.1.blk hk'
          exact fun e => h.map.ne hcur e.symm
  · have hnew : ∀ c ∈ L, Sep ⟨nm, w1.heap.size, v, bs, syn⟩ c := fun c hc => ⟨by have := h.lt _ (h.files c hc).2.1; show w1.heap.size ≠ c.blk; omega, fun g hg hg' => by
      have h1 := hvb g hg
      have h2 := hA g ((h.files c hc).2.2.2 g hg')
      omega⟩
    have hsep := h.sep
    clear hm e hF h hmlt hno ht hk
    induction L with
    | nil => simp [ins]
    | cons z r ih =>
      unfold ins
      have h' := List.pairwise_cons.1 hsep
      split
      · exact List.pairwise_cons.2 ⟨hnew, hsep⟩
      · refine List.pairwise_cons.2 ⟨fun y hy => ?_, ih (fun c hc => hnew c (List.mem_cons_of_mem _ hc)) h'.2⟩
        rcases mem_ins.1 hy with rfl | hy
        · exact (hnew z List.mem_cons_self).symm
        · exact h'.1 y hy
section
variable {B i : Nat} {w0 w : World} {D : List Thing} {p : Nat} {d : St}
theorem raw_has (hM : Many B w0 w D) (hi : D[i]? = some (RAW p d)) (nm : ByteArray) (hn : nm.size ≤ 140737488351232) :
    Calls Try.prog 34 #[ptr p, .string nm] w fun e w' => e = .returned (.bool (look Fl.nm nm d.fs).isSome) ∧ w = w' := by
  obtain ⟨F, ⟨m, L, hd, hL⟩, hF, hO, hst⟩ := hM.get hi
  refine (has_calls p m w L nm _ _ _ (by unfold maxLen; omega) hd.blk hd.map).mono ?_
  rintro e w' ⟨he, rfl⟩
  refine ⟨?_, rfl⟩
  rw [he, look_abs hL nm]
  cases look FileC.nm nm L <;> rfl
theorem raw_size (hM : Many B w0 w D) (hi : D[i]? = some (RAW p d)) (hs : Srt Fl.nm d.fs) (ht : total d.fs ≤ 1099511627776) :
    Calls Try.prog 16 #[ptr p] w fun e w' => e = .returned (.int .i64 (total d.fs)) ∧ Many B w0 w' D := by
  obtain ⟨F, hd, hF, hO, hst⟩ := hM.get hi
  refine (size_calls hd hs ht).mono ?_
  rintro e w' ⟨he, h1⟩
  exact ⟨he, hM.read (h1.below (fun _ h => h.elim) (Nat.le_refl _))⟩
/-- What Load leaves. -/
def LoadPost (B : Nat) (w0 : World) (D : List Thing) (l : List SF) (e : Ending) (w' : World) : Prop :=
  match load l with
  | (r, none) => e = .returned (.tuple #[.pointer none, .int .i64 r]) ∧ Many B w0 w' D
  | (r, some d) => ∃ p, e = .returned (.tuple #[ptr p, .int .i64 r]) ∧ Many B w0 w' (D ++ [DISK p d])
theorem LoadPost.no {l : List SF} {r : Int} {w' : World} (h : load l = (r, none)) (hM : Many B w0 w' D) : LoadPost B w0 D l (.returned (.tuple #[.pointer none, .int .i64 r])) w' := by
  unfold LoadPost
  rw [h]
  exact ⟨rfl, hM⟩
theorem LoadPost.yes {l : List SF} {w' : World} (h : load l = (0, some d)) (hM : Many B w0 w' (D ++ [DISK p d])) : LoadPost B w0 D l (.returned (.tuple #[ptr p, .int .i64 0])) w' := by
  unfold LoadPost
  rw [h]
  exact ⟨p, rfl, hM⟩
theorem Half.no1 {l : List SF} {k : Nat} (h : Half l k d) (hk : k < l.length) (h1 : okName l[k].f0 = false) : load l = (7, none) := by
  unfold load
  rw [h.bad hk, if_pos h1]
theorem Half.no2 {l : List SF} {k : Nat} (h : Half l k d) (hk : k < l.length) (h1 : okName l[k].f0 = true) (h2 : (look Fl.nm l[k].f0 d.fs).isSome = true) : load l = (9, none) := by
  unfold load
  rw [h.bad hk, if_neg (by simp [h1]), if_pos h2]
theorem Half.no3 {l : List SF} {k : Nat} (h : Half l k d) (hk : k < l.length) (h1 : okName l[k].f0 = true) (h2 : (look Fl.nm l[k].f0 d.fs).isSome = false) (h3 : l[k].f2 < 0 ∨ (l[k].f1.length : Int) < l[k].f2) : load l = (1, none) := by
  unfold load
  rw [h.bad hk, if_neg (by simp [h1]), if_neg (by simp [h2]), if_pos h3]
theorem Half.no4 {l : List SF} (h : Half l l.length d) (h1 : 256 < l.length ∨ 16777216 < total d.fs) : load l = (10, none) := by
  unfold load
  rw [h.end (by omega)]
  simp only
  rw [if_pos h1]
theorem Half.yes {l : List SF} (h : Half l l.length d) (h1 : ¬ (256 < l.length ∨ 16777216 < total d.fs)) : load l = (0, some d) := by
  unfold load
  rw [h.end (by omega)]
  simp only
  rw [if_neg h1]
end
/-- What a file's parts may be. -/
structure FileFits (x : SF) : Prop where
  name : x.f0.size ≤ 140737488351232
  dat : x.f1.length ≤ 1099511627776
theorem sum_take (l : List Nat) : ∀ k, (l.take k).sum ≤ l.sum := by
  induction l with
  | nil => intro k; simp
  | cons x r ih =>
    intro k
    cases k with
    | zero => simp
    | succ k =>
      have := ih k
      simp
      omega
end Go.Proofs.Ytflajlnknimjaaa.Dk

/- Load: its walk. -/
import Derived.Test.YtflajlnknimjaaaDkLd
import Derived.Deep.QuietTactic
import Derived.BigQuiet
namespace Go.Proofs.Ytflajlnknimjaaa.Dk
open Go.RowKit Go.Maps Go.Proofs.YtflajlnknimjaaaW.PrintWords Go.Proofs.YtflajlnknimjaaaW.PrintMore Go.Proofs.YtflajlnknimjaaaW.PrintLast Go.Proofs.Ytflajlnknimjaaa.Syn Go.Proofs.Ytflajlnknimjaaa.PDiskLoads

theorem DRow.of_own {w : World} {base : Nat} {v : Value} {bs : List Int} (h : w.ownsRow base 5 1 v bs.length (nums .u8 bs)) : DRow w v bs := by
  obtain ⟨_, h⟩ := h
  rcases h with ⟨rfl, h0⟩ | ⟨g, cap, cur, rfl, _, hb, hc, hm, hs, ht⟩
  · exact .inl ⟨rfl, List.eq_nil_of_length_eq_zero h0⟩
  · exact .inr ⟨g, cap, cur, rfl, hb, hc, by omega, hm, by rwa [Nat.mul_one] at ht⟩
theorem fresh_drow {w : World} {base : Nat} {v : Value} {ys : List Int} (h : Fresh w base v ys) : DRow w v ys ∧ ∀ g, v.ownBlock = some g → base ≤ g := by
  have h1 := Kd.own_of_R h
  refine ⟨DRow.of_own (by simpa [encs, nums] using h1), fun g hg => Kd.R_base h g hg⟩
/-- A new file with bytes has come. -/
theorem DiskIs.added2 {F : Nat → Prop} {p m : Nat} {wA w1 w2 : World} {L : List FileC} {la : ByteArray} {ar : Nat} {dn : Bool} (h : DiskIs w1 F p m L la ar dn) (hA : ∀ k, F k → k < wA.heap.size) (hAle : wA.heap.size ≤ w1.heap.size) {nm : ByteArray} (hno : look FileC.nm nm L = none)
    {v : Value} {bs : List Int} {syn : Nat} (hdr : DRow w1 v bs) (hvb : ∀ g, v.ownBlock = some g → wA.heap.size ≤ g)
    (hm : MapAt w2 m (ins FileC.nm ⟨nm, w1.heap.size, v, bs, syn⟩ (era FileC.nm nm L))) (ht : (w1.alloc (.cells #[v, .int .i64 syn] 68)).mapTurned w2 m) :
    DiskIs w2 (Gr F wA w2) p m (ins FileC.nm ⟨nm, w1.heap.size, v, bs, syn⟩ L) la ar dn := by
  obtain ⟨hs, hk⟩ := turned_heap ht
  rw [era_none (look_none.1 hno)] at hm
  have hsz : w2.heap.size = w1.heap.size + 1 := by rw [hs]; simp
  have hmlt : m < w1.heap.size := h.lt m h.fm
  have hmA : m < wA.heap.size := hA m h.fm
  have e : ∀ k, k < w1.heap.size → k ≠ m → w2.heap[k]? = w1.heap[k]? := fun k h1 h2 => (hk k h2).trans (Below.heap_alloc w1 _ k h1)
  have hF : ∀ k, F k → Gr F wA w2 k := fun _ h => .inl h
  have hvlt : ∀ g, v.ownBlock = some g → g < w1.heap.size := fun g hg => by
    obtain ⟨cur, hcur⟩ := hdr.blk hg
    exact blk_lt hcur
  refine ⟨(e p (h.lt p h.fp) (fun e => h.map.ne h.blk e.symm)).trans h.blk, hF _ h.fp, hF _ h.fm, hm, fun c hc => ?_, ?_, Gr.lt hA (by omega)⟩
  · rcases mem_ins.1 hc with rfl | hc
    · refine ⟨?_, .inr ⟨hAle, by show w1.heap.size < _; omega⟩, hdr.heap (fun g hg => e g (hvlt g hg) (by have := hvb g hg; omega)), fun g hg => .inr ⟨hvb g hg, by have := hvlt g hg; omega⟩⟩
      show w2.heap[w1.heap.size]? = _
      rw [hk _ (by omega)]
      exact sb_new w1 _
    · have hf := h.files c hc
      refine hf.heap (fun k hk' => e k ?_ ?_) hF
      · rcases hk' with rfl | hk'
        · exact h.lt _ hf.2.1
        · exact h.lt _ (hf.2.2.2 k hk')
      · rcases hk' with rfl | hk'
        · exact fun e => h.map.ne hf.1 e.symm
        · obtain ⟨cur, hcur⟩ := hf.2.2.1.blk hk'
          exact fun e => h.map.ne hcur e.symm
  · have hnew : ∀ c ∈ L, Sep ⟨nm, w1.heap.size, v, bs, syn⟩ c := fun c hc => ⟨by have := h.lt _ (h.files c hc).2.1; show w1.heap.size ≠ c.blk; omega, fun g hg hg' => by
      have h1 := hvb g hg
      have h2 := hA g ((h.files c hc).2.2.2 g hg')
      omega⟩
    have hsep := h.sep
    clear hm e hF h hmlt hno ht hk
    induction L with
    | nil => simp [ins]
    | cons z r ih =>
      unfold ins
      have h' := List.pairwise_cons.1 hsep
      split
      · exact List.pairwise_cons.2 ⟨hnew, hsep⟩
      · refine List.pairwise_cons.2 ⟨fun y hy => ?_, ih (fun c hc => hnew c (List.mem_cons_of_mem _ hc)) h'.2⟩
        rcases mem_ins.1 hy with rfl | hy
        · exact (hnew z List.mem_cons_self).symm
        · exact h'.1 y hy
section
variable {B i : Nat} {w0 w : World} {D : List Thing} {p : Nat} {d : St}
theorem raw_has (hM : Many B w0 w D) (hi : D[i]? = some (RAW p d)) (nm : ByteArray) (hn : nm.size ≤ 140737488351232) :
    Calls Try.prog 34 #[ptr p, .string nm] w fun e w' => e = .returned (.bool (look Fl.nm nm d.fs).isSome) ∧ w = w' := by
  obtain ⟨F, ⟨m, L, hd, hL⟩, hF, hO, hst⟩ := hM.get hi
  refine (has_calls p m w L nm _ _ _ (by unfold maxLen; omega) hd.blk hd.map).mono ?_
  rintro e w' ⟨he, rfl⟩
  refine ⟨?_, rfl⟩
  rw [he, look_abs hL nm]
  cases look FileC.nm nm L <;> rfl
theorem raw_size (hM : Many B w0 w D) (hi : D[i]? = some (RAW p d)) (hs : Srt Fl.nm d.fs) (ht : total d.fs ≤ 1099511627776) :
    Calls Try.prog 16 #[ptr p] w fun e w' => e = .returned (.int .i64 (total d.fs)) ∧ Many B w0 w' D := by
  obtain ⟨F, hd, hF, hO, hst⟩ := hM.get hi
  refine (size_calls hd hs ht).mono ?_
  rintro e w' ⟨he, h1⟩
  exact ⟨he, hM.read (h1.below (fun _ h => h.elim) (Nat.le_refl _))⟩
/-- What Load leaves. -/
def LoadPost (B : Nat) (w0 : World) (D : List Thing) (l : List SF) (e : Ending) (w' : World) : Prop :=
  match load l with
  | (r, none) => e = .returned (.tuple #[.pointer none, .int .i64 r]) ∧ Many B w0 w' D
  | (r, some d) => ∃ p, e = .returned (.tuple #[ptr p, .int .i64 r]) ∧ Many B w0 w' (D ++ [DISK p d])
theorem LoadPost.no {l : List SF} {r : Int} {w' : World} (h : load l = (r, none)) (hM : Many B w0 w' D) : LoadPost B w0 D l (.returned (.tuple #[.pointer none, .int .i64 r])) w' := by
  unfold LoadPost
  rw [h]
  exact ⟨rfl, hM⟩
theorem LoadPost.yes {l : List SF} {w' : World} (h : load l = (0, some d)) (hM : Many B w0 w' (D ++ [DISK p d])) : LoadPost B w0 D l (.returned (.tuple #[ptr p, .int .i64 0])) w' := by
  unfold LoadPost
  rw [h]
  exact ⟨p, rfl, hM⟩
theorem Half.no1 {l : List SF} {k : Nat} (h : Half l k d) (hk : k < l.length) (h1 : okName l[k].f0 = false) : load l = (7, none) := by
  unfold load
  rw [h.bad hk, if_pos h1]
theorem Half.no2 {l : List SF} {k : Nat} (h : Half l k d) (hk : k < l.length) (h1 : okName l[k].f0 = true) (h2 : (look Fl.nm l[k].f0 d.fs).isSome = true) : load l = (9, none) := by
  unfold load
  rw [h.bad hk, if_neg (by simp [h1]), if_pos h2]
theorem Half.no3 {l : List SF} {k : Nat} (h : Half l k d) (hk : k < l.length) (h1 : okName l[k].f0 = true) (h2 : (look Fl.nm l[k].f0 d.fs).isSome = false) (h3 : l[k].f2 < 0 ∨ (l[k].f1.length : Int) < l[k].f2) : load l = (1, none) := by
  unfold load
  rw [h.bad hk, if_neg (by simp [h1]), if_neg (by simp [h2]), if_pos h3]
theorem Half.no4 {l : List SF} (h : Half l l.length d) (h1 : 256 < l.length ∨ 16777216 < total d.fs) : load l = (10, none) := by
  unfold load
  rw [h.end (by omega)]
  simp only
  rw [if_pos h1]
theorem Half.yes {l : List SF} (h : Half l l.length d) (h1 : ¬ (256 < l.length ∨ 16777216 < total d.fs)) : load l = (0, some d) := by
  unfold load
  rw [h.end (by omega)]
  simp only
  rw [if_neg h1]
end
/-- What a file's parts may be. -/
structure FileFits (x : SF) : Prop where
  name : x.f0.size ≤ 140737488351232
  dat : x.f1.length ≤ 1099511627776
theorem sum_take (l : List Nat) : ∀ k, (l.take k).sum ≤ l.sum := by
  induction l with
  | nil => intro k; simp
  | cons x r ih =>
    intro k
    cases k with
    | zero => simp
    | succ k =>
      have := ih k
      simp
      omega
end Go.Proofs.Ytflajlnknimjaaa.Dk

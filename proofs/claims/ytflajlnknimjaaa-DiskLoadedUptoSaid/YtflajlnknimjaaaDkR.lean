/- The disk's memory: which blocks it has and what they hold (DiskAt). No function is walked here. -/
import Derived.Test.YtflajlnknimjaaaDkP
import Derived.Test.YtflajlnknimjaaaPDiskLoadsx0
import Derived.Maps.OwnSet
import Derived.Maps.RangeWalk
namespace Go.Proofs.Ytflajlnknimjaaa.Dk
open Go.RowKit Go.Maps Go.Proofs.YtflajlnknimjaaaW.PrintWords Go.Proofs.Ytflajlnknimjaaa.Syn

/-- A file as it lies: its block, its bytes' slice. -/
structure FileC where
  nm : ByteArray
  blk : Nat
  dat : Value
  bs : List Int
  syn : Nat
def FileC.abs (c : FileC) : Fl := ⟨c.nm, c.bs, c.syn⟩

/-- A row of bytes of one's own, whatever room is behind its capacity. -/
def DRow (w : World) (v : Value) (bs : List Int) : Prop :=
  (v = .slice none 0 0 ∧ bs = []) ∨ ∃ g cap cur, v = .slice (some ⟨g, 0, none⟩) bs.length cap ∧ w.heap[g]? = some (.cells cur 5 (0, 0)) ∧ bs.length ≤ cap ∧ cap ≤ cur.size ∧ cap ≤ maxLen ∧ cur.toList.take bs.length = nums .u8 bs

def RP (v : Value) : Option (DataW Unit × List MemPlace) :=
  match v with
  | .pointer (some ⟨b, 0, none⟩) => some (.lit (.int .i64 b), [])
  | .pointer none => some (.nil, [])
  | _ => none
theorem RP_ptr (b : Nat) : RP (.pointer (some ⟨b, 0, none⟩)) = some (.lit (.int .i64 b), []) := rfl
theorem RP_nil : RP (.pointer none) = some (.nil, []) := rfl
theorem RP_inv {v : Value} {ps : List MemPlace} (h : RP v = some (.nil, ps)) : v = .pointer none := by
  unfold RP at h
  split at h
  · simp at h
  · rfl
  · cases h
theorem RP_inv2 {v : Value} {b : Nat} {ps : List MemPlace} (h : RP v = some (.lit (.int .i64 b), ps)) : v = .pointer (some ⟨b, 0, none⟩) := by
  unfold RP at h
  split at h
  · rename_i c
    simp only [Option.some.injEq, Prod.mk.injEq, DataW.lit.injEq, Lit.int.injEq, true_and] at h
    obtain ⟨h, _⟩ := h
    have : c = b := by omega
    rw [this]
  · simp at h
  · cases h

def entry (c : FileC) : Lit × DataW Unit := (.string (bts c.nm), .lit (.int .i64 c.blk))
def mapD (L : List FileC) : DataW Unit := .map (L.map entry)

theorem sameKey_str (a b : ByteArray) : (Lit.string (bts a)).sameKey (.string (bts b)) = decide (a = b) := by
  show (bts a == bts b) = _
  by_cases h : a = b
  · subst h; simp
  · rw [decide_eq_false h]; exact beq_false_of_ne fun e => h (data_inj e)
theorem atKey_mapD (L : List FileC) (nm : ByteArray) : (mapD L).atKey (.string (bts nm)) .nil = match look FileC.nm nm L with | some c => .lit (.int .i64 c.blk) | none => .nil := by
  unfold mapD DataW.atKey look
  simp only
  induction L with
  | nil => rfl
  | cons z r ih =>
    simp only [List.map_cons, List.find?_cons, entry, sameKey_str] at ih ⊢
    by_cases h : z.nm = nm
    · simp [h]
    · simp [h] at ih ⊢; exact ih
theorem put_mapD (L : List FileC) (c : FileC) : (mapD L).put (.string (bts c.nm)) (.lit (.int .i64 c.blk)) = mapD (ins FileC.nm c (era FileC.nm c.nm L)) := by
  unfold mapD DataW.put
  simp only [DataW.map.injEq]
  have h1 : (L.map entry).filter (fun p => !p.1.sameKey (.string (bts c.nm))) = (era FileC.nm c.nm L).map entry := by
    induction L with
    | nil => rfl
    | cons z r ih =>
      simp only [List.map_cons, List.filter_cons, era, entry, sameKey_str] at ih ⊢
      by_cases h : z.nm = c.nm <;> simp [h] at ih ⊢ <;> first | exact ih | exact ⟨rfl, ih⟩
  rw [h1]
  generalize era FileC.nm c.nm L = M
  induction M with
  | nil => rfl
  | cons z r ih =>
    simp only [ins, List.map_cons, DataW.insert]
    show (if bytesBefore (bts c.nm) (bts z.nm) then _ else _) = _
    split
    · rfl
    · rw [ih]; rfl
theorem del_mapD (L : List FileC) (nm : ByteArray) : (mapD L).del (.string (bts nm)) = mapD (era FileC.nm nm L) := by
  unfold mapD DataW.del
  simp only [DataW.map.injEq]
  induction L with
  | nil => rfl
  | cons z r ih =>
    simp only [List.map_cons, List.filter_cons, era, entry, sameKey_str] at ih ⊢
    by_cases h : z.nm = nm <;> simp [h] at ih ⊢ <;> first | exact ih | exact ⟨rfl, ih⟩
theorem size_mapD (L : List FileC) : Maps.size (mapD L) = L.length := by simp [mapD, Maps.size]

/-- The map's block. -/
def MapAt (w : World) (m : Nat) (L : List FileC) : Prop := w.ownsMap Try.prog 9 RP m L.length (mapD L)
theorem MapAt.of {w : World} {m n : Nat} {L : List FileC} (h : w.ownsMap Try.prog 9 RP m n (mapD L)) : MapAt w m L := by
  obtain ⟨es, clock, h1, h2, h3, h4⟩ := h
  refine ⟨es, clock, h1, h2, ?_, h4⟩
  have e := congrArg Maps.size h4
  rw [size_mapD] at e
  simp [Maps.size, length_sorted] at e
  omega
theorem MapAt.heap {w w' : World} {m : Nat} {L : List FileC} (h : MapAt w m L) (he : w'.heap[m]? = w.heap[m]?) : MapAt w' m L := by
  obtain ⟨es, clock, h1, h2⟩ := h
  exact ⟨es, clock, he.trans h1, h2⟩

def FileAt (w : World) (F : Nat → Prop) (c : FileC) : Prop :=
  w.heap[c.blk]? = some (.cells #[c.dat, .int .i64 c.syn] 68 (0, 0)) ∧ F c.blk ∧ DRow w c.dat c.bs ∧ ∀ g, c.dat.ownBlock = some g → F g
def Sep (a b : FileC) : Prop := a.blk ≠ b.blk ∧ ∀ g, a.dat.ownBlock = some g → b.dat.ownBlock ≠ some g
theorem Sep.symm {a b : FileC} (h : Sep a b) : Sep b a := ⟨fun e => h.1 e.symm, fun g hg hg' => h.2 g hg' hg⟩

/-- THE DISK: its struct in block p, its map in block m, its files. -/
structure DiskIs (w : World) (F : Nat → Prop) (p m : Nat) (L : List FileC) (last : ByteArray) (armed : Nat) (down : Bool) : Prop where
  blk : w.heap[p]? = some (.cells #[.map (some m), .string last, .int .i64 armed, .bool down] 64 (0, 0))
  fp : F p
  fm : F m
  map : MapAt w m L
  files : ∀ c ∈ L, FileAt w F c
  sep : L.Pairwise Sep
  lt : ∀ k, F k → k < w.heap.size
def DiskAt (w : World) (F : Nat → Prop) (p : Nat) (d : St) : Prop := ∃ m L, DiskIs w F p m L d.last d.armed d.down ∧ L.map FileC.abs = d.fs

section
variable {w w' : World} {F G : Nat → Prop} {p m : Nat} {L : List FileC} {la : ByteArray} {ar : Nat} {dn : Bool} {v : Value} {bs : List Int}
theorem DRow.heap (h : DRow w v bs) (he : ∀ g, v.ownBlock = some g → w'.heap[g]? = w.heap[g]?) : DRow w' v bs := by
  rcases h with h | ⟨g, cap, cur, rfl, h1, h2⟩
  · exact .inl h
  · exact .inr ⟨g, cap, cur, rfl, (he g rfl).trans h1, h2⟩
theorem DRow.blk (h : DRow w v bs) {g : Nat} (hg : v.ownBlock = some g) : ∃ cur, w.heap[g]? = some (.cells cur 5 (0, 0)) := by
  rcases h with ⟨rfl, _⟩ | ⟨g', cap, cur, rfl, h1, h2⟩
  · simp [Value.ownBlock] at hg
  · have : g' = g := by simpa [Value.ownBlock] using hg
    subst this
    exact ⟨cur, h1⟩
theorem FileAt.heap {c : FileC} (h : FileAt w F c) (he : ∀ k, k = c.blk ∨ c.dat.ownBlock = some k → w'.heap[k]? = w.heap[k]?) (hF : ∀ k, F k → G k) : FileAt w' G c :=
  ⟨(he _ (.inl rfl)).trans h.1, hF _ h.2.1, h.2.2.1.heap (fun g hg => he g (.inr hg)), fun g hg => hF g (h.2.2.2 g hg)⟩
/-- Other blocks have changed. -/
theorem DiskIs.chg (h : DiskIs w F p m L la ar dn) (hc : Chg G w w') (hd : ∀ k, F k → ¬ G k) : DiskIs w' F p m L la ar dn := by
  have e : ∀ k, F k → w'.heap[k]? = w.heap[k]? := fun k hk => hc.block k (h.lt k hk) (hd k hk)
  exact ⟨(e p h.fp).trans h.blk, h.fp, h.fm, h.map.heap (e m h.fm), fun c hc' => (h.files c hc').heap (fun k hk => e k (by
    rcases hk with rfl | hk
    · exact (h.files c hc').2.1
    · exact (h.files c hc').2.2.2 k hk)) (fun _ h => h), h.sep, fun k hk => Nat.lt_of_lt_of_le (h.lt k hk) hc.size⟩
theorem DiskAt.chg {d : St} (h : DiskAt w F p d) (hc : Chg G w w') (hd : ∀ k, F k → ¬ G k) : DiskAt w' F p d := by
  obtain ⟨m, L, h1, h2⟩ := h
  exact ⟨m, L, h1.chg hc hd, h2⟩
theorem DiskAt.lt {d : St} (h : DiskAt w F p d) : ∀ k, F k → k < w.heap.size := by
  obtain ⟨m, L, h1, h2⟩ := h
  exact h1.lt
theorem DiskIs.wide (h : DiskIs w F p m L la ar dn) (hF : ∀ k, F k → G k) (hG : ∀ k, G k → k < w.heap.size) : DiskIs w G p m L la ar dn :=
  ⟨h.blk, hF _ h.fp, hF _ h.fm, h.map, fun c hc => (h.files c hc).heap (fun _ _ => rfl) hF, h.sep, hG⟩
theorem Gr.lt (hF : ∀ k, F k → k < w.heap.size) (hc : w.heap.size ≤ w'.heap.size) : ∀ k, Gr F w w' k → k < w'.heap.size := fun k hk => hk.elim (fun h => Nat.lt_of_lt_of_le (hF k h) hc) (fun h => h.2)
/-- Two blocks of different makes. -/
theorem ne_of_type {a b t u : Nat} {ca cb : Array Value} {fa fb : Nat × Nat} (ha : w.heap[a]? = some (.cells ca t fa)) (hb : w.heap[b]? = some (.cells cb u fb)) (h : t ≠ u) : a ≠ b := by
  rintro rfl
  rw [ha] at hb
  injection hb with hb
  injection hb with _ hb
  exact h hb
theorem MapAt.ne (h : MapAt w m L) {a t : Nat} {ca : Array Value} {fa : Nat × Nat} (ha : w.heap[a]? = some (.cells ca t fa)) : m ≠ a := by
  rintro rfl
  obtain ⟨es, clock, h1, _⟩ := h
  rw [h1] at ha
  cases ha
end
end Go.Proofs.Ytflajlnknimjaaa.Dk

/- The plain disk: lists of files by rising names, and what each operation does to them. No Go, no memory. -/
import Derived.Test.YtflajlnknimjaaaSynA
import Derived.WideShapes
import Derived.WideAt
import Derived.MapViews
namespace Go.Proofs.Ytflajlnknimjaaa.Dk
open Go.WideAt Go.WideShapes

/-! strings by their bytes -/
theorem bloop_eq (s : ByteArray) : ∀ (d i : Nat) (r : List UInt8), s.size - i = d → ByteArray.toList.loop s i r = r.reverse ++ s.data.toList.drop i := by
  intro d
  induction d with
  | zero =>
    intro i r h
    unfold ByteArray.toList.loop
    rw [if_neg (by omega), List.drop_eq_nil_of_le (by show s.data.toList.length ≤ i; have : s.data.toList.length = s.size := rfl; omega)]
    simp
  | succ d ih =>
    intro i r h
    unfold ByteArray.toList.loop
    have hi : i < s.data.toList.length := by have : s.data.toList.length = s.size := rfl; omega
    rw [if_pos (by omega), ih (i + 1) _ (by omega), List.drop_eq_getElem_cons hi]
    rw [List.reverse_cons, List.append_assoc, List.singleton_append]
    congr 2
    show s.data[i]! = _
    rw [getElem!_pos s.data i hi, Array.getElem_toList]
theorem tl_eq (s : ByteArray) : s.toList = s.data.toList := by
  unfold ByteArray.toList
  rw [bloop_eq s s.size 0 [] (by omega)]
  simp
theorem data_inj {a b : ByteArray} (h : a.data.toList = b.data.toList) : a = b := by
  cases a; cases b; simp only [ByteArray.mk.injEq]; exact Array.toList_inj.mp h
theorem tl_inj {a b : ByteArray} (h : a.toList = b.toList) : a = b := data_inj (by rwa [tl_eq, tl_eq] at h)
theorem tl_beq (a b : ByteArray) : (a.toList == b.toList) = decide (a = b) := by
  by_cases h : a = b
  · subst h; simp
  · rw [decide_eq_false h]
    exact beq_false_of_ne fun e => h (tl_inj e)

/-! lists by a key -/
section
variable {α : Type} (key : α → ByteArray)
abbrev bts (s : ByteArray) : List UInt8 := s.data.toList
def ins (x : α) : List α → List α
  | [] => [x]
  | y :: r => if bytesBefore (bts (key x)) (bts (key y)) then x :: y :: r else y :: ins x r
def era (nm : ByteArray) (l : List α) : List α := l.filter fun y => decide (key y ≠ nm)
def look (nm : ByteArray) (l : List α) : Option α := l.find? fun y => decide (key y = nm)
def Srt (l : List α) : Prop := l.Pairwise fun a b => bytesBefore (bts (key a)) (bts (key b)) = true
variable {key}
theorem before_ne {a b : ByteArray} (h : bytesBefore (bts a) (bts b) = true) : a ≠ b := by
  rintro rfl
  rw [bytes_irrefl] at h
  cases h
theorem before_asymm {a b : ByteArray} (h : bytesBefore (bts a) (bts b) = true) : bytesBefore (bts b) (bts a) = false := by
  cases hb : bytesBefore (bts b) (bts a)
  · rfl
  · exact absurd rfl (before_ne (bytes_trans _ _ _ h hb))
theorem before_of_not {a b : ByteArray} (hne : a ≠ b) (h : bytesBefore (bts a) (bts b) = false) : bytesBefore (bts b) (bts a) = true := by
  rcases bytes_total (bts a) (bts b) (fun e => hne (data_inj e)) with h' | h'
  · rw [h] at h'; cases h'
  · exact h'
theorem mem_ins {x y : α} {l : List α} : y ∈ ins key x l ↔ y = x ∨ y ∈ l := by
  induction l with
  | nil => simp [ins]
  | cons z r ih =>
    unfold ins
    split
    · simp
    · simp only [List.mem_cons, ih]; constructor <;> (intro h; rcases h with h | h | h <;> simp [h])
theorem Srt.ins {x : α} {l : List α} (h : Srt key l) (hx : ∀ y ∈ l, key y ≠ key x) : Srt key (Dk.ins key x l) := by
  induction l with
  | nil => simp [Dk.ins, Srt]
  | cons z r ih =>
    unfold Dk.ins
    have h' := List.pairwise_cons.1 h
    split
    · rename_i hb
      exact List.pairwise_cons.2 ⟨fun y hy => by
        rcases List.mem_cons.1 hy with rfl | hy
        · exact hb
        · exact bytes_trans _ _ _ hb (h'.1 y hy), h⟩
    · rename_i hb
      refine List.pairwise_cons.2 ⟨fun y hy => ?_, ih h'.2 (fun y hy => hx y (List.mem_cons_of_mem _ hy))⟩
      rcases mem_ins.1 hy with rfl | hy
      · exact before_of_not (fun e => hx z List.mem_cons_self e.symm) (by simpa using hb)
      · exact h'.1 y hy
theorem Srt.era {l : List α} (h : Srt key l) (nm : ByteArray) : Srt key (Dk.era key nm l) := List.Pairwise.filter _ h
theorem mem_era {y : α} {nm : ByteArray} {l : List α} : y ∈ era key nm l ↔ y ∈ l ∧ key y ≠ nm := by simp [era]
theorem era_none {nm : ByteArray} {l : List α} (h : ∀ y ∈ l, key y ≠ nm) : era key nm l = l := by
  unfold era
  rw [List.filter_eq_self]
  intro y hy
  simpa using h y hy
theorem look_some {nm : ByteArray} {l : List α} {y : α} (h : look key nm l = some y) : y ∈ l ∧ key y = nm := ⟨List.mem_of_find?_eq_some h, by simpa using List.find?_some h⟩
theorem look_none {nm : ByteArray} {l : List α} : look key nm l = none ↔ ∀ y ∈ l, key y ≠ nm := by simp [look]
theorem Srt.inj {l : List α} (h : Srt key l) {x y : α} (hx : x ∈ l) (hy : y ∈ l) (he : key x = key y) : x = y := by
  induction l with
  | nil => cases hx
  | cons z r ih =>
    have h' := List.pairwise_cons.1 h
    rcases List.mem_cons.1 hx with hx1 | hx1 <;> rcases List.mem_cons.1 hy with hy1 | hy1
    · rw [hx1, hy1]
    · subst hx1; exact absurd he (before_ne (h'.1 y hy1))
    · subst hy1; exact absurd he.symm (before_ne (h'.1 x hx1))
    · exact ih h'.2 hx1 hy1
theorem Srt.look {l : List α} (h : Srt key l) {y : α} (hy : y ∈ l) {nm : ByteArray} (he : key y = nm) : Dk.look key nm l = some y := by
  cases hl : Dk.look key nm l with
  | none => exact absurd he (look_none.1 hl y hy)
  | some z =>
    obtain ⟨hz, hk⟩ := look_some hl
    rw [h.inj hz hy (hk.trans he.symm)]
theorem length_ins (x : α) (l : List α) : (ins key x l).length = l.length + 1 := by
  induction l with
  | nil => rfl
  | cons z r ih => unfold ins; split <;> simp [ih]
end
section
variable {α β : Type} {ka : α → ByteArray} {kb : β → ByteArray} (f : α → β) (hf : ∀ x, kb (f x) = ka x)
include hf
theorem map_ins (x : α) (l : List α) : (ins ka x l).map f = ins kb (f x) (l.map f) := by
  induction l with
  | nil => rfl
  | cons z r ih =>
    simp only [ins, List.map_cons, hf]
    split <;> simp [ih]
theorem map_era (nm : ByteArray) (l : List α) : (era ka nm l).map f = era kb nm (l.map f) := by
  induction l with
  | nil => rfl
  | cons z r ih =>
    simp only [era, List.filter_cons, List.map_cons, hf] at ih ⊢
    split
    · rw [List.map_cons, ih]
    · exact ih
theorem map_look (nm : ByteArray) (l : List α) : look kb nm (l.map f) = (look ka nm l).map f := by
  induction l with
  | nil => rfl
  | cons z r ih =>
    simp only [look, List.find?_cons, List.map_cons, hf] at ih ⊢
    split <;> simp [ih]
theorem map_srt (l : List α) : Srt kb (l.map f) ↔ Srt ka l := by simp [Srt, List.pairwise_map, hf]
end

/-! files, and a disk -/
structure Fl where
  nm : ByteArray
  dat : List Int
  syn : Nat
structure St where
  fs : List Fl
  last : ByteArray
  armed : Nat
  down : Bool
def nil_ : ByteArray := ⟨#[]⟩
def St.new : St := ⟨[], nil_, 0, false⟩
def total (l : List Fl) : Nat := (l.map fun x => x.dat.length).sum
def upd (nm : ByteArray) (g : Fl → Fl) (l : List Fl) : List Fl := l.map fun x => if x.nm = nm then g x else x
def okByte (c : UInt8) : Bool := decide (97 ≤ c.toNat ∧ c.toNat ≤ 122) || decide (48 ≤ c.toNat ∧ c.toNat ≤ 57) || decide (c.toNat = 45) || decide (c.toNat = 46)
def okName (s : ByteArray) : Bool := s.data.toList.all okByte && (decide (0 < s.size) && decide (s.size ≤ 32))
def tick (d : St) : Bool × St := if d.armed = 0 then (false, d) else (decide (d.armed = 1), { d with armed := d.armed - 1, down := decide (d.armed = 1) })
def St.create (nm : ByteArray) (d : St) : Int × St :=
  if d.down then (11, d) else if okName nm = false then (7, d) else if (look Fl.nm nm d.fs).isSome then (9, d) else if 256 ≤ d.fs.length then (10, d)
  else if (tick d).1 then (11, (tick d).2) else (0, { (tick d).2 with fs := ins Fl.nm ⟨nm, [], 0⟩ d.fs })
def St.append (nm : ByteArray) (b : List Int) (d : St) : Int × St :=
  if d.down then (11, d) else match look Fl.nm nm d.fs with
  | none => (8, d)
  | some _ => if 16777216 < b.length + total d.fs then (10, d)
    else (if (tick d).1 then 11 else 0, { (tick d).2 with fs := upd nm (fun x => { x with dat := x.dat ++ if (tick d).1 then b.take (b.length / 2) else b }) d.fs, last := nm })
def St.sync (nm : ByteArray) (d : St) : Int × St :=
  if d.down then (11, d) else match look Fl.nm nm d.fs with
  | none => (8, d)
  | some _ => if (tick d).1 then (11, (tick d).2) else (0, { (tick d).2 with fs := upd nm (fun x => { x with syn := x.dat.length }) d.fs })
def St.cut (nm : ByteArray) (n : Int) (d : St) : Int × St :=
  if d.down then (11, d) else match look Fl.nm nm d.fs with
  | none => (8, d)
  | some f => if n < 0 ∨ f.dat.length < n then (1, d) else if (tick d).1 then (11, (tick d).2)
    else (0, { (tick d).2 with fs := upd nm (fun x => { x with dat := x.dat.take n.toNat, syn := min x.syn n.toNat }) d.fs })
def St.rename (a b : ByteArray) (d : St) : Int × St :=
  if d.down then (11, d) else match look Fl.nm a d.fs with
  | none => (8, d)
  | some f => if okName b = false then (7, d) else if (tick d).1 then (11, (tick d).2) else if a = b then (0, (tick d).2)
    else (0, { (tick d).2 with fs := ins Fl.nm { f with nm := b } (era Fl.nm b (era Fl.nm a d.fs)), last := if d.last = a then b else if d.last = b then nil_ else d.last })
def St.remove (nm : ByteArray) (d : St) : Int × St :=
  if d.down then (11, d) else match look Fl.nm nm d.fs with
  | none => (8, d)
  | some _ => if (tick d).1 then (11, (tick d).2) else (0, { (tick d).2 with fs := era Fl.nm nm d.fs, last := if d.last = nm then nil_ else d.last })
def St.arm (n : Int) (d : St) : St := { d with armed := n.toNat }
def kept (last : ByteArray) (keep : Int) (x : Fl) : Nat := if x.nm = last then x.syn + min (keep.toNat) (x.dat.length - x.syn) else x.syn
def St.crash (keep : Int) (d : St) : St :=
  { fs := d.fs.map fun x => { x with dat := x.dat.take (kept d.last keep x), syn := kept d.last keep x }, last := nil_, armed := 0, down := false }

/-- What holds of every disk. -/
structure St.Ok (d : St) : Prop where
  srt : Srt Fl.nm d.fs
  syn : ∀ x ∈ d.fs, x.syn ≤ x.dat.length
  tot : total d.fs ≤ 16777216
  cnt : d.fs.length ≤ 256
  last : d.last = nil_ ∨ ∃ x ∈ d.fs, x.nm = d.last
  named : ∀ x ∈ d.fs, okName x.nm = true
  armed : d.armed ≤ 9223372036854775807
end Go.Proofs.Ytflajlnknimjaaa.Dk

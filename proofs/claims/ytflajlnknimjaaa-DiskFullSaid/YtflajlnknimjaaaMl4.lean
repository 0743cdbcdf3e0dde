/- Merged: DkN, DkQ, DkS, DkV, Dk2, DkB, RfP. -/
import Derived.Test.YtflajlnknimjaaaMl3
import Derived.Test.YtflajlnknimjaaaPDiskLoadsx8
import Derived.Test.YtflajlnknimjaaaRows
import Derived.WalkKit
import Derived.ProofKit
import Derived.OpenShut
import Derived.JoinedCond
import Derived.Deep.Slices
import Derived.Deep.Fields
import Derived.ChangeSame
import Derived.Carry
set_option linter.unusedVariables false
set_option linter.unusedSimpArgs false
/- The disk's functions, told of one thing among many. -/
namespace Go.Proofs.Ytflajlnknimjaaa.Dk
open Go.RowKit Go.Maps Go.Proofs.YtflajlnknimjaaaW.PrintWords Go.Proofs.YtflajlnknimjaaaW.PrintMore Go.Proofs.Ytflajlnknimjaaa.Syn Go.Proofs.Ytflajlnknimjaaa.PDiskLoads

abbrev ptr (p : Nat) : Value := .pointer (some ⟨p, 0, none⟩)
theorem R_new {α : Type} {k : Kd α} {e base : Nat} {w : World} {v : Value} {xs : List α} (h : k.R e w base (fun _ => True) v xs) : k.R e w 0 (fun k => base ≤ k ∧ k < w.heap.size) v xs :=
  Kd.R_lower (Kd.R_mono (Kd.R_bound h) (fun k hk => ⟨hk.2.1, hk.2.2.1⟩)) (Nat.zero_le _)
section
variable {B i : Nat} {w0 w : World} {D : List Thing} {p : Nat} {d : St}
theorem Many.post (hM : Many B w0 w D) (hi : D[i]? = some (DISK p d)) {f : Nat} {args : Array Value} {r : Int × St} (hr : r.2.Ok)
    (hc : ∀ F, DiskAt w F p d → d.Ok → (∀ k, F k → B ≤ k) → (∀ (j : Nat) (u : Thing), j ≠ i → D[j]? = some u → ∃ G : Nat → Prop, u.P w G ∧ ∀ k, G k → k < w.heap.size ∧ ¬ F k) → Calls Try.prog f args w (Post F p w r)) : Calls Try.prog f args w fun e w' => e = .returned (.int .i64 r.1) ∧ Many B w0 w' (D.set i (DISK p r.2)) := by
  obtain ⟨F, ⟨hd, ok⟩, hF, hO, hst⟩ := hM.get hi
  refine (hc F hd ok (fun k hk => (hF k hk).1) hO).mono ?_
  rintro e w' ⟨he, h1, h2⟩
  exact ⟨he, hst h2 ⟨h1, hr⟩⟩
theorem Many.ok (hM : Many B w0 w D) (hi : D[i]? = some (DISK p d)) : d.Ok := by
  obtain ⟨F, ⟨hd, ok⟩, hF, hO, hst⟩ := hM.get hi
  exact ok
theorem m_create (hM : Many B w0 w D) (hi : D[i]? = some (DISK p d)) (nm : ByteArray) (hn : nm.size ≤ 140737488351232) :
    Calls Try.prog 12 #[ptr p, .string nm] w fun e w' => e = .returned (.int .i64 (d.create nm).1) ∧ Many B w0 w' (D.set i (DISK p (d.create nm).2)) :=
  hM.post hi (create_ok (hM.ok hi) nm) fun F hd ok _ _ => create_calls nm hd ok hn
theorem m_sync (hM : Many B w0 w D) (hi : D[i]? = some (DISK p d)) (nm : ByteArray) (hn : nm.size ≤ 140737488351232) :
    Calls Try.prog 32 #[ptr p, .string nm] w fun e w' => e = .returned (.int .i64 (d.sync nm).1) ∧ Many B w0 w' (D.set i (DISK p (d.sync nm).2)) :=
  hM.post hi (sync_ok (hM.ok hi) nm) fun F hd ok _ _ => sync_calls nm hd ok hn
theorem m_cut (hM : Many B w0 w D) (hi : D[i]? = some (DISK p d)) (nm : ByteArray) (n : Int) (hn : nm.size ≤ 140737488351232) :
    Calls Try.prog 44 #[ptr p, .string nm, .int .i64 n] w fun e w' => e = .returned (.int .i64 (d.cut nm n).1) ∧ Many B w0 w' (D.set i (DISK p (d.cut nm n).2)) :=
  hM.post hi (cut_ok (hM.ok hi) nm n) fun F hd ok _ _ => cut_calls nm n hd ok hn
theorem m_rename (hM : Many B w0 w D) (hi : D[i]? = some (DISK p d)) (a b : ByteArray) (ha : a.size ≤ 140737488351232) (hb : b.size ≤ 140737488351232) :
    Calls Try.prog 45 #[ptr p, .string a, .string b] w fun e w' => e = .returned (.int .i64 (d.rename a b).1) ∧ Many B w0 w' (D.set i (DISK p (d.rename a b).2)) :=
  hM.post hi (rename_ok (hM.ok hi) a b) fun F hd ok _ _ => rename_calls a b hd ok ha hb
theorem m_remove (hM : Many B w0 w D) (hi : D[i]? = some (DISK p d)) (nm : ByteArray) (hn : nm.size ≤ 140737488351232) :
    Calls Try.prog 46 #[ptr p, .string nm] w fun e w' => e = .returned (.int .i64 (d.remove nm).1) ∧ Many B w0 w' (D.set i (DISK p (d.remove nm).2)) :=
  hM.post hi (remove_ok (hM.ok hi) nm) fun F hd ok _ _ => remove_calls nm hd ok hn
theorem m_append (hM : Many B w0 w D) (hi : D[i]? = some (DISK p d)) (nm : ByteArray) (hn : nm.size ≤ 140737488351232) (A : Option Addr) (cp : Nat) (ys : List Int) (hs : ∀ F : Nat → Prop, (∀ k, F k → B ≤ k) → (∀ (j : Nat) (u : Thing), j ≠ i → D[j]? = some u → ∃ G : Nat → Prop, u.P w G ∧ ∀ k, G k → k < w.heap.size ∧ ¬ F k) → Src F w A ys) (hy : ys.length ≤ 140737488351232) (hcp : ys.length ≤ cp) :
    Calls Try.prog 14 #[ptr p, .string nm, .slice A ys.length cp] w fun e w' => e = .returned (.int .i64 (d.append nm ys).1) ∧ Many B w0 w' (D.set i (DISK p (d.append nm ys).2)) :=
  hM.post hi (append_ok (hM.ok hi) nm ys) fun F hd ok hF hO => append_calls nm A cp ys hd ok hn (hs F hF hO) hy hcp
/-- Bytes that are another thing among them. -/
theorem src_bytes {j : Nat} {A : Option Addr} {c : Nat} {ys : List Int} (hj : j ≠ i) (h : D[j]? = some (BYTES (.slice A ys.length c) ys)) (F : Nat → Prop) (hF : ∀ k, F k → B ≤ k) (hO : ∀ (j : Nat) (u : Thing), j ≠ i → D[j]? = some u → ∃ G : Nat → Prop, u.P w G ∧ ∀ k, G k → k < w.heap.size ∧ ¬ F k) : Src F w A ys := by
  obtain ⟨G, h1, h2⟩ := hO j _ hj h
  intro W hc
  have h3 : (Kd.int .u8).R 5 W 0 G (.slice A ys.length c) ys := (BYTES _ _).stay (fun k hk => (h2 k hk).1) hc.size (fun k hk => hc.block k (h2 k hk).1 (h2 k hk).2) h1
  obtain ⟨A', c', e, _, h4⟩ := Kd.R_reads h3
  injection e with e1 _ _
  rw [e1]
  exact h4
/-- Bytes that were there. -/
theorem src_old {A : Option Addr} {ys : List Int} (hM : Many B w0 w D) (hs : ∀ W, Below B w0 W → (Kd.int .u8).C W A ys.length ys) (F : Nat → Prop) (hF : ∀ k, F k → B ≤ k) : Src F w A ys := fun W' hc => hs W' ⟨hc.os.trans hM.below.os, hc.tape.trans hM.below.tape, hc.output.trans hM.below.output, Nat.le_trans hM.below.size hc.size, fun k hk => (hc.block k (Nat.lt_of_lt_of_le hk hM.size) (fun h => by have := hF k h; omega)).trans (hM.below.block k hk)⟩
theorem m_arm (hM : Many B w0 w D) (hi : D[i]? = some (DISK p d)) (n : Int) (hn : n ≤ 9223372036854775807) :
    Calls Try.prog 47 #[ptr p, .int .i64 n] w fun e w' => e = .returned (.tuple #[]) ∧ Many B w0 w' (D.set i (DISK p (d.arm n))) := by
  obtain ⟨F, ⟨hd, ok⟩, hF, hO, hst⟩ := hM.get hi
  refine (arm_calls n hd).mono ?_
  rintro e w' ⟨he, h1, h2⟩
  exact ⟨he, hst h2 ⟨h1, arm_ok ok hn⟩⟩
theorem m_crash (hM : Many B w0 w D) (hi : D[i]? = some (DISK p d)) (n : Int) :
    Calls Try.prog 22 #[ptr p, .int .i64 n] w fun e w' => e = .returned (.tuple #[]) ∧ Many B w0 w' (D.set i (DISK p (d.crash n))) := by
  obtain ⟨F, ⟨hd, ok⟩, hF, hO, hst⟩ := hM.get hi
  refine (crash_calls n hd ok).mono ?_
  rintro e w' ⟨he, h1, h2⟩
  exact ⟨he, hst h2 ⟨h1, crash_ok ok n⟩⟩
theorem m_new (hM : Many B w0 w D) : Calls Try.prog 10 #[] w fun e w' => ∃ p, e = .returned (ptr p) ∧ Many B w0 w' (D ++ [DISK p St.new]) := by
  refine (new_calls w).mono ?_
  rintro e w' ⟨p, he, h1, h2⟩
  refine ⟨p, he, hM.add (h2.below (fun _ h => h.elim) (Nat.le_refl _)) ⟨?_, new_ok⟩⟩
  have e2 : Gr (fun _ => False) w w' = fun k => w.heap.size ≤ k ∧ k < w'.heap.size := by funext k; simp [Gr]
  rw [e2] at h1
  exact h1
theorem m_files (hM : Many B w0 w D) (hi : D[i]? = some (DISK p d)) :
    Calls Try.prog 21 #[ptr p] w fun e w' => ∃ v, e = .returned v ∧ Many B w0 w' (D ++ [FILES v (filesOf d)]) := by
  obtain ⟨F, ⟨hd, ok⟩, hF, hO, hst⟩ := hM.get hi
  refine (files_calls hd ok).mono ?_
  rintro e w' ⟨v, he, h1, h2⟩
  exact ⟨v, he, hM.add h2 (R_new h1)⟩
theorem m_list (hM : Many B w0 w D) (hi : D[i]? = some (DISK p d)) :
    Calls Try.prog 18 #[ptr p] w fun e w' => ∃ v, e = .returned v ∧ Many B w0 w' (D ++ [TEXTS v (names d)]) := by
  obtain ⟨F, ⟨hd, ok⟩, hF, hO, hst⟩ := hM.get hi
  refine (list_calls hd ok).mono ?_
  rintro e w' ⟨v, he, h1, h2⟩
  exact ⟨v, he, hM.add h2 (R_new h1)⟩
theorem m_read (hM : Many B w0 w D) (hi : D[i]? = some (DISK p d)) (nm : ByteArray) (hn : nm.size ≤ 140737488351232) :
    Calls Try.prog 55 #[ptr p, .string nm] w fun e w' => ∃ v, e = .returned (.tuple #[v, .int .i64 (d.read nm).2]) ∧ Many B w0 w' (D ++ [BYTES v (d.read nm).1]) := by
  obtain ⟨F, ⟨hd, ok⟩, hF, hO, hst⟩ := hM.get hi
  refine (read_calls nm hd ok hn).mono ?_
  rintro e w' ⟨v, he, h1, h2⟩
  exact ⟨v, he, hM.add h2 (R_new h1)⟩
theorem m_size (hM : Many B w0 w D) (hi : D[i]? = some (DISK p d)) :
    Calls Try.prog 16 #[ptr p] w fun e w' => e = .returned (.int .i64 (total d.fs)) ∧ Many B w0 w' D := by
  obtain ⟨F, ⟨hd, ok⟩, hF, hO, hst⟩ := hM.get hi
  refine (size_calls hd ok.srt (by have := ok.tot; omega)).mono ?_
  rintro e w' ⟨he, h1⟩
  exact ⟨he, hM.read (h1.below (fun _ h => h.elim) (Nat.le_refl _))⟩
theorem m_down (hM : Many B w0 w D) (hi : D[i]? = some (DISK p d)) :
    Calls Try.prog 23 #[ptr p] w fun e w' => e = .returned (.bool d.down) ∧ Many B w0 w' D := by
  obtain ⟨F, ⟨⟨m, L, hd, _⟩, ok⟩, hF, hO, hst⟩ := hM.get hi
  refine (down_calls p w _ _ _ d.down hd.blk).mono ?_
  rintro e w' ⟨he, rfl⟩
  exact ⟨he, hM⟩
theorem m_has (hM : Many B w0 w D) (hi : D[i]? = some (DISK p d)) (nm : ByteArray) (hn : nm.size ≤ 140737488351232) :
    Calls Try.prog 34 #[ptr p, .string nm] w fun e w' => e = .returned (.bool (look Fl.nm nm d.fs).isSome) ∧ Many B w0 w' D := by
  obtain ⟨F, ⟨⟨m, L, hd, hL⟩, ok⟩, hF, hO, hst⟩ := hM.get hi
  refine (has_calls p m w L nm _ _ _ (by unfold maxLen; omega) hd.blk hd.map).mono ?_
  rintro e w' ⟨he, rfl⟩
  refine ⟨?_, hM⟩
  rw [he, look_abs hL nm]
  cases look FileC.nm nm L <;> rfl
end
end Go.Proofs.Ytflajlnknimjaaa.Dk

/- told, made, of the laws on a disk. -/
namespace Go.Proofs.Ytflajlnknimjaaa.Dk
open Go.RowKit Go.Maps Go.Proofs.YtflajlnknimjaaaW.PrintWords Go.Proofs.YtflajlnknimjaaaW.PrintMore Go.Proofs.Ytflajlnknimjaaa.Syn Go.Proofs.Ytflajlnknimjaaa.PDiskLoads

abbrev SO := S52
abbrev kO : Kd SO := k52
/-- What a disk told an operation answers, and is then. -/
def told (d : St) (x : SO) : Int × St :=
  if x.f0 = 0 then d.create x.f2 else if x.f0 = 1 then d.append x.f2 x.f4 else if x.f0 = 2 then d.sync x.f2 else if x.f0 = 3 then d.cut x.f2 x.f1
  else if x.f0 = 4 then d.rename x.f2 x.f3 else if x.f0 = 5 then d.remove x.f2 else if x.f0 = 6 then (0, d.arm x.f1) else if x.f0 = 7 then (0, d.crash x.f1) else (0, d)
/-- What an operation's parts may be. -/
structure OpFits (x : SO) : Prop where
  n : x.f1 ≤ 9223372036854775807
  name : x.f2.size ≤ 140737488351232
  dest : x.f3.size ≤ 140737488351232
  b : x.f4.length ≤ 140737488351232
theorem num_calls (e : Int) (w : World) : Calls Try.prog 11 #[.int .i64 e] w fun r w' => r = .returned (.int .i64 e) ∧ w' = w := by
  go_enter Try.func11, Try.ntmps11
  go_wp2
  go_ret
  exact ⟨rfl, rfl⟩

section
variable {B i : Nat} {w0 w : World} {D : List Thing} {p : Nat} {d : St}
/-- A disk behind operations. -/
def made (l : List SO) : St := l.foldl (fun d x => (told d x).2) St.new
theorem made_snoc (l : List SO) (x : SO) : made (l ++ [x]) = (told (made l) x).2 := by simp [made]
theorem set_last (D : List Thing) (t u : Thing) : (D ++ [t]).set D.length u = D ++ [u] := by simp
theorem get_last (D : List Thing) (t : Thing) : (D ++ [t])[D.length]? = some t := by simp
theorem C_of_below {α : Type} {k : Kd α} {w0 W : World} {A : Option Addr} {n : Nat} {xs : List α} (h : k.C w0 A n xs) (hb : Below w0.heap.size w0 W) : k.C W A n xs := Kd.C_below h hb
/-- The operations as the law has them. -/
structure Ops (w0 : World) (A : Option Addr) (l : List SO) : Prop where
  row : kO.C w0 A l.length l
  len : l.length ≤ 1048576
  fits : ∀ x ∈ l, OpFits x
theorem Ops.at {A : Option Addr} {l : List SO} (h : Ops w0 A l) (k : Nat) (hk : k < l.length) : ∃ ad A4 c4, A = some ad ∧ (∀ W, Below w0.heap.size w0 W → W.cell? (ad.add (k * 5)) = some (.int .i64 l[k].f0) ∧ W.cell? ⟨(ad.add (k * 5)).block, (ad.add (k * 5)).off + 1, none⟩ = some (.int .i64 l[k].f1) ∧ W.cell? ⟨(ad.add (k * 5)).block, (ad.add (k * 5)).off + 2, none⟩ = some (.string l[k].f2) ∧ W.cell? ⟨(ad.add (k * 5)).block, (ad.add (k * 5)).off + 3, none⟩ = some (.string l[k].f3) ∧ W.cell? ⟨(ad.add (k * 5)).block, (ad.add (k * 5)).off + 4, none⟩ = some (.slice A4 l[k].f4.length c4)) ∧ l[k].f4.length ≤ c4 ∧ ∀ W, Below w0.heap.size w0 W → (Kd.int .u8).C W A4 l[k].f4.length l[k].f4 := by
  obtain ⟨ad, A4, c4, rfl, x0, x1, x2, x3, x4, hl, hC⟩ := at_T52 h.row (k : Int) (by omega) (by omega)
  have e : rd_T52 l (k : Int) = l[k] := by simp [rd_T52, hk]
  rw [e] at x0 x1 x2 x3 x4 hl hC
  simp only [Int.toNat_natCast] at x0 x1 x2 x3 x4
  refine ⟨ad, A4, c4, rfl, fun W hb => ?_, hl, fun W hb => Kd.C_below hC hb⟩
  exact ⟨(hb.cell (World.block_lt_of_cell? w0 _ x0)).trans x0, (hb.cell (World.block_lt_of_cell? w0 _ x1)).trans x1, (hb.cell (World.block_lt_of_cell? w0 _ x2)).trans x2, (hb.cell (World.block_lt_of_cell? w0 _ x3)).trans x3, (hb.cell (World.block_lt_of_cell? w0 _ x4)).trans x4⟩
end
end Go.Proofs.Ytflajlnknimjaaa.Dk

/- What the printed helpers say, in plain words: SameBytes, SameFiles, few. -/
namespace Go.Proofs.Ytflajlnknimjaaa.Dk
open Go.RowKit Go.Maps Go.Proofs.YtflajlnknimjaaaW.PrintWords Go.Proofs.YtflajlnknimjaaaW.PrintMore Go.Proofs.Ytflajlnknimjaaa.Syn Go.Proofs.Ytflajlnknimjaaa.PDiskLoads

theorem wrap_next (i : Nat) (h : i < 4611686018427387904) : wrap64 ((i : Int) + 1) = ((i + 1 : Nat) : Int) := by unfold wrap64; omega
theorem sameBytes_loop {a b : List Int} (hl : a.length = b.length) (hs : a.length ≤ 4611686018427387904) : ∀ (n i k : Nat), a.length - i = n → i ≤ a.length → n < k → synodref_SameBytes.l0 k a b (i : Int) = some (decide (a.drop i = b.drop i)) := by
  intro n
  induction n with
  | zero =>
    intro i k hn hi hk
    obtain ⟨k, rfl⟩ : ∃ k', k = k' + 1 := ⟨k - 1, by omega⟩
    rw [synodref_SameBytes.l0, if_neg (by omega), List.drop_eq_nil_of_le (by omega), List.drop_eq_nil_of_le (by omega)]
    rfl
  | succ n ih =>
    intro i k hn hi hk
    obtain ⟨k, rfl⟩ : ∃ k', k = k' + 1 := ⟨k - 1, by omega⟩
    have h1 : i < a.length := by omega
    have h2 : i < b.length := by omega
    rw [synodref_SameBytes.l0, if_pos (by omega), if_pos (by omega), if_pos (by omega), wrap_next i (by omega), ih (i + 1) k (by omega) (by omega) (by omega)]
    have key : a.drop i = b.drop i ↔ a[i] = b[i] ∧ a.drop (i + 1) = b.drop (i + 1) := by rw [List.drop_eq_getElem_cons h1, List.drop_eq_getElem_cons h2, List.cons.injEq]
    have e1 : rd a (i : Int) = a[i] := by simp [rd, h1]
    have e2 : rd b (i : Int) = b[i] := by simp [rd, h2]
    rw [e1, e2]
    by_cases h : a[i] = b[i]
    · rw [if_pos h]
      exact congrArg some (decide_eq_decide.2 (by rw [key]; exact ⟨fun e => ⟨h, e⟩, fun e => e.2⟩))
    · rw [if_neg h]
      exact congrArg some (decide_eq_false (fun e => h (key.1 e).1)).symm
theorem sameBytes_f (a b : List Int) (k : Nat) (hs : a.length ≤ 4611686018427387904) (hk : a.length < k) : synodref_SameBytes.f k a b = some (decide (a = b)) := by
  unfold synodref_SameBytes.f
  by_cases h : a.length = b.length
  · rw [if_pos (by omega)]
    have := sameBytes_loop h hs _ 0 k rfl (Nat.zero_le _) (by omega)
    simpa using this
  · rw [if_neg (by omega)]
    have : a ≠ b := fun e => h (by rw [e])
    simp [this]
theorem rdF {a : List SF} {i : Nat} (h : i < a.length) : rd_T36 a (i : Int) = a[i] := by simp [rd_T36, h]
theorem sf_ext {x y : SF} : x = y ↔ x.f0 = y.f0 ∧ x.f1 = y.f1 ∧ x.f2 = y.f2 := by
  cases x; cases y
  simp
instance : DecidableEq SF := fun _ _ => decidable_of_iff _ sf_ext.symm
theorem sameFiles_loop {a b : List SF} (hl : a.length = b.length) (hs : a.length ≤ 4611686018427387904) {m : Nat} (hm : ∀ x ∈ a, x.f1.length ≤ m) (hm2 : m ≤ 4611686018427387904) : ∀ (n i k : Nat), a.length - i = n → i ≤ a.length → n + m + 1 < k → synodref_SameFiles.l0 k a b (i : Int) = some (decide (a.drop i = b.drop i)) := by
  intro n
  induction n with
  | zero =>
    intro i k hn hi hk
    obtain ⟨k, rfl⟩ : ∃ k', k = k' + 1 := ⟨k - 1, by omega⟩
    rw [synodref_SameFiles.l0, if_neg (by omega), List.drop_eq_nil_of_le (by omega), List.drop_eq_nil_of_le (by omega)]
    rfl
  | succ n ih =>
    intro i k hn hi hk
    obtain ⟨k, rfl⟩ : ∃ k', k = k' + 1 := ⟨k - 1, by omega⟩
    have h1 : i < a.length := by omega
    have h2 : i < b.length := by omega
    have h3 := hm a[i] (List.getElem_mem h1)
    rw [synodref_SameFiles.l0, if_pos (by omega), if_pos (by omega), if_pos (by omega), wrap_next i (by omega), ih (i + 1) k (by omega) (by omega) (by omega), rdF h1, rdF h2, sameBytes_f _ _ k (by omega) (by omega)]
    have key : a.drop i = b.drop i ↔ a[i] = b[i] ∧ a.drop (i + 1) = b.drop (i + 1) := by rw [List.drop_eq_getElem_cons h1, List.drop_eq_getElem_cons h2, List.cons.injEq]
    rw [sf_ext] at key
    simp only [Option.bind_some, decide_eq_true_eq]
    by_cases e1 : a[i].f1 = b[i].f1
    · rw [if_pos e1]
      by_cases e0 : a[i].f0 = b[i].f0
      · rw [if_pos (by rw [e0])]
        by_cases e2 : a[i].f2 = b[i].f2
        · rw [if_pos e2]
          exact congrArg some (decide_eq_decide.2 (by rw [key]; exact ⟨fun e => ⟨⟨e0, e1, e2⟩, e⟩, fun e => e.2⟩))
        · rw [if_neg e2]
          exact congrArg some (decide_eq_false (fun e => e2 (key.1 e).1.2.2)).symm
      · rw [if_neg (fun h => e0 (tl_inj h))]
        exact congrArg some (decide_eq_false (fun e => e0 (key.1 e).1.1)).symm
    · rw [if_neg e1]
      exact congrArg some (decide_eq_false (fun e => e1 (key.1 e).1.2.1)).symm
theorem sameFiles_f (a b : List SF) {m : Nat} (k : Nat) (hs : a.length ≤ 4611686018427387904) (hm : ∀ x ∈ a, x.f1.length ≤ m) (hm2 : m ≤ 4611686018427387904) (hk : a.length + m + 1 < k) : synodref_SameFiles.f k a b = some (decide (a = b)) := by
  unfold synodref_SameFiles.f
  by_cases h : a.length = b.length
  · rw [if_pos (by omega)]
    have := sameFiles_loop h hs hm hm2 _ 0 k rfl (Nat.zero_le _) (by omega)
    simpa using this
  · rw [if_neg (by omega)]
    have : a ≠ b := fun e => h (by rw [e])
    simp [this]
theorem few_loop (l : List SO) : ∀ (n i k : Nat) (x : Int), 400 - i = n → i ≤ 400 → n < k → ∃ b, synodlaw4_few.l0 k l x (i : Int) = some b := by
  intro n
  induction n with
  | zero =>
    intro i k x hn hi hk
    obtain ⟨k, rfl⟩ : ∃ k', k = k' + 1 := ⟨k - 1, by omega⟩
    rw [synodlaw4_few.l0]
    by_cases h : (i : Int) < l.length
    · rw [if_pos h, if_neg (by omega)]
      split <;> exact ⟨_, rfl⟩
    · rw [if_neg h]
      split <;> exact ⟨_, rfl⟩
  | succ n ih =>
    intro i k x hn hi hk
    obtain ⟨k, rfl⟩ : ∃ k', k = k' + 1 := ⟨k - 1, by omega⟩
    rw [synodlaw4_few.l0]
    by_cases h : (i : Int) < l.length
    · rw [if_pos h, if_pos (by omega), if_pos (by omega), wrap_next i (by omega)]
      exact ih (i + 1) k _ (by omega) (by omega) (by omega)
    · rw [if_neg h]
      split <;> exact ⟨_, rfl⟩
theorem few_f (l : List SO) : ∃ b, synodlaw4_few.f 401 l = some b := few_loop l 400 0 401 0 rfl (Nat.zero_le _) (by omega)

section
variable {B i j : Nat} {w0 w : World} {D : List Thing} {v u : Value} {l r : List SF}
theorem Many.files (hM : Many B w0 w D) (hi : D[i]? = some (FILES v l)) : ∃ A c, v = .slice A l.length c ∧ l.length ≤ c ∧ kF.C w A l.length l := by
  obtain ⟨F, h, _⟩ := hM.get hi
  exact Kd.R_reads h
theorem C_len {α : Type} {k : Kd α} {A : Option Addr} {n : Nat} {xs : List α} (h : k.C w A n xs) : xs.length ≤ 9223372036854775807 := by
  have h1 := h.1
  have h2 := h.2.1
  omega
/-- Two rows of files, in whatever memory they lie. -/
theorem same_calls {A A' : Option Addr} {c c' : Nat} {l r : List SF} (h1 : kF.C w A l.length l) (h2 : l.length ≤ c) (h3 : kF.C w A' r.length r) (h4 : r.length ≤ c') (hl : l.length ≤ 1099511627776) (hm : ∀ x ∈ l, x.f1.length ≤ 1099511627776) :
    Calls Try.prog 25 #[.slice A l.length c, .slice A' r.length c'] w fun e w' => e = .returned (.bool (decide (l = r))) ∧ Below w.heap.size w w' := by
  refine (synodref_SameFiles.calls _ A c l A' c' r _ w h1 h2 h3 h4 (sameFiles_f l r (l.length + 1099511627776 + 2) (by omega) hm (by omega) (by omega))).mono ?_
  rintro e w' ⟨he, hd⟩
  exact ⟨he, hd.below⟩
theorem m_few {A : Option Addr} {c : Nat} {l : List SO} (hM : Many w0.heap.size w0 w D) (hl : Ops w0 A l) (hc : l.length ≤ c) :
    Calls Try.prog 19 #[.slice A l.length c] w fun e w' => ∃ b, e = .returned (.bool b) ∧ Many w0.heap.size w0 w' D := by
  obtain ⟨b, hb⟩ := few_f l
  refine (synodlaw4_few.calls _ A c l b w (Kd.C_below hl.row hM.below) hc hb).mono ?_
  rintro e w' ⟨he, hd⟩
  exact ⟨b, he, hM.read hd⟩
end
end Go.Proofs.Ytflajlnknimjaaa.Dk

/- first: the chapter's example. -/
namespace Go.Proofs.Ytflajlnknimjaaa.Dk
open Go.RowKit Go.Maps Go.Proofs.YtflajlnknimjaaaW.PrintWords Go.Proofs.YtflajlnknimjaaaW.PrintMore Go.Proofs.Ytflajlnknimjaaa.Syn Go.Proofs.Ytflajlnknimjaaa.PDiskLoads

def nA : ByteArray := ⟨#[97]⟩
def nB : ByteArray := ⟨#[65]⟩
def dA (l : List Int) (s : Nat) : St := ⟨[⟨nA, l, s⟩], nA, 0, false⟩
theorem ex1 : St.new.create nA = (0, ⟨[⟨nA, [], 0⟩], nil_, 0, false⟩) := by rfl
theorem ex2 : St.create nA ⟨[⟨nA, [], 0⟩], nil_, 0, false⟩ = (9, ⟨[⟨nA, [], 0⟩], nil_, 0, false⟩) := by rfl
theorem ex3 : St.create nB ⟨[⟨nA, [], 0⟩], nil_, 0, false⟩ = (7, ⟨[⟨nA, [], 0⟩], nil_, 0, false⟩) := by rfl
theorem ex4 : St.append nA [1, 2, 3] ⟨[⟨nA, [], 0⟩], nil_, 0, false⟩ = (0, dA [1, 2, 3] 0) := by rfl
theorem ex5 : St.sync nA (dA [1, 2, 3] 0) = (0, dA [1, 2, 3] 3) := by rfl
theorem ex6 : St.append nA [4, 5] (dA [1, 2, 3] 3) = (0, dA [1, 2, 3, 4, 5] 3) := by rfl
theorem ex7 : St.crash 1 (dA [1, 2, 3, 4, 5] 3) = ⟨[⟨nA, [1, 2, 3, 4], 4⟩], nil_, 0, false⟩ := by rfl

theorem m_lit {B : Nat} {w0 w : World} {D : List Thing} (hM : Many B w0 w D) (ys : List Int) (hl : ys.length ≤ 9223372036854775807) :
    Many B w0 (w.alloc (.cells (nums .u8 ys).toArray 5)) (D ++ [BYTES (.slice (some ⟨w.heap.size, 0, none⟩) ys.length ys.length) ys]) := by
  refine hM.add (below_alloc (Below.refl _ _) _) ?_
  refine Kd.R_of_own (Go.Proofs.YtflajlnknimjaaaW.PrintWords.own_lit w 0 5 .u8 ys (Nat.zero_le _) hl) (fun k hk => ?_)
  have hk' : k = w.heap.size := by simpa [Value.ownBlock] using hk.symm
  subst hk'
  exact ⟨Nat.le_refl _, by simp⟩
theorem m_lit3 {B : Nat} {w0 w : World} {D : List Thing} (hM : Many B w0 w D) : Many B w0 (w.alloc (.cells #[.int .u8 1, .int .u8 2, .int .u8 3] 5)) (D ++ [BYTES (.slice (some ⟨w.heap.size, 0, none⟩) 3 3) [1, 2, 3]]) := m_lit hM [1, 2, 3] (by decide)
theorem m_lit2 {B : Nat} {w0 w : World} {D : List Thing} (hM : Many B w0 w D) : Many B w0 (w.alloc (.cells #[.int .u8 4, .int .u8 5] 5)) (D ++ [BYTES (.slice (some ⟨w.heap.size, 0, none⟩) 2 2) [4, 5]]) := m_lit hM [4, 5] (by decide)

theorem lit_C (w : World) (ys : List Int) (hl : ys.length ≤ 9223372036854775807) : (Kd.int .u8).C (w.alloc (.cells (nums .u8 ys).toArray 5)) (some ⟨w.heap.size, 0, none⟩) ys.length ys :=
  (Kd.R_reads' (Kd.R_of_own (ok := fun _ => True) (Go.Proofs.YtflajlnknimjaaaW.PrintWords.own_lit w 0 5 .u8 ys (Nat.zero_le _) hl) (fun _ _ => trivial))).2.2
theorem lit_C4 (w : World) : (Kd.int .u8).C (w.alloc (.cells #[.int .u8 1, .int .u8 2, .int .u8 3, .int .u8 4] 5)) (some ⟨w.heap.size, 0, none⟩) 4 [1, 2, 3, 4] := lit_C w [1, 2, 3, 4] (by decide)

theorem ex8 : synodref_SameBytes.f 5 [1, 2, 3, 4] [1, 2, 3, 4] = some true := by rw [sameBytes_f _ _ 5 (by decide) (by decide)]; rfl
set_option maxHeartbeats 2000000 in
set_option maxRecDepth 100000 in
theorem first_calls (w : World) : Calls Try.prog 9 #[] w fun e w' => e = .returned (.bool true) ∧ Below w.heap.size w w' := by
  have H0 := Lib.hid (Many.start w)
  go_enter Try.func9, Try.ntmps9
  go_upto_region 4 with (go_at_call 10; refine (m_new (by exact H0.out)).mono ?_; rintro e w1 ⟨p, rfl, h1⟩; have H1 := Lib.hid h1; clear h1)
  go_upto_region 5 with (go_at_call 12; refine (m_create (i := 0) (by exact H1.out) rfl nA (by decide)).mono ?_; rw [ex1]; rintro e w2 ⟨rfl, h2⟩; have H2 := Lib.hid h2; clear h2)
  go_upto_region 6 with (go_at_call 12; refine (m_create (i := 0) (by exact H2.out) rfl nA (by decide)).mono ?_; rw [ex2]; rintro e w3 ⟨rfl, h3⟩; have H3 := Lib.hid h3; clear h3)
  go_upto_region 7 with (go_at_call 12; refine (m_create (i := 0) (by exact H3.out) rfl nB (by decide)).mono ?_; rw [ex3]; rintro e w4 ⟨rfl, h4⟩; have H4 := Lib.hid h4; clear h4)
  go_upto_region 8 with (go_at_call 14; refine (m_append (i := 0) (m_lit3 (by exact H4.out)) rfl nA (by decide) _ _ [1, 2, 3] (fun F hF hO => src_bytes (j := 1) (by decide) rfl F hF hO) (by decide) (by decide)).mono ?_; rw [ex4]; rintro e w5 ⟨rfl, h5⟩; have H5 := Lib.hid h5; clear h5)
  go_upto_region 9 with (go_at_call 32; refine (m_sync (i := 0) (by exact H5.out) rfl nA (by decide)).mono ?_; rw [ex5]; rintro e w6 ⟨rfl, h6⟩; have H6 := Lib.hid h6; clear h6)
  go_upto_region 10 with (go_at_call 14; refine (m_append (i := 0) (m_lit2 (by exact H6.out)) rfl nA (by decide) _ _ [4, 5] (fun F hF hO => src_bytes (j := 2) (by decide) rfl F hF hO) (by decide) (by decide)).mono ?_; rw [ex6]; rintro e w7 ⟨rfl, h7⟩; have H7 := Lib.hid h7; clear h7)
  go_upto_region 11 with (go_at_call 22; refine (m_crash (i := 0) (by exact H7.out) rfl 1).mono ?_; rw [ex7]; rintro e w8 ⟨rfl, h8⟩; have H8 := Lib.hid h8; clear h8)
  go_upto_region 12 with (go_at_call 21; refine (m_files (i := 0) (by exact H8.out) rfl).mono ?_; rintro e w9 ⟨v, rfl, h9⟩; have H9 := Lib.hid h9; clear h9)
  obtain ⟨A, c, hv, hc, hC⟩ := H9.out.files (i := 3) rfl
  have hv' : v = .slice A 1 c := hv
  subst hv'
  obtain ⟨ad, A1, c1, rfl, x0, x1, x2, hl1, hC1⟩ := at_T36 hC 0 (by decide) (by decide)
  replace x0 : w9.cell? (ad.add 0) = some (.string nA) := x0
  replace x1 : w9.cell? ⟨(ad.add 0).block, (ad.add 0).off + 1, none⟩ = some (.slice A1 4 c1) := x1
  replace x2 : w9.cell? ⟨(ad.add 0).block, (ad.add 0).off + 2, none⟩ = some (.int .i64 4) := x2
  have ha : ad.add 0 = ad := by cases ad; rfl
  rw [ha] at x0 x1 x2
  clear ha
  have hC1' : (Kd.int .u8).C w9 A1 4 [1, 2, 3, 4] := hC1
  have hl1' : 4 ≤ c1 := hl1
  have HC1 := Lib.hid hC1'
  have HL1 := Lib.hid hl1'
  clear hC hC1 hl1 hC1' hl1' hv
  have hnA : (nA.toList == [97]) = true := by rw [tl_eq]; rfl
  go_upto_region 13 with (go_at_call 11; refine (num_calls _ _).mono ?_; rintro e w10 ⟨rfl, rfl⟩)
  go_wp2_with (go_at_call 24; refine (synodref_SameBytes.calls 5 A1 c1 [1, 2, 3, 4] _ 4 [1, 2, 3, 4] true _ (Kd.C_below HC1.out (below_alloc (Below.refl _ _) _)) (by exact HL1.out) (lit_C4 _) (by decide) ex8).mono ?_; rintro e w11 ⟨rfl, hd⟩; have HD := Lib.hid hd; clear hd)
  go_ret
  exact ⟨rfl, ((H9.out.read (below_alloc (Below.refl _ _) _)).read HD.out.below).below⟩
end Go.Proofs.Ytflajlnknimjaaa.Dk

/- DiskTwo: the walk of the law. -/
namespace Go.Proofs.Ytflajlnknimjaaa.Dk
open Go.RowKit Go.Maps Go.Proofs.YtflajlnknimjaaaW.PrintWords Go.Proofs.YtflajlnknimjaaaW.PrintMore Go.Proofs.Ytflajlnknimjaaa.Syn Go.Proofs.Ytflajlnknimjaaa.PDiskLoads

theorem made_ok (l : List SO) (hl : ∀ x ∈ l, OpFits x) : (made l).Ok := by
  have : ∀ (l : List SO) (d : St), d.Ok → (∀ x ∈ l, OpFits x) → (l.foldl (fun d x => (told d x).2) d).Ok := by
    intro l
    induction l with
    | nil => exact fun d h _ => h
    | cons x r ih =>
      intro d h hf
      refine ih _ ?_ (fun y hy => hf y (List.mem_cons_of_mem _ hy))
      show (told d x).2.Ok
      unfold told
      split
      · exact create_ok h _
      split
      · exact append_ok h _ _
      split
      · exact sync_ok h _
      split
      · exact cut_ok h _ _
      split
      · exact rename_ok h _ _
      split
      · exact remove_ok h _
      split
      · exact arm_ok h (hf x List.mem_cons_self).n
      split
      · exact crash_ok h _
      · exact h
  exact this l St.new new_ok hl
theorem total_mem {l : List Fl} {f : Fl} (h : f ∈ l) : f.dat.length ≤ total l := by
  induction l with
  | nil => cases h
  | cons y r ih =>
    unfold total at ih ⊢
    rw [List.map_cons, List.sum_cons]
    rcases List.mem_cons.1 h with rfl | h
    · omega
    · have := ih h
      omega
theorem files_len {d : St} (ok : d.Ok) : (filesOf d).length ≤ 1099511627776 ∧ ∀ x ∈ filesOf d, x.f1.length ≤ 1099511627776 := by
  refine ⟨?_, fun x hx => ?_⟩
  · have := ok.cnt
    simp [filesOf]
    omega
  · obtain ⟨f, hf, rfl⟩ := List.mem_map.1 hx
    have h1 := total_mem hf
    have h2 := ok.tot
    show f.dat.length ≤ _
    omega
theorem made_take {l : List SO} {k : Nat} (h : k < l.length) : (told (made (l.take k)) l[k]).2 = made (l.take (k + 1)) := by rw [← made_snoc, ← List.take_succ_eq_append_getElem h]
theorem made_end {l : List SO} {k : Nat} (h : ¬ k < l.length) : made (l.take k) = made (l.take (k + 1)) := by rw [List.take_of_length_le (by omega), List.take_of_length_le (by omega)]
section
variable {B i j : Nat} {w0 w : World} {D : List Thing} {p : Nat} {d : St}
/-- The files of a disk, in a slice that can be read. -/
theorem m_files2 (hM : Many B w0 w D) (hi : D[i]? = some (DISK p d)) :
    Calls Try.prog 21 #[ptr p] w fun e w' => ∃ A c, e = .returned (.slice A (filesOf d).length c) ∧ Many B w0 w' (D ++ [FILES (.slice A (filesOf d).length c) (filesOf d)]) := by
  refine (m_files hM hi).mono ?_
  rintro e w' ⟨v, he, h⟩
  obtain ⟨A, c, hv, _, _⟩ := h.files (i := D.length) (get_last _ _)
  subst hv
  exact ⟨A, c, he, h⟩
theorem m_same {A A' : Option Addr} {n n' c c' : Nat} {l r : List SF} (hM : Many B w0 w D) (hi : D[i]? = some (FILES (.slice A n c) l)) (hj : D[j]? = some (FILES (.slice A' n' c') r)) (hl : l.length ≤ 1099511627776 ∧ ∀ x ∈ l, x.f1.length ≤ 1099511627776) :
    Calls Try.prog 25 #[.slice A n c, .slice A' n' c'] w fun e w' => e = .returned (.bool (decide (l = r))) ∧ Many B w0 w' D := by
  obtain ⟨A1, c1, e1, h1, h2⟩ := hM.files hi
  obtain ⟨A2, c2, e2, h3, h4⟩ := hM.files hj
  cases e1
  cases e2
  refine (same_calls h2 h1 h4 h3 hl.1 hl.2).mono ?_
  rintro e w' ⟨he, hb⟩
  exact ⟨he, hM.read hb⟩
theorem m_same1 {A A' : Option Addr} {n n' c c' : Nat} {l : List SF} (hM : Many B w0 w D) (hi : D[i]? = some (FILES (.slice A n c) l)) (hj : D[j]? = some (FILES (.slice A' n' c') l)) (hl : l.length ≤ 1099511627776 ∧ ∀ x ∈ l, x.f1.length ≤ 1099511627776) :
    Calls Try.prog 25 #[.slice A n c, .slice A' n' c'] w fun e w' => e = .returned (.bool true) ∧ Many B w0 w' D := by
  refine (m_same hM hi hj hl).mono ?_
  rintro e w' ⟨he, h⟩
  rw [decide_eq_true rfl] at he
  exact ⟨he, h⟩
theorem Many.ok_files (hM : Many B w0 w D) (hi : D[i]? = some (DISK p d)) : (filesOf d).length ≤ 1099511627776 ∧ ∀ x ∈ filesOf d, x.f1.length ≤ 1099511627776 := files_len (hM.ok hi)
end

end Go.Proofs.Ytflajlnknimjaaa.Dk

/- The laws' arguments: operations as they lie when the law is called. -/
namespace Go.Proofs.Ytflajlnknimjaaa.Dk
open Go.ChangeShapes Go.WideShapes Go.ChangeAt Go.Deep
open Go.RowKit Go.Maps Go.Proofs.YtflajlnknimjaaaW.PrintWords Go.Proofs.YtflajlnknimjaaaW.PrintMore Go.Proofs.Ytflajlnknimjaaa.Syn Go.Proofs.Ytflajlnknimjaaa.PDiskLoads

theorem bulk_pos {H : Type} (d : DataW H) : 1 ≤ Rows.uptoBulk d := by
  cases d with
  | lit l => cases l <;> simp [Rows.uptoBulk]
  | _ => simp [Rows.uptoBulk]
theorem bulk_mem {H : Type} {d : DataW H} {l : List (DataW H)} (h : d ∈ l) : Rows.uptoBulk d ≤ Rows.uptoBulkAll l := by
  induction l with
  | nil => cases h
  | cons x r ih =>
    simp only [Rows.uptoBulkAll]
    rcases List.mem_cons.1 h with e | e
    · subst e; omega
    · have := ih e; omega
theorem bulk_len {H : Type} (l : List (DataW H)) : l.length ≤ Rows.uptoBulkAll l := by
  induction l with
  | nil => simp [Rows.uptoBulkAll]
  | cons x r ih => have := bulk_pos x; simp only [Rows.uptoBulkAll, List.length_cons]; omega
section
variable {H : Type} {enc : TypeId × Value → H} {P : Program} {w : World} {base : Nat} {spare : Nat → Bool} {held : Bool}
/-- A struct in memory, read: each of its fields, one cell each. -/
theorem fields_at {e : TypeId} {fs : Array Field} {fuel : Nat} {a : Addr} {cs : List Value} {y : DataW H × List MemPlace} (he : P.underlying e = some (.struct fs)) (hone : oneCellFields P fs = true)
    (hc : w.cells? base a fs.size = some cs) (ht : DataW.trod enc P w base spare held fuel e cs = some y) :
    ∃ (ys : List (DataW H × List MemPlace)) (n : Nat), y.1 = .agg (ys.map (·.1)) ∧ ∀ (j : Nat) (f : Field), fs[j]? = some f → ∃ (v : Value) (z : DataW H × List MemPlace), w.cell? (a.add j) = some v ∧ ys[j]? = some z ∧ DataW.trod enc P w base spare held n f.type [v] = some z := by
  obtain ⟨ys, n, _, e1, _, e2, hf⟩ := DataW.trod_struct he ht
  have hcs := World.cells?_some hc
  refine ⟨ys, n, by rw [e1], fun j f hj => ?_⟩
  have hjl := (Array.getElem?_eq_some_iff.1 hj).1
  have o := hone_of hone j f hj
  have hjc : j < cs.length := by have := hcs.2.1; omega
  have hjy : j < ys.length := by omega
  have g := hf j f hj
  rw [o.1, o.2, List.drop_eq_getElem_cons hjc, List.take_succ_cons, List.take_zero, List.getElem?_eq_getElem hjy] at g
  exact ⟨cs[j], ys[j], (hcs.2.2 j hjl).trans (List.getElem?_eq_getElem hjc), List.getElem?_eq_getElem hjy, g⟩
end
theorem list_of {α : Type} {Q : Nat → α → Prop} : ∀ n, (∀ i, i < n → ∃ x, Q i x) → ∃ l : List α, l.length = n ∧ ∀ i (h : i < l.length), Q i l[i] := by
  intro n
  induction n with
  | zero => exact fun _ => ⟨[], rfl, fun i h => absurd h (Nat.not_lt_zero i)⟩
  | succ n ih =>
    intro h
    obtain ⟨l, hl, hq⟩ := ih (fun i hi => h i (by omega))
    obtain ⟨x, hx⟩ := h n (by omega)
    refine ⟨l ++ [x], by simp [hl], fun i hi => ?_⟩
    by_cases hin : i < l.length
    · rw [List.getElem_append_left hin]; exact hq i hin
    · have : i = n := by simp at hi; omega
      subst this
      rw [List.getElem_append_right (by omega)]
      simpa [hl] using hx
theorem wf_max {n : Int} (h : (Lit.int .i64 n).wf = true) : n ≤ 9223372036854775807 := by
  have : -9223372036854775808 ≤ n ∧ n ≤ 9223372036854775807 := by simpa [Lit.wf, IntKind.min, IntKind.max, IntKind.signed, IntKind.bits] using h
  exact this.2
theorem bulk_small {H : Type} {l : List (DataW H)} (hk : Rows.uptoSmall H l = true) : Rows.uptoBulkAll l ≤ 1048576 := of_decide_eq_true hk
theorem info_op : ∃ fs, Try.prog.underlying 52 = some (.struct fs) ∧ fs.size = 5 ∧ oneCellFields Try.prog fs = true ∧ (fs.map (·.type)) = #[3, 3, 9, 9, 34] := ⟨_, Try.underlying52, by kernel_rfl, by kernel_rfl, by kernel_rfl⟩
theorem field_at {fs : Array Field} {ts : Array TypeId} (h : (fs.map (·.type)) = ts) {j : Nat} {t : TypeId} (ht : ts[j]? = some t) : ∃ f, fs[j]? = some f ∧ f.type = t := by
  subst h
  rw [Array.getElem?_map] at ht
  cases hf : fs[j]? with
  | none => rw [hf] at ht; cases ht
  | some f => rw [hf] at ht; exact ⟨f, rfl, by simpa using ht⟩

set_option maxRecDepth 10000 in
theorem open_bytes {H : Type} {enc : TypeId × Value → H} {W : World} {fuel : Nat} {v : Value} {y : DataW H × List MemPlace} (h : DataW.trod enc Try.prog W 0 (fun _ => true) true fuel 34 [v] = some y) :
    ∃ A c ys, v = .slice A ys.length c ∧ ys.length ≤ c ∧ (Kd.int .u8).C W A ys.length ys ∧ ys.length ≤ Rows.uptoBulk y.1 := by
  rcases open_ints Try.underlying34 Try.underlying5 (by kernel_rfl) h with ⟨hcs, _⟩ | ⟨a, len, cap, zs, hcs, _, hl, hm, hz, hx, hcell, _⟩
  · obtain rfl : v = .slice none 0 0 := by simpa using hcs
    exact ⟨none, 0, [], rfl, Nat.le_refl _, ⟨rfl, Nat.zero_le _, fun h => absurd h (Nat.lt_irrefl 0)⟩, Nat.zero_le _⟩
  · obtain rfl : v = .slice (some a) len cap := by simpa using hcs
    have hzc : zs.length = cap := by simpa using hz
    have hlen : (zs.take len).length = len := by rw [List.length_take]; omega
    refine ⟨some a, cap, zs.take len, by rw [hlen], by rw [hlen]; exact hl, ⟨rfl, by rw [hlen]; unfold maxLen at hm; omega, fun _ => ⟨a, rfl, fun j p hj => ⟨[.int .u8 p], rfl, rfl, fun i u hu => ?_⟩⟩⟩, ?_⟩
    · have hi : i = 0 := by
        have := (List.getElem?_eq_some_iff.1 hu).1
        simpa using this
      subst hi
      have hu' : u = .int .u8 p := by simpa using hu.symm
      subst hu'
      obtain ⟨hj1, hj2⟩ := List.getElem?_eq_some_iff.1 hj
      rw [hlen] at hj1
      have e : zs.getD j 0 = p := by
        rw [List.getElem_take] at hj2
        simp [List.getD_eq_getElem?_getD, List.getElem?_eq_getElem (show j < zs.length by omega), hj2]
      have := hcell j (by omega)
      rw [e] at this
      have e2 : j * (Kd.int .u8).sz + 0 = j := by show j * 1 + 0 = j; omega
      rw [e2]
      exact this
    · subst hx
      have h1 := bulk_len (H := H) (lits .u8 (zs.take len))
      simp only [Rows.uptoBulk]
      have h2 : (lits (H := H) .u8 (zs.take len)).length = len := by simp [lits, hlen]; omega
      omega

set_option maxRecDepth 10000 in
/-- OPERATIONS, as they come in. -/
theorem open_ops {H : Type} {enc : TypeId × Value → H} {W : World} {v : Value} {d : DataW H} {p : List MemPlace} (h : DataW.Trod enc Try.prog W 0 (fun _ => true) true 42 v d p) {base : Nat} (hv : Value.okWide Try.prog W .any base 42 v) (hb : Rows.uptoBulk d ≤ 1048576) :
    ∃ A c l, v = .slice A l.length c ∧ l.length ≤ c ∧ Ops W A l := by
  obtain ⟨a0, n0, c0, rfl⟩ := okWide_slice Try.underlying42 hv
  obtain ⟨fuel, hf⟩ := h
  obtain ⟨fs, he, hfs, hone, hty⟩ := info_op
  have hC : Try.prog.cellsOf 52 = 5 := by kernel_rfl
  rcases open_slice Try.underlying42 hf with ⟨hcs, _⟩ | ⟨a, len, cap, m, n, D, Pl, hcs, _, hl, hm, hmm, hx, hi⟩
  · simp [Value.cells] at hcs
    obtain ⟨rfl, rfl, rfl⟩ := hcs
    exact ⟨none, 0, [], rfl, Nat.le_refl _, ⟨⟨rfl, Nat.zero_le _, fun h => absurd h (Nat.lt_irrefl 0)⟩, Nat.zero_le _, fun x hx => absurd hx (by simp)⟩⟩
  · simp [Value.cells] at hcs
    obtain ⟨rfl, rfl, rfl⟩ : some a = a0 ∧ len = n0 ∧ cap = c0 := ⟨hcs.1.symm, hcs.2.1.symm, hcs.2.2.symm⟩
    have hmc : m = cap := by simpa using hmm
    have hd : d = .slice ((List.range len).map D) ((List.range (m - len)).map fun j => D (len + j)) := congrArg Prod.fst hx
    have hbl : Rows.uptoBulkAll ((List.range len).map D) ≤ 1048576 := by
      rw [hd] at hb
      simp only [Rows.uptoBulk] at hb
      omega
    have hlen : len ≤ 1048576 := by
      have := bulk_len ((List.range len).map D)
      rw [List.length_map, List.length_range] at this
      omega
    obtain ⟨l, hll, hq⟩ := list_of (Q := fun i (x : SO) => ∃ A4 c4, x.f4.length ≤ c4 ∧ (Kd.int .u8).C W A4 x.f4.length x.f4 ∧ OpFits x ∧ W.cell? (a.add (i * 5)) = some (.int .i64 x.f0) ∧ W.cell? (a.add (i * 5 + 1)) = some (.int .i64 x.f1) ∧ W.cell? (a.add (i * 5 + 2)) = some (.string x.f2) ∧ W.cell? (a.add (i * 5 + 3)) = some (.string x.f3) ∧ W.cell? (a.add (i * 5 + 4)) = some (.slice A4 x.f4.length c4)) len (by
      intro i hil
      obtain ⟨cs', hc, ht⟩ := hi i (by omega)
      rw [hC] at hc
      obtain ⟨ys, n', hy, hF⟩ := fields_at he hone (by rw [hfs]; exact hc) ht
      have hbi : Rows.uptoBulkAll (ys.map (·.1)) ≤ 1048576 := by
        have h1 := bulk_mem (List.mem_map_of_mem (f := D) (List.mem_range.2 hil))
        have h2 : D i = .agg (ys.map (·.1)) := hy
        rw [h2] at h1
        simp only [Rows.uptoBulk] at h1
        omega
      have hbz : ∀ (j : Nat) (z : DataW H × List MemPlace), ys[j]? = some z → Rows.uptoBulk z.1 ≤ 1048576 := fun j z hz => Nat.le_trans (bulk_mem (List.mem_map_of_mem (f := fun x : DataW H × List MemPlace => x.1) (List.mem_of_getElem? hz))) hbi
      obtain ⟨g0, q0, r0⟩ := field_at hty (j := 0) rfl
      obtain ⟨g1, q1, r1⟩ := field_at hty (j := 1) rfl
      obtain ⟨g2, q2, r2⟩ := field_at hty (j := 2) rfl
      obtain ⟨g3, q3, r3⟩ := field_at hty (j := 3) rfl
      obtain ⟨g4, q4, r4⟩ := field_at hty (j := 4) rfl
      obtain ⟨v0, z0, m0, y0, t0⟩ := hF 0 g0 q0
      obtain ⟨v1, z1, m1, y1, t1⟩ := hF 1 g1 q1
      obtain ⟨v2, z2, m2, y2, t2⟩ := hF 2 g2 q2
      obtain ⟨v3, z3, m3, y3, t3⟩ := hF 3 g3 q3
      obtain ⟨v4, z4, m4, y4, t4⟩ := hF 4 g4 q4
      rw [r0] at t0
      rw [r1] at t1
      rw [r2] at t2
      rw [r3] at t3
      rw [r4] at t4
      obtain ⟨x0, e0, _, _⟩ := DataW.trod_int Try.underlying3 t0
      obtain ⟨x1, e1, _, w1⟩ := DataW.trod_int Try.underlying3 t1
      obtain ⟨x2, e2, d2, _⟩ := DataW.trod_string Try.underlying9 t2
      obtain ⟨x3, e3, d3, _⟩ := DataW.trod_string Try.underlying9 t3
      obtain ⟨A4, c4, x4, e4, l4, hC4, b4⟩ := open_bytes t4
      obtain rfl : v0 = .int .i64 x0 := by simpa using e0
      obtain rfl : v1 = .int .i64 x1 := by simpa using e1
      obtain rfl : v2 = .string x2 := by simpa using e2
      obtain rfl : v3 = .string x3 := by simpa using e3
      subst e4
      have k2 := hbz 2 _ y2
      have k3 := hbz 3 _ y3
      have k4 := hbz 4 _ y4
      rw [d2] at k2
      rw [d3] at k3
      simp only [Rows.uptoBulk] at k2 k3
      have s2 : x2.data.toList.length = x2.size := by rw [Array.length_toList]; rfl
      have s3 : x3.data.toList.length = x3.size := by rw [Array.length_toList]; rfl
      have hadd : ∀ j, (a.add (i * 5)).add j = a.add (i * 5 + j) := fun j => Go.Deep.add_add _ _ _
      rw [hadd] at m0 m1 m2 m3 m4
      exact ⟨⟨x0, x1, x2, x3, x4⟩, A4, c4, l4, hC4, ⟨wf_max w1, by show x2.size ≤ _; omega, by show x3.size ≤ _; omega, by show x4.length ≤ _; omega⟩, m0, m1, m2, m3, m4⟩)
    subst hll
    refine ⟨some a, cap, l, rfl, hl, ⟨⟨rfl, by omega, fun _ => ⟨a, rfl, fun j x hj => ?_⟩⟩, hlen, fun x hx => ?_⟩⟩
    · obtain ⟨hj1, rfl⟩ := List.getElem?_eq_some_iff.1 hj
      obtain ⟨A4, c4, h4, hC4, _, k0, k1, k2, k3, k4⟩ := hq j hj1
      refine ⟨_, rfl, k52_mk W l[j] h4 hC4, fun i u hu => ?_⟩
      have hi5 : i < 5 := (List.getElem?_eq_some_iff.1 hu).1
      show W.cell? (a.add (j * 5 + i)) = some u
      rcases i with _ | _ | _ | _ | _ | i
      · rw [← hu]; exact k0
      · rw [← hu]; exact k1
      · rw [← hu]; exact k2
      · rw [← hu]; exact k3
      · rw [← hu]; exact k4
      · omega
    · obtain ⟨j, hj, rfl⟩ := List.getElem_of_mem hx
      obtain ⟨A4, c4, _, _, h5, _⟩ := hq j hj
      exact h5
end Go.Proofs.Ytflajlnknimjaaa.Dk

/- The reference's ways on lists of files, in plain words: a place, a file set, taken out, put in. -/
namespace Go.Proofs.Ytflajlnknimjaaa.Dk
open Go.WideAt Go.WideShapes

/-- Where a name stands. -/
def pos (nm : ByteArray) (l : List Fl) : Option Nat := l.findIdx? fun x => decide (x.nm = nm)
theorem pos_none {nm : ByteArray} {l : List Fl} : pos nm l = none ↔ look Fl.nm nm l = none := by
  rw [look_none]
  simp [pos, List.findIdx?_eq_none_iff]
theorem pos_some {nm : ByteArray} {l : List Fl} {i : Nat} (h : pos nm l = some i) : ∃ hi : i < l.length, l[i].nm = nm := by
  obtain ⟨hi, h1, _⟩ := List.findIdx?_eq_some_iff_getElem.1 h
  exact ⟨hi, by simpa using h1⟩
theorem pos_first {nm : ByteArray} {l : List Fl} {i : Nat} (h : pos nm l = some i) : ∀ j (hj : j < i), (l[j]'(by have := (pos_some h).1; omega)).nm ≠ nm := by
  obtain ⟨hi, _, h2⟩ := List.findIdx?_eq_some_iff_getElem.1 h
  intro j hj
  simpa using h2 j hj
theorem pos_of {nm : ByteArray} {l : List Fl} {i : Nat} (hi : i < l.length) (h : l[i].nm = nm) (hf : ∀ j (hj : j < i), l[j].nm ≠ nm) : pos nm l = some i :=
  List.findIdx?_eq_some_iff_getElem.2 ⟨hi, by simpa using h, fun j hj => by simpa using hf j hj⟩
theorem pos_of_none {nm : ByteArray} {l : List Fl} (hf : ∀ j (hj : j < l.length), l[j].nm ≠ nm) : pos nm l = none := by
  rw [pos_none, look_none]
  intro y hy
  obtain ⟨j, hj, rfl⟩ := List.getElem_of_mem hy
  exact hf j hj
theorem pos_look {nm : ByteArray} {l : List Fl} {i : Nat} (hs : Srt Fl.nm l) (h : pos nm l = some i) (hi : i < l.length) : look Fl.nm nm l = some l[i] := by
  obtain ⟨hi', hn⟩ := pos_some h
  exact hs.look (List.getElem_mem hi) hn
theorem upd_set {nm : ByteArray} {l : List Fl} {i : Nat} (hs : Srt Fl.nm l) (hi : i < l.length) (hn : l[i].nm = nm) (g : Fl → Fl) : upd nm g l = l.set i (g l[i]) := by
  unfold upd
  apply List.ext_getElem
  · simp
  · intro j h1 h2
    have hj : j < l.length := by simpa using h1
    rw [List.getElem_map, List.getElem_set]
    by_cases e : i = j
    · subst e
      rw [if_pos hn, if_pos rfl]
    · rw [if_neg (fun e2 => ?_), if_neg e]
      have h3 := List.pairwise_iff_getElem.1 hs
      rcases Nat.lt_or_gt_of_ne e with hlt | hlt
      · exact before_ne (h3 i j hi hj hlt) (hn.trans e2.symm)
      · exact before_ne (h3 j i hj hi hlt) (e2.trans hn.symm)
theorem era_erase {nm : ByteArray} {l : List Fl} {i : Nat} (hs : Srt Fl.nm l) (hi : i < l.length) (hn : l[i].nm = nm) : era Fl.nm nm l = l.eraseIdx i := by
  induction l generalizing i with
  | nil => simp at hi
  | cons z r ih =>
    have h' := List.pairwise_cons.1 hs
    cases i with
    | zero =>
      simp only [List.getElem_cons_zero] at hn
      rw [List.eraseIdx_cons_zero]
      unfold era
      rw [List.filter_cons, if_neg (by simp [hn])]
      rw [List.filter_eq_self]
      intro y hy
      have := before_ne (h'.1 y hy)
      rw [hn] at this
      simpa using fun e => this e.symm
    | succ i =>
      simp only [List.getElem_cons_succ] at hn
      simp only [List.length_cons] at hi
      rw [List.eraseIdx_cons_succ]
      have hz : z.nm ≠ nm := by
        have := before_ne (h'.1 _ (List.getElem_mem (by omega : i < r.length)))
        rw [hn] at this
        exact this
      unfold era
      rw [List.filter_cons, if_pos (by simpa using hz)]
      congr 1
      exact ih h'.2 (by omega) hn
/-- A file among the others. -/
theorem ins_at {x : Fl} : ∀ {l : List Fl} {j : Nat}, j ≤ l.length → (∀ i (hi : i < l.length), i < j → bytesBefore (bts x.nm) (bts l[i].nm) = false) → (∀ (hj : j < l.length), bytesBefore (bts x.nm) (bts l[j].nm) = true) → ins Fl.nm x l = l.take j ++ x :: l.drop j
  | [], j, _, _, _ => by simp [ins]
  | z :: r, 0, _, _, h2 => by
    have := h2 (by simp)
    simp only [List.getElem_cons_zero] at this
    unfold ins
    rw [if_pos this]
    rfl
  | z :: r, j + 1, hj, h1, h2 => by
    have h0 := h1 0 (by simp) (by omega)
    simp only [List.getElem_cons_zero] at h0
    unfold ins
    rw [if_neg (by rw [h0]; simp), ins_at (l := r) (j := j) (by simpa using hj) (fun i hi hlt => by
      have := h1 (i + 1) (by simpa using hi) (by omega)
      simpa using this) (fun hj2 => by
      have := h2 (by simpa using hj2)
      simpa using this)]
    rfl
theorem erase_take {α : Type} (l : List α) (i : Nat) : l.eraseIdx i = l.take i ++ l.drop (i + 1) := List.eraseIdx_eq_take_drop_succ l i
end Go.Proofs.Ytflajlnknimjaaa.Dk

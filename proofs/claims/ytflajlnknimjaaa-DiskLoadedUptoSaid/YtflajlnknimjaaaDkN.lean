/- The disk's functions, told of one thing among many. -/
import Derived.Test.YtflajlnknimjaaaDkM
import Derived.Test.YtflajlnknimjaaaPDiskLoadsx8
namespace Go.Proofs.Ytflajlnknimjaaa.Dk
open Go.RowKit Go.Maps Go.Proofs.YtflajlnknimjaaaW.PrintWords Go.Proofs.YtflajlnknimjaaaW.PrintMore Go.Proofs.Ytflajlnknimjaaa.Syn Go.Proofs.Ytflajlnknimjaaa.PDiskLoads

abbrev ptr (p : Nat) : Value := .pointer (some ⟨p, 0, none⟩)
theorem R_new {α : Type} {k : Kd α} {e base : Nat} {w : World} {v : Value} {xs : List α} (h : k.R e w base (fun _ => True) v xs) : k.R e w 0 (fun k => base ≤ k ∧ k < w.heap.size) v xs :=
  Kd.R_lower (Kd.R_mono (Kd.R_bound h) (fun k hk => ⟨hk.2.1, hk.2.2.1⟩)) (Nat.zero_le _)
section
variable {B i : Nat} {w0 w : World} {D : List Thing} {p : Nat} {d : St}
theorem Many.post (hM : Many B w0 w D) (hi : D[i]? = some (DISK p d)) {f : Nat} {args : Array Value} {r : Int × St} (hr : r.2.Ok)
    (hc : ∀ F, DiskAt w F p d → d.Ok → (∀ k, F k → B ≤ k) → (∀ (j : Nat) (u : Thing), j ≠ i → D[j]? = some u → ∃ G : Nat → Prop, u.P w G ∧ ∀ k, G k → k < w.heap.size ∧ ¬ F k) → Calls Try.prog f args w (Post F p w r)) : Calls Try.prog f args w fun e w' => e = .returned (.int .i64 r.1) ∧ Many B w0 w' (D.set i (DISK p r.2)) := by
  obtain ⟨F, ⟨hd, ok⟩, hF, hO, hst⟩ := hM.get hi
  refine (hc F hd ok (fun k hk => (hF k hk).1) hO).mono ?_
  rintro e w' ⟨he, h1, h2⟩
  exact ⟨he, hst h2 ⟨h1, hr⟩⟩
theorem Many.ok (hM : Many B w0 w D) (hi : D[i]? = some (DISK p d)) : d.Ok := by
  obtain ⟨F, ⟨hd, ok⟩, hF, hO, hst⟩ := hM.get hi
  exact ok
theorem m_create (hM : Many B w0 w D) (hi : D[i]? = some (DISK p d)) (nm : ByteArray) (hn : nm.size ≤ 140737488351232) :
    Calls Try.prog 12 #[ptr p, .string nm] w fun e w' => e = .returned (.int .i64 (d.create nm).1) ∧ Many B w0 w' (D.set i (DISK p (d.create nm).2)) :=
  hM.post hi (create_ok (hM.ok hi) nm) fun F hd ok _ _ => create_calls nm hd ok hn
theorem m_sync (hM : Many B w0 w D) (hi : D[i]? = some (DISK p d)) (nm : ByteArray) (hn : nm.size ≤ 140737488351232) :
    Calls Try.prog 32 #[ptr p, .string nm] w fun e w' => e = .returned (.int .i64 (d.sync nm).1) ∧ Many B w0 w' (D.set i (DISK p (d.sync nm).2)) :=
  hM.post hi (sync_ok (hM.ok hi) nm) fun F hd ok _ _ => sync_calls nm hd ok hn
theorem m_cut (hM : Many B w0 w D) (hi : D[i]? = some (DISK p d)) (nm : ByteArray) (n : Int) (hn : nm.size ≤ 140737488351232) :
    Calls Try.prog 44 #[ptr p, .string nm, .int .i64 n] w fun e w' => e = .returned (.int .i64 (d.cut nm n).1) ∧ Many B w0 w' (D.set i (DISK p (d.cut nm n).2)) :=
  hM.post hi (cut_ok (hM.ok hi) nm n) fun F hd ok _ _ => cut_calls nm n hd ok hn
theorem m_rename (hM : Many B w0 w D) (hi : D[i]? = some (DISK p d)) (a b : ByteArray) (ha : a.size ≤ 140737488351232) (hb : b.size ≤ 140737488351232) :
    Calls Try.prog 45 #[ptr p, .string a, .string b] w fun e w' => e = .returned (.int .i64 (d.rename a b).1) ∧ Many B w0 w' (D.set i (DISK p (d.rename a b).2)) :=
  hM.post hi (rename_ok (hM.ok hi) a b) fun F hd ok _ _ => rename_calls a b hd ok ha hb
theorem m_remove (hM : Many B w0 w D) (hi : D[i]? = some (DISK p d)) (nm : ByteArray) (hn : nm.size ≤ 140737488351232) :
    Calls Try.prog 46 #[ptr p, .string nm] w fun e w' => e = .returned (.int .i64 (d.remove nm).1) ∧ Many B w0 w' (D.set i (DISK p (d.remove nm).2)) :=
  hM.post hi (remove_ok (hM.ok hi) nm) fun F hd ok _ _ => remove_calls nm hd ok hn
theorem m_append (hM : Many B w0 w D) (hi : D[i]? = some (DISK p d)) (nm : ByteArray) (hn : nm.size ≤ 140737488351232) (A : Option Addr) (cp : Nat) (ys : List Int) (hs : ∀ F : Nat → Prop, (∀ k, F k → B ≤ k) → (∀ (j : Nat) (u : Thing), j ≠ i → D[j]? = some u → ∃ G : Nat → Prop, u.P w G ∧ ∀ k, G k → k < w.heap.size ∧ ¬ F k) → Src F w A ys) (hy : ys.length ≤ 140737488351232) (hcp : ys.length ≤ cp) :
    Calls Try.prog 14 #[ptr p, .string nm, .slice A ys.length cp] w fun e w' => e = .returned (.int .i64 (d.append nm ys).1) ∧ Many B w0 w' (D.set i (DISK p (d.append nm ys).2)) :=
  hM.post hi (append_ok (hM.ok hi) nm ys) fun F hd ok hF hO => append_calls nm A cp ys hd ok hn (hs F hF hO) hy hcp
/-- Bytes that are another thing among them. -/
theorem src_bytes {j : Nat} {A : Option Addr} {c : Nat} {ys : List Int} (hj : j ≠ i) (h : D[j]? = some (BYTES (.slice A ys.length c) ys)) (F : Nat → Prop) (hF : ∀ k, F k → B ≤ k) (hO : ∀ (j : Nat) (u : Thing), j ≠ i → D[j]? = some u → ∃ G : Nat → Prop, u.P w G ∧ ∀ k, G k → k < w.heap.size ∧ ¬ F k) : Src F w A ys := by
  obtain ⟨G, h1, h2⟩ := hO j _ hj h
  intro W hc
  have h3 : (Kd.int .u8).R 5 W 0 G (.slice A ys.length c) ys := (BYTES _ _).stay (fun k hk => (h2 k hk).1) hc.size (fun k hk => hc.block k (h2 k hk).1 (h2 k hk).2) h1
  obtain ⟨A', c', e, _, h4⟩ := Kd.R_reads h3
  injection e with e1 _ _
  rw [e1]
  exact h4
/-- Bytes that were there. -/
theorem src_old {A : Option Addr} {ys : List Int} (hM : Many B w0 w D) (hs : ∀ W, Below B w0 W → (Kd.int .u8).C W A ys.length ys) (F : Nat → Prop) (hF : ∀ k, F k → B ≤ k) : Src F w A ys := fun W' hc => hs W' ⟨hc.os.trans hM.below.os, hc.tape.trans hM.below.tape, hc.output.trans hM.below.output, Nat.le_trans hM.below.size hc.size, fun k hk => (hc.block k (Nat.lt_of_lt_of_le hk hM.size) (fun h => by have := hF k h; omega)).trans (hM.below.block k hk)⟩
theorem m_arm (hM : Many B w0 w D) (hi : D[i]? = some (DISK p d)) (n : Int) (hn : n ≤ 9223372036854775807) :
    Calls Try.prog 47 #[ptr p, .int .i64 n] w fun e w' => e = .returned (.tuple #[]) ∧ Many B w0 w' (D.set i (DISK p (d.arm n))) := by
  obtain ⟨F, ⟨hd, ok⟩, hF, hO, hst⟩ := hM.get hi
  refine (arm_calls n hd).mono ?_
  rintro e w' ⟨he, h1, h2⟩
  exact ⟨he, hst h2 ⟨h1, arm_ok ok hn⟩⟩
theorem m_crash (hM : Many B w0 w D) (hi : D[i]? = some (DISK p d)) (n : Int) :
    Calls Try.prog 22 #[ptr p, .int .i64 n] w fun e w' => e = .returned (.tuple #[]) ∧ Many B w0 w' (D.set i (DISK p (d.crash n))) := by
  obtain ⟨F, ⟨hd, ok⟩, hF, hO, hst⟩ := hM.get hi
  refine (crash_calls n hd ok).mono ?_
  rintro e w' ⟨he, h1, h2⟩
  exact ⟨he, hst h2 ⟨h1, crash_ok ok n⟩⟩
theorem m_new (hM : Many B w0 w D) : Calls Try.prog 10 #[] w fun e w' => ∃ p, e = .returned (ptr p) ∧ Many B w0 w' (D ++ [DISK p St.new]) := by
  refine (new_calls w).mono ?_
  rintro e w' ⟨p, he, h1, h2⟩
  refine ⟨p, he, hM.add (h2.below (fun _ h => h.elim) (Nat.le_refl _)) ⟨?_, new_ok⟩⟩
  have e2 : Gr (fun _ => False) w w' = fun k => w.heap.size ≤ k ∧ k < w'.heap.size := by funext k; simp [Gr]
  rw [e2] at h1
  exact h1
theorem m_files (hM : Many B w0 w D) (hi : D[i]? = some (DISK p d)) :
    Calls Try.prog 21 #[ptr p] w fun e w' => ∃ v, e = .returned v ∧ Many B w0 w' (D ++ [FILES v (filesOf d)]) := by
  obtain ⟨F, ⟨hd, ok⟩, hF, hO, hst⟩ := hM.get hi
  refine (files_calls hd ok).mono ?_
  rintro e w' ⟨v, he, h1, h2⟩
  exact ⟨v, he, hM.add h2 (R_new h1)⟩
theorem m_list (hM : Many B w0 w D) (hi : D[i]? = some (DISK p d)) :
    Calls Try.prog 18 #[ptr p] w fun e w' => ∃ v, e = .returned v ∧ Many B w0 w' (D ++ [TEXTS v (names d)]) := by
  obtain ⟨F, ⟨hd, ok⟩, hF, hO, hst⟩ := hM.get hi
  refine (list_calls hd ok).mono ?_
  rintro e w' ⟨v, he, h1, h2⟩
  exact ⟨v, he, hM.add h2 (R_new h1)⟩
theorem m_read (hM : Many B w0 w D) (hi : D[i]? = some (DISK p d)) (nm : ByteArray) (hn : nm.size ≤ 140737488351232) :
    Calls Try.prog 55 #[ptr p, .string nm] w fun e w' => ∃ v, e = .returned (.tuple #[v, .int .i64 (d.read nm).2]) ∧ Many B w0 w' (D ++ [BYTES v (d.read nm).1]) := by
  obtain ⟨F, ⟨hd, ok⟩, hF, hO, hst⟩ := hM.get hi
  refine (read_calls nm hd ok hn).mono ?_
  rintro e w' ⟨v, he, h1, h2⟩
  exact ⟨v, he, hM.add h2 (R_new h1)⟩
theorem m_size (hM : Many B w0 w D) (hi : D[i]? = some (DISK p d)) :
    Calls Try.prog 16 #[ptr p] w fun e w' => e = .returned (.int .i64 (total d.fs)) ∧ Many B w0 w' D := by
  obtain ⟨F, ⟨hd, ok⟩, hF, hO, hst⟩ := hM.get hi
  refine (size_calls hd ok.srt (by have := ok.tot; omega)).mono ?_
  rintro e w' ⟨he, h1⟩
  exact ⟨he, hM.read (h1.below (fun _ h => h.elim) (Nat.le_refl _))⟩
theorem m_down (hM : Many B w0 w D) (hi : D[i]? = some (DISK p d)) :
    Calls Try.prog 23 #[ptr p] w fun e w' => e = .returned (.bool d.down) ∧ Many B w0 w' D := by
  obtain ⟨F, ⟨⟨m, L, hd, _⟩, ok⟩, hF, hO, hst⟩ := hM.get hi
  refine (down_calls p w _ _ _ d.down hd.blk).mono ?_
  rintro e w' ⟨he, rfl⟩
  exact ⟨he, hM⟩
theorem m_has (hM : Many B w0 w D) (hi : D[i]? = some (DISK p d)) (nm : ByteArray) (hn : nm.size ≤ 140737488351232) :
    Calls Try.prog 34 #[ptr p, .string nm] w fun e w' => e = .returned (.bool (look Fl.nm nm d.fs).isSome) ∧ Many B w0 w' D := by
  obtain ⟨F, ⟨⟨m, L, hd, hL⟩, ok⟩, hF, hO, hst⟩ := hM.get hi
  refine (has_calls p m w L nm _ _ _ (by unfold maxLen; omega) hd.blk hd.map).mono ?_
  rintro e w' ⟨he, rfl⟩
  refine ⟨?_, hM⟩
  rw [he, look_abs hL nm]
  cases look FileC.nm nm L <;> rfl
end
end Go.Proofs.Ytflajlnknimjaaa.Dk

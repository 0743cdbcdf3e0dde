/- Merged: RfD. -/
import Derived.Test.YtflajlnknimjaaaMl9
import Derived.Test.YtflajlnknimjaaaMl10
set_option linter.unusedVariables false
set_option linter.unusedSimpArgs false
/- An operation told a disk and the reference's: the things it walks among; Create, Sync, Cut, Rename, Remove. -/
namespace Go.Proofs.Ytflajlnknimjaaa.Dk
open Go.RowKit Go.Maps Go.Proofs.YtflajlnknimjaaaW.PrintWords Go.Proofs.YtflajlnknimjaaaW.PrintMore Go.Proofs.YtflajlnknimjaaaW.PrintLast Go.Proofs.Ytflajlnknimjaaa.Syn Go.Proofs.Ytflajlnknimjaaa.PDiskLoads
set_option linter.unusedVariables false
set_option linter.unusedSimpArgs false

def does3T : Bool × List (List Nat × List Nat) := (true, [([], []), ([], []), ([1], [1]), ([0, 2], [0, 2]), ([3, 3], [3]), ([], []), ([], []), ([6], [6]), ([5, 7, 4], [5, 7]), ([4, 8], [4, 8]), ([9, 8, 0, 1, 2, 3, 4, 5, 6, 7, 8, 9], [9])])
def does3TB : List Nat := [0, 0, 2, 7, 15, 0, 0, 64, 255, 511, 1023]
theorem does3T_tab : rtab .any (opsOf Try.f27 3) = does3T := by kernel_rfl
theorem does3T_bits : waitsOk does3T.2 does3TB = true := by kernel_rfl
def does14T : Bool × List (List Nat × List Nat) := (true, [([], []), ([], []), ([1], [1]), ([0, 2], [0, 2]), ([3, 3], [3]), ([], []), ([], []), ([6], [6]), ([5, 7, 4], [5, 7]), ([4, 8], [4, 8]), ([9, 8, 0, 1, 2, 3, 4, 5, 6, 7, 8, 9], [9])])
def does14TB : List Nat := [0, 0, 2, 7, 15, 0, 0, 64, 255, 511, 1023]
theorem does14T_tab : rtab .any (opsOf Try.f27 14) = does14T := by kernel_rfl
theorem does14T_bits : waitsOk does14T.2 does14TB = true := by kernel_rfl
def does16T : Bool × List (List Nat × List Nat) := (true, [([], []), ([], []), ([1], [1]), ([], []), ([3], [3]), ([0, 2, 4], [0, 2, 4]), ([5, 5], [5]), ([], []), ([], []), ([8], [8]), ([], []), ([10], [10]), ([7, 9, 11, 6], [7, 9, 11]), ([6, 12], [6, 12]), ([13, 12, 0, 1, 2, 3, 4, 5, 6, 7, 8, 9, 10, 11, 12, 13], [13])])
def does16TB : List Nat := [0, 0, 2, 0, 8, 31, 63, 0, 0, 256, 0, 1024, 4095, 8191, 16383]
theorem does16T_tab : rtab .any (opsOf Try.f27 16) = does16T := by kernel_rfl
theorem does16T_bits : waitsOk does16T.2 does16TB = true := by kernel_rfl
def does18T : Bool × List (List Nat × List Nat) := (true, [([], []), ([], []), ([1], [1]), ([], []), ([3], [3]), ([0, 2, 4], [0, 2, 4]), ([5, 5], [5]), ([], []), ([], []), ([8], [8]), ([], []), ([10], [10]), ([7, 9, 11, 6], [7, 9, 11]), ([6, 12], [6, 12]), ([13, 12, 0, 1, 2, 3, 4, 5, 6, 7, 8, 9, 10, 11, 12, 13], [13])])
def does18TB : List Nat := [0, 0, 2, 0, 8, 31, 63, 0, 0, 256, 0, 1024, 4095, 8191, 16383]
theorem does18T_tab : rtab .any (opsOf Try.f27 18) = does18T := by kernel_rfl
theorem does18T_bits : waitsOk does18T.2 does18TB = true := by kernel_rfl
def does20T : Bool × List (List Nat × List Nat) := (true, [([], []), ([], []), ([1], [1]), ([0, 2], [0, 2]), ([3, 3], [3]), ([], []), ([], []), ([6], [6]), ([5, 7, 4], [5, 7]), ([4, 8], [4, 8]), ([9, 8, 0, 1, 2, 3, 4, 5, 6, 7, 8, 9], [9])])
def does20TB : List Nat := [0, 0, 2, 7, 15, 0, 0, 64, 255, 511, 1023]
theorem does20T_tab : rtab .any (opsOf Try.f27 20) = does20T := by kernel_rfl
theorem does20T_bits : waitsOk does20T.2 does20TB = true := by kernel_rfl

/-- A box whose cells are known. -/
def BOX (a : Nat) (cs : Array Value) (t : Nat) : Thing where
  P := fun w F => F a ∧ w.heap[a]? = some (.cells cs t (0, 0))
  stay := fun _ _ he ⟨h0, h1⟩ => ⟨h0, (he a h0).trans h1⟩
section
variable {B i : Nat} {w0 w : World} {D : List Thing} {t : Thing} {p q : Nat} {d : St}
/-- The things in another order, or fewer. -/
theorem Many.re {D' : List Thing} (h : Many B w0 w D) (s : Nat → Nat) (h0 : s 0 = 0) (hs : ∀ (i : Nat) (u : Thing), D'[i]? = some u → ∃ j, D[j]? = some u ∧ ∀ x, s x = i + 1 ↔ x = j + 1) : Many B w0 w D' := by
  obtain ⟨h1, h2, own, h3, h4⟩ := h
  refine ⟨h1, h2, fun k => s (own k), fun k hk => h3 k (fun e => hk (by show s (own k) = 0; rw [e, h0])), fun i u hu => ?_⟩
  obtain ⟨j, hj, hx⟩ := hs i u hu
  have e : (fun k => s (own k) = i + 1) = fun k => own k = j + 1 := by
    funext k
    exact propext (hx (own k))
  rw [e]
  exact h4 j u hj
theorem Many.tail (h : Many B w0 w (t :: D)) : Many B w0 w D := by
  refine h.re (fun x => x - 1) rfl fun i u hu => ⟨i + 1, by simpa using hu, fun x => ?_⟩
  show x - 1 = i + 1 ↔ _
  omega
theorem Many.front (h : Many B w0 w (D ++ [t])) : Many B w0 w (t :: D) := by
  refine h.re (fun x => if x = D.length + 1 then 1 else if x = 0 ∨ D.length + 1 < x then 0 else x + 1) (by simp) fun i u hu => ?_
  cases i with
  | zero =>
    refine ⟨D.length, by simpa using hu, fun x => ?_⟩
    show (if x = D.length + 1 then 1 else if x = 0 ∨ D.length + 1 < x then 0 else x + 1) = 0 + 1 ↔ _
    split
    · rename_i h; simp [h]
    · split <;> omega
  | succ i =>
    have hu' : D[i]? = some u := by simpa using hu
    have hl := (List.getElem?_eq_some_iff.1 hu').1
    refine ⟨i, by rw [List.getElem?_append_left hl]; exact hu', fun x => ?_⟩
    show (if x = D.length + 1 then 1 else if x = 0 ∨ D.length + 1 < x then 0 else x + 1) = i + 1 + 1 ↔ _
    split
    · omega
    · split <;> omega
theorem Many.box {a : Nat} {cs : Array Value} {ty : Nat} (h : Many B w0 w D) (hi : D[i]? = some (BOX a cs ty)) : w.heap[a]? = some (.cells cs ty (0, 0)) := by
  obtain ⟨F, ⟨_, hd⟩, _⟩ := h.get hi
  exact hd
theorem Many.newbox (h : Many B w0 w D) (cs : Array Value) (ty : Nat) : Many B w0 (w.alloc (.cells cs ty)) (BOX w.heap.size cs ty :: D) :=
  (h.add (t := BOX w.heap.size cs ty) (below_alloc (Below.refl _ _) _) ⟨⟨Nat.le_refl _, by simp⟩, sb_new _ _⟩).front
/-- An operation's cells. -/
def OpCells (w : World) (a : Nat) (k n : Int) (nm dst : ByteArray) (v : Value) : Prop :=
  w.cell? ⟨a, 0, none⟩ = some (.int .i64 k) ∧ w.cell? ⟨a, 1, none⟩ = some (.int .i64 n) ∧ w.cell? ⟨a, 2, none⟩ = some (.string nm) ∧ w.cell? ⟨a, 3, none⟩ = some (.string dst) ∧ w.cell? ⟨a, 4, none⟩ = some v
theorem Many.opcells {a : Nat} {k n : Int} {nm dst : ByteArray} {v : Value} {D' : List Thing} (h : Many B w0 w (BOX a #[.int .i64 k, .int .i64 n, .string nm, .string dst, v] 52 :: D')) : OpCells w a k n nm dst v := by
  have b := h.box (i := 0) rfl
  have b0 := sb_cell b 0
  have b1 := sb_cell b 1
  have b2 := sb_cell b 2
  have b3 := sb_cell b 3
  have b4 := sb_cell b 4
  simp at b0 b1 b2 b3 b4
  exact ⟨b0, b1, b2, b3, b4⟩
/-- What Does leaves. -/
def DoesPost (B : Nat) (w0 : World) (D : List Thing) (p q : Nat) (s : St) (e : Ending) (w' : World) : Prop := e = .returned (.bool true) ∧ Many B w0 w' (DISK p s :: REF q s :: D)

set_option maxHeartbeats 2000000 in
set_option maxRecDepth 100000 in
theorem does_create (hM : Many B w0 w (DISK p d :: REF q d :: D)) (n : Int) (nm dst : ByteArray) (v : Value) (hnm : nm.size ≤ 140737488351232) (hto : dst.size ≤ 140737488351232) :
    Calls Try.prog 27 #[ptr p, ptr q, .agg #[.int .i64 0, .int .i64 n, .string nm, .string dst, v]] w (DoesPost B w0 D p q (d.create nm).2) := by
  have HM := Lib.hid (hM.newbox #[.int .i64 0, .int .i64 n, .string nm, .string dst, v] 52)
  obtain ⟨x0, x1, x2, x3, x4⟩ := HM.out.opcells
  have HN := Lib.hid hnm
  have HT := Lib.hid hto
  obtain ⟨r, hr⟩ : ∃ r, d.create nm = r := ⟨_, rfl⟩
  rw [hr]
  have HR := Lib.hid hr
  clear hr hM hnm hto
  go_enter Try.func27, Try.ntmps27
  go_upto_region 3 with fail
  clear x0 x1 x2 x3 x4
  obtain ⟨a, ha⟩ : ∃ a, a = w.heap.size := ⟨_, rfl⟩
  rw [← ha] at HM ⊢
  have HD := Lib.hid (HM.out.read (below_drew (Below.refl _ _)))
  have hcd := HD.out.opcells
  clear HM ha
  refine start_ (n := 11) (S := fun w' => w'.cell? ⟨a, 0, none⟩ = some (.int .i64 0) ∧ w'.cell? ⟨a, 1, none⟩ = some (.int .i64 n) ∧ w'.cell? ⟨a, 2, none⟩ = some (.string nm) ∧ w'.cell? ⟨a, 3, none⟩ = some (.string dst) ∧ w'.cell? ⟨a, 4, none⟩ = some v) (ds := []) #[false, false, false, false, false, false, false, false, false, false, false] (by kernel_rfl) rfl rfl hcd (fun hHeld => ?_)
  refine with_tabW does3T_tab does3T_bits (fun HT_ HW_ => ?_)
  generalize World.drew _ = w6 at HD hHeld ⊢
  clear hcd
  refine pure_ (i := 0) (N := (some 21)) (v := ?_) (a' := ?_) #[true, false, false, false, false, false, false, false, false, false, false] rfl rfl (any_of HT_.out (by kernel_rfl)) (fun _ _ _ h => h) (Or.inl ⟨by rfl, ?_⟩) ?_ ?_
  rotate_left
  · intro w'
    go_simp
    with_reducible rfl
  rotate_left
  · simp only [Act.put, List.setIfInBounds_toArray, List.set_cons_zero, List.set_cons_succ, i64_w, i32_w]
    rfl
  refine pure_ (i := 1) (N := (some 22)) (v := ?_) (a' := ?_) #[true, true, false, false, false, false, false, false, false, false, false] rfl rfl (any_of HT_.out (by kernel_rfl)) (fun _ _ _ h => h) (Or.inl ⟨by rfl, ?_⟩) ?_ ?_
  rotate_left
  · intro w'
    go_simp
    with_reducible rfl
  rotate_left
  · simp only [Act.put, List.setIfInBounds_toArray, List.set_cons_zero, List.set_cons_succ, i64_w, i32_w]
    rfl
  refine pure_ (i := 5) (N := (some 26)) (v := ?_) (a' := ?_) #[true, true, false, false, false, true, false, false, false, false, false] rfl rfl (any_of HT_.out (by kernel_rfl)) (fun _ _ _ h => h) (Or.inl ⟨by rfl, ?_⟩) ?_ ?_
  rotate_left
  · intro w'
    go_simp
    with_reducible rfl
  rotate_left
  · simp only [Act.put, List.setIfInBounds_toArray, List.set_cons_zero, List.set_cons_succ, i64_w, i32_w]
    rfl
  refine pure_ (i := 6) (N := (some 27)) (v := ?_) (a' := ?_) #[true, true, false, false, false, true, true, false, false, false, false] rfl rfl (any_of HT_.out (by kernel_rfl)) (fun _ _ _ h => h) (Or.inl ⟨by rfl, ?_⟩) ?_ ?_
  rotate_left
  · intro w'
    go_simp
    with_reducible rfl
  rotate_left
  · simp only [Act.put, List.setIfInBounds_toArray, List.set_cons_zero, List.set_cons_succ, i64_w, i32_w]
    rfl
  refine take_ (i := 2) (N := (some 23)) (v := ?_) (a' := ?_) #[true, true, true, false, false, true, true, false, false, false, false] rfl rfl (take_ofW HT_.out HW_.out (by kernel_rfl)) (fun _ _ _ h => h) (Or.inl ⟨by rfl, ?_⟩) hHeld ?_ ?_
  rotate_left
  · rintro w' ⟨s0, s1, s2, s3, s4⟩
    go_simp
    with_reducible rfl
  rotate_left
  · simp only [Act.put, List.setIfInBounds_toArray, List.set_cons_zero, List.set_cons_succ, i64_w, i32_w]
    rfl
  refine take_ (i := 7) (N := (some 28)) (v := ?_) (a' := ?_) #[true, true, true, false, false, true, true, true, false, false, false] rfl rfl (take_ofW HT_.out HW_.out (by kernel_rfl)) (fun _ _ _ h => h) (Or.inl ⟨by rfl, ?_⟩) hHeld ?_ ?_
  rotate_left
  · rintro w' ⟨s0, s1, s2, s3, s4⟩
    go_simp
    with_reducible rfl
  rotate_left
  · simp only [Act.put, List.setIfInBounds_toArray, List.set_cons_zero, List.set_cons_succ, i64_w, i32_w]
    rfl
  refine one_ (i := 3) (N := (some 24)) #[true, true, true, true, false, true, true, true, false, false, false] rfl rfl (one_of HT_.out (by kernel_rfl)) (by decide) (fun K hK => ?_)
  refine goes_ Try.func12 (by kernel_rfl) rfl #[ptr p, .string nm] (by rfl) rfl rfl (by (try simp only [List.map_toArray, List.map_cons, List.map_nil]); rfl) ?_
  with_reducible refine (m_create (i := 1) (by exact HD.out) (by with_unfolding_all rfl) nm (by exact HN.out)).mono ?_
  rw [HR.out]
  rintro e w7 ⟨rfl, h7⟩
  refine ⟨_, rfl, ?_⟩
  have H7 := Lib.hid h7
  have g7 := H7.out.opcells
  clear h7
  refine hK.out _ _ g7 (fun hHeld => ?_)
  clear hK K
  refine norm_ (a' := ?_) ?_ ?_
  rotate_left
  · show Act.put _ (some 24) _ = _
    simp only [Act.put, List.setIfInBounds_toArray, List.set_cons_zero, List.set_cons_succ, i64_w, i32_w]
    rfl
  refine one_ (i := 4) (N := (some 25)) #[true, true, true, true, true, true, true, true, false, false, false] rfl rfl (one_of HT_.out (by kernel_rfl)) (by decide) (fun K hK => ?_)
  refine goes_ Try.func11 (by kernel_rfl) rfl #[.int .i64 r.1] (by rfl) rfl rfl (by (try simp only [List.map_toArray, List.map_cons, List.map_nil]); rfl) ?_
  with_reducible refine (num_calls _ _).mono ?_
  rintro e w8 ⟨rfl, rfl⟩
  refine ⟨_, rfl, ?_⟩
  refine hK.out _ _ g7 (fun hHeld => ?_)
  clear hK K
  refine norm_ (a' := ?_) ?_ ?_
  rotate_left
  · show Act.put _ (some 25) _ = _
    simp only [Act.put, List.setIfInBounds_toArray, List.set_cons_zero, List.set_cons_succ, i64_w, i32_w]
    rfl
  refine one_ (i := 8) (N := (some 29)) #[true, true, true, true, true, true, true, true, true, false, false] rfl rfl (one_of HT_.out (by kernel_rfl)) (by decide) (fun K hK => ?_)
  refine goes_ Try.func13 (by kernel_rfl) rfl #[ptr q, .string nm] (by rfl) rfl rfl (by (try simp only [List.map_toArray, List.map_cons, List.map_nil]); rfl) ?_
  with_reducible refine (mr_create (i := 2) (by exact H7.out) (by with_unfolding_all rfl) nm (by exact HN.out)).mono ?_
  rw [HR.out]
  rintro e w9 ⟨rfl, h9⟩
  refine ⟨_, rfl, ?_⟩
  have H9 := Lib.hid h9
  have g9 := H9.out.opcells
  clear h9
  refine hK.out _ _ g9 (fun hHeld => ?_)
  clear hK K
  refine norm_ (a' := ?_) ?_ ?_
  rotate_left
  · show Act.put _ (some 29) _ = _
    simp only [Act.put, List.setIfInBounds_toArray, List.set_cons_zero, List.set_cons_succ, i64_w, i32_w]
    rfl
  refine pure_ (i := 9) (N := (some 30)) (v := ?_) (a' := ?_) #[true, true, true, true, true, true, true, true, true, true, false] rfl rfl (any_of HT_.out (by kernel_rfl)) (fun _ _ _ h => h) (Or.inl ⟨by rfl, ?_⟩) ?_ ?_
  rotate_left
  · intro w'
    go_simp
    with_reducible rfl
  rotate_left
  · simp only [Act.put, List.setIfInBounds_toArray, List.set_cons_zero, List.set_cons_succ, i64_w, i32_w]
    rfl
  refine pure_ (i := 10) (N := (some 6)) (v := ?_) (a' := ?_) #[true, true, true, true, true, true, true, true, true, true, true] rfl rfl (any_of HT_.out (by kernel_rfl)) (fun _ _ _ h => h) (Or.inl ⟨by rfl, ?_⟩) ?_ ?_
  rotate_left
  · intro w'
    go_simp
    with_reducible rfl
  rotate_left
  · simp only [Act.put, List.setIfInBounds_toArray, List.set_cons_zero, List.set_cons_succ, i64_w, i32_w]
    rfl
  refine done_ (done_of HT_.out (by kernel_rfl)) ?_
  clear g7 g9 hHeld
  go_wp2
  go_ret
  exact ⟨by simp, H9.out.tail⟩
set_option maxHeartbeats 2000000 in
set_option maxRecDepth 100000 in
theorem does_sync (hM : Many B w0 w (DISK p d :: REF q d :: D)) (n : Int) (nm dst : ByteArray) (v : Value) (hnm : nm.size ≤ 140737488351232) (hto : dst.size ≤ 140737488351232) :
    Calls Try.prog 27 #[ptr p, ptr q, .agg #[.int .i64 2, .int .i64 n, .string nm, .string dst, v]] w (DoesPost B w0 D p q (d.sync nm).2) := by
  have HM := Lib.hid (hM.newbox #[.int .i64 2, .int .i64 n, .string nm, .string dst, v] 52)
  obtain ⟨x0, x1, x2, x3, x4⟩ := HM.out.opcells
  have HN := Lib.hid hnm
  have HT := Lib.hid hto
  obtain ⟨r, hr⟩ : ∃ r, d.sync nm = r := ⟨_, rfl⟩
  rw [hr]
  have HR := Lib.hid hr
  clear hr hM hnm hto
  go_enter Try.func27, Try.ntmps27
  go_upto_region 14 with fail
  clear x0 x1 x2 x3 x4
  obtain ⟨a, ha⟩ : ∃ a, a = w.heap.size := ⟨_, rfl⟩
  rw [← ha] at HM ⊢
  have HD := Lib.hid (HM.out.read (below_drew (Below.refl _ _)))
  have hcd := HD.out.opcells
  clear HM ha
  refine start_ (n := 11) (S := fun w' => w'.cell? ⟨a, 0, none⟩ = some (.int .i64 2) ∧ w'.cell? ⟨a, 1, none⟩ = some (.int .i64 n) ∧ w'.cell? ⟨a, 2, none⟩ = some (.string nm) ∧ w'.cell? ⟨a, 3, none⟩ = some (.string dst) ∧ w'.cell? ⟨a, 4, none⟩ = some v) (ds := []) #[false, false, false, false, false, false, false, false, false, false, false] (by kernel_rfl) rfl rfl hcd (fun hHeld => ?_)
  refine with_tabW does14T_tab does14T_bits (fun HT_ HW_ => ?_)
  generalize World.drew _ = w6 at HD hHeld ⊢
  clear hcd
  refine pure_ (i := 0) (N := (some 68)) (v := ?_) (a' := ?_) #[true, false, false, false, false, false, false, false, false, false, false] rfl rfl (any_of HT_.out (by kernel_rfl)) (fun _ _ _ h => h) (Or.inl ⟨by rfl, ?_⟩) ?_ ?_
  rotate_left
  · intro w'
    go_simp
    with_reducible rfl
  rotate_left
  · simp only [Act.put, List.setIfInBounds_toArray, List.set_cons_zero, List.set_cons_succ, i64_w, i32_w]
    rfl
  refine pure_ (i := 1) (N := (some 69)) (v := ?_) (a' := ?_) #[true, true, false, false, false, false, false, false, false, false, false] rfl rfl (any_of HT_.out (by kernel_rfl)) (fun _ _ _ h => h) (Or.inl ⟨by rfl, ?_⟩) ?_ ?_
  rotate_left
  · intro w'
    go_simp
    with_reducible rfl
  rotate_left
  · simp only [Act.put, List.setIfInBounds_toArray, List.set_cons_zero, List.set_cons_succ, i64_w, i32_w]
    rfl
  refine pure_ (i := 5) (N := (some 73)) (v := ?_) (a' := ?_) #[true, true, false, false, false, true, false, false, false, false, false] rfl rfl (any_of HT_.out (by kernel_rfl)) (fun _ _ _ h => h) (Or.inl ⟨by rfl, ?_⟩) ?_ ?_
  rotate_left
  · intro w'
    go_simp
    with_reducible rfl
  rotate_left
  · simp only [Act.put, List.setIfInBounds_toArray, List.set_cons_zero, List.set_cons_succ, i64_w, i32_w]
    rfl
  refine pure_ (i := 6) (N := (some 74)) (v := ?_) (a' := ?_) #[true, true, false, false, false, true, true, false, false, false, false] rfl rfl (any_of HT_.out (by kernel_rfl)) (fun _ _ _ h => h) (Or.inl ⟨by rfl, ?_⟩) ?_ ?_
  rotate_left
  · intro w'
    go_simp
    with_reducible rfl
  rotate_left
  · simp only [Act.put, List.setIfInBounds_toArray, List.set_cons_zero, List.set_cons_succ, i64_w, i32_w]
    rfl
  refine take_ (i := 2) (N := (some 70)) (v := ?_) (a' := ?_) #[true, true, true, false, false, true, true, false, false, false, false] rfl rfl (take_ofW HT_.out HW_.out (by kernel_rfl)) (fun _ _ _ h => h) (Or.inl ⟨by rfl, ?_⟩) hHeld ?_ ?_
  rotate_left
  · rintro w' ⟨s0, s1, s2, s3, s4⟩
    go_simp
    with_reducible rfl
  rotate_left
  · simp only [Act.put, List.setIfInBounds_toArray, List.set_cons_zero, List.set_cons_succ, i64_w, i32_w]
    rfl
  refine take_ (i := 7) (N := (some 75)) (v := ?_) (a' := ?_) #[true, true, true, false, false, true, true, true, false, false, false] rfl rfl (take_ofW HT_.out HW_.out (by kernel_rfl)) (fun _ _ _ h => h) (Or.inl ⟨by rfl, ?_⟩) hHeld ?_ ?_
  rotate_left
  · rintro w' ⟨s0, s1, s2, s3, s4⟩
    go_simp
    with_reducible rfl
  rotate_left
  · simp only [Act.put, List.setIfInBounds_toArray, List.set_cons_zero, List.set_cons_succ, i64_w, i32_w]
    rfl
  refine one_ (i := 3) (N := (some 71)) #[true, true, true, true, false, true, true, true, false, false, false] rfl rfl (one_of HT_.out (by kernel_rfl)) (by decide) (fun K hK => ?_)
  refine goes_ Try.func32 (by kernel_rfl) rfl #[ptr p, .string nm] (by rfl) rfl rfl (by (try simp only [List.map_toArray, List.map_cons, List.map_nil]); rfl) ?_
  with_reducible refine (m_sync (i := 1) (by exact HD.out) (by with_unfolding_all rfl) nm (by exact HN.out)).mono ?_
  rw [HR.out]
  rintro e w7 ⟨rfl, h7⟩
  refine ⟨_, rfl, ?_⟩
  have H7 := Lib.hid h7
  have g7 := H7.out.opcells
  clear h7
  refine hK.out _ _ g7 (fun hHeld => ?_)
  clear hK K
  refine norm_ (a' := ?_) ?_ ?_
  rotate_left
  · show Act.put _ (some 71) _ = _
    simp only [Act.put, List.setIfInBounds_toArray, List.set_cons_zero, List.set_cons_succ, i64_w, i32_w]
    rfl
  refine one_ (i := 4) (N := (some 72)) #[true, true, true, true, true, true, true, true, false, false, false] rfl rfl (one_of HT_.out (by kernel_rfl)) (by decide) (fun K hK => ?_)
  refine goes_ Try.func11 (by kernel_rfl) rfl #[.int .i64 r.1] (by rfl) rfl rfl (by (try simp only [List.map_toArray, List.map_cons, List.map_nil]); rfl) ?_
  with_reducible refine (num_calls _ _).mono ?_
  rintro e w8 ⟨rfl, rfl⟩
  refine ⟨_, rfl, ?_⟩
  refine hK.out _ _ g7 (fun hHeld => ?_)
  clear hK K
  refine norm_ (a' := ?_) ?_ ?_
  rotate_left
  · show Act.put _ (some 72) _ = _
    simp only [Act.put, List.setIfInBounds_toArray, List.set_cons_zero, List.set_cons_succ, i64_w, i32_w]
    rfl
  refine one_ (i := 8) (N := (some 76)) #[true, true, true, true, true, true, true, true, true, false, false] rfl rfl (one_of HT_.out (by kernel_rfl)) (by decide) (fun K hK => ?_)
  refine goes_ Try.func50 (by kernel_rfl) rfl #[ptr q, .string nm] (by rfl) rfl rfl (by (try simp only [List.map_toArray, List.map_cons, List.map_nil]); rfl) ?_
  with_reducible refine (mr_sync (i := 2) (by exact H7.out) (by with_unfolding_all rfl) nm).mono ?_
  rw [HR.out]
  rintro e w9 ⟨rfl, h9⟩
  refine ⟨_, rfl, ?_⟩
  have H9 := Lib.hid h9
  have g9 := H9.out.opcells
  clear h9
  refine hK.out _ _ g9 (fun hHeld => ?_)
  clear hK K
  refine norm_ (a' := ?_) ?_ ?_
  rotate_left
  · show Act.put _ (some 76) _ = _
    simp only [Act.put, List.setIfInBounds_toArray, List.set_cons_zero, List.set_cons_succ, i64_w, i32_w]
    rfl
  refine pure_ (i := 9) (N := (some 77)) (v := ?_) (a' := ?_) #[true, true, true, true, true, true, true, true, true, true, false] rfl rfl (any_of HT_.out (by kernel_rfl)) (fun _ _ _ h => h) (Or.inl ⟨by rfl, ?_⟩) ?_ ?_
  rotate_left
  · intro w'
    go_simp
    with_reducible rfl
  rotate_left
  · simp only [Act.put, List.setIfInBounds_toArray, List.set_cons_zero, List.set_cons_succ, i64_w, i32_w]
    rfl
  refine pure_ (i := 10) (N := (some 6)) (v := ?_) (a' := ?_) #[true, true, true, true, true, true, true, true, true, true, true] rfl rfl (any_of HT_.out (by kernel_rfl)) (fun _ _ _ h => h) (Or.inl ⟨by rfl, ?_⟩) ?_ ?_
  rotate_left
  · intro w'
    go_simp
    with_reducible rfl
  rotate_left
  · simp only [Act.put, List.setIfInBounds_toArray, List.set_cons_zero, List.set_cons_succ, i64_w, i32_w]
    rfl
  refine done_ (done_of HT_.out (by kernel_rfl)) ?_
  clear g7 g9 hHeld
  go_wp2
  go_ret
  exact ⟨by simp, H9.out.tail⟩
set_option maxHeartbeats 2000000 in
set_option maxRecDepth 100000 in
theorem does_cut (hM : Many B w0 w (DISK p d :: REF q d :: D)) (n : Int) (nm dst : ByteArray) (v : Value) (hnm : nm.size ≤ 140737488351232) (hto : dst.size ≤ 140737488351232) :
    Calls Try.prog 27 #[ptr p, ptr q, .agg #[.int .i64 3, .int .i64 n, .string nm, .string dst, v]] w (DoesPost B w0 D p q (d.cut nm n).2) := by
  have HM := Lib.hid (hM.newbox #[.int .i64 3, .int .i64 n, .string nm, .string dst, v] 52)
  obtain ⟨x0, x1, x2, x3, x4⟩ := HM.out.opcells
  have HN := Lib.hid hnm
  have HT := Lib.hid hto
  obtain ⟨r, hr⟩ : ∃ r, d.cut nm n = r := ⟨_, rfl⟩
  rw [hr]
  have HR := Lib.hid hr
  clear hr hM hnm hto
  go_enter Try.func27, Try.ntmps27
  go_upto_region 16 with fail
  clear x0 x1 x2 x3 x4
  obtain ⟨a, ha⟩ : ∃ a, a = w.heap.size := ⟨_, rfl⟩
  rw [← ha] at HM ⊢
  have HD := Lib.hid (HM.out.read (below_drew (Below.refl _ _)))
  have hcd := HD.out.opcells
  clear HM ha
  refine start_ (n := 15) (S := fun w' => w'.cell? ⟨a, 0, none⟩ = some (.int .i64 3) ∧ w'.cell? ⟨a, 1, none⟩ = some (.int .i64 n) ∧ w'.cell? ⟨a, 2, none⟩ = some (.string nm) ∧ w'.cell? ⟨a, 3, none⟩ = some (.string dst) ∧ w'.cell? ⟨a, 4, none⟩ = some v) (ds := []) #[false, false, false, false, false, false, false, false, false, false, false, false, false, false, false] (by kernel_rfl) rfl rfl hcd (fun hHeld => ?_)
  refine with_tabW does16T_tab does16T_bits (fun HT_ HW_ => ?_)
  generalize World.drew _ = w6 at HD hHeld ⊢
  clear hcd
  refine pure_ (i := 0) (N := (some 80)) (v := ?_) (a' := ?_) #[true, false, false, false, false, false, false, false, false, false, false, false, false, false, false] rfl rfl (any_of HT_.out (by kernel_rfl)) (fun _ _ _ h => h) (Or.inl ⟨by rfl, ?_⟩) ?_ ?_
  rotate_left
  · intro w'
    go_simp
    with_reducible rfl
  rotate_left
  · simp only [Act.put, List.setIfInBounds_toArray, List.set_cons_zero, List.set_cons_succ, i64_w, i32_w]
    rfl
  refine pure_ (i := 1) (N := (some 81)) (v := ?_) (a' := ?_) #[true, true, false, false, false, false, false, false, false, false, false, false, false, false, false] rfl rfl (any_of HT_.out (by kernel_rfl)) (fun _ _ _ h => h) (Or.inl ⟨by rfl, ?_⟩) ?_ ?_
  rotate_left
  · intro w'
    go_simp
    with_reducible rfl
  rotate_left
  · simp only [Act.put, List.setIfInBounds_toArray, List.set_cons_zero, List.set_cons_succ, i64_w, i32_w]
    rfl
  refine pure_ (i := 3) (N := (some 83)) (v := ?_) (a' := ?_) #[true, true, false, true, false, false, false, false, false, false, false, false, false, false, false] rfl rfl (any_of HT_.out (by kernel_rfl)) (fun _ _ _ h => h) (Or.inl ⟨by rfl, ?_⟩) ?_ ?_
  rotate_left
  · intro w'
    go_simp
    with_reducible rfl
  rotate_left
  · simp only [Act.put, List.setIfInBounds_toArray, List.set_cons_zero, List.set_cons_succ, i64_w, i32_w]
    rfl
  refine pure_ (i := 7) (N := (some 87)) (v := ?_) (a' := ?_) #[true, true, false, true, false, false, false, true, false, false, false, false, false, false, false] rfl rfl (any_of HT_.out (by kernel_rfl)) (fun _ _ _ h => h) (Or.inl ⟨by rfl, ?_⟩) ?_ ?_
  rotate_left
  · intro w'
    go_simp
    with_reducible rfl
  rotate_left
  · simp only [Act.put, List.setIfInBounds_toArray, List.set_cons_zero, List.set_cons_succ, i64_w, i32_w]
    rfl
  refine pure_ (i := 8) (N := (some 88)) (v := ?_) (a' := ?_) #[true, true, false, true, false, false, false, true, true, false, false, false, false, false, false] rfl rfl (any_of HT_.out (by kernel_rfl)) (fun _ _ _ h => h) (Or.inl ⟨by rfl, ?_⟩) ?_ ?_
  rotate_left
  · intro w'
    go_simp
    with_reducible rfl
  rotate_left
  · simp only [Act.put, List.setIfInBounds_toArray, List.set_cons_zero, List.set_cons_succ, i64_w, i32_w]
    rfl
  refine pure_ (i := 10) (N := (some 90)) (v := ?_) (a' := ?_) #[true, true, false, true, false, false, false, true, true, false, true, false, false, false, false] rfl rfl (any_of HT_.out (by kernel_rfl)) (fun _ _ _ h => h) (Or.inl ⟨by rfl, ?_⟩) ?_ ?_
  rotate_left
  · intro w'
    go_simp
    with_reducible rfl
  rotate_left
  · simp only [Act.put, List.setIfInBounds_toArray, List.set_cons_zero, List.set_cons_succ, i64_w, i32_w]
    rfl
  refine take_ (i := 2) (N := (some 82)) (v := ?_) (a' := ?_) #[true, true, true, true, false, false, false, true, true, false, true, false, false, false, false] rfl rfl (take_ofW HT_.out HW_.out (by kernel_rfl)) (fun _ _ _ h => h) (Or.inl ⟨by rfl, ?_⟩) hHeld ?_ ?_
  rotate_left
  · rintro w' ⟨s0, s1, s2, s3, s4⟩
    go_simp
    with_reducible rfl
  rotate_left
  · simp only [Act.put, List.setIfInBounds_toArray, List.set_cons_zero, List.set_cons_succ, i64_w, i32_w]
    rfl
  refine take_ (i := 4) (N := (some 84)) (v := ?_) (a' := ?_) #[true, true, true, true, true, false, false, true, true, false, true, false, false, false, false] rfl rfl (take_ofW HT_.out HW_.out (by kernel_rfl)) (fun _ _ _ h => h) (Or.inl ⟨by rfl, ?_⟩) hHeld ?_ ?_
  rotate_left
  · rintro w' ⟨s0, s1, s2, s3, s4⟩
    go_simp
    with_reducible rfl
  rotate_left
  · simp only [Act.put, List.setIfInBounds_toArray, List.set_cons_zero, List.set_cons_succ, i64_w, i32_w]
    rfl
  refine take_ (i := 9) (N := (some 89)) (v := ?_) (a' := ?_) #[true, true, true, true, true, false, false, true, true, true, true, false, false, false, false] rfl rfl (take_ofW HT_.out HW_.out (by kernel_rfl)) (fun _ _ _ h => h) (Or.inl ⟨by rfl, ?_⟩) hHeld ?_ ?_
  rotate_left
  · rintro w' ⟨s0, s1, s2, s3, s4⟩
    go_simp
    with_reducible rfl
  rotate_left
  · simp only [Act.put, List.setIfInBounds_toArray, List.set_cons_zero, List.set_cons_succ, i64_w, i32_w]
    rfl
  refine take_ (i := 11) (N := (some 91)) (v := ?_) (a' := ?_) #[true, true, true, true, true, false, false, true, true, true, true, true, false, false, false] rfl rfl (take_ofW HT_.out HW_.out (by kernel_rfl)) (fun _ _ _ h => h) (Or.inl ⟨by rfl, ?_⟩) hHeld ?_ ?_
  rotate_left
  · rintro w' ⟨s0, s1, s2, s3, s4⟩
    go_simp
    with_reducible rfl
  rotate_left
  · simp only [Act.put, List.setIfInBounds_toArray, List.set_cons_zero, List.set_cons_succ, i64_w, i32_w]
    rfl
  refine one_ (i := 5) (N := (some 85)) #[true, true, true, true, true, true, false, true, true, true, true, true, false, false, false] rfl rfl (one_of HT_.out (by kernel_rfl)) (by decide) (fun K hK => ?_)
  refine goes_ Try.func44 (by kernel_rfl) rfl #[ptr p, .string nm, .int .i64 n] (by rfl) rfl rfl (by (try simp only [List.map_toArray, List.map_cons, List.map_nil]); rfl) ?_
  with_reducible refine (m_cut (i := 1) (by exact HD.out) (by with_unfolding_all rfl) nm n (by exact HN.out)).mono ?_
  rw [HR.out]
  rintro e w7 ⟨rfl, h7⟩
  refine ⟨_, rfl, ?_⟩
  have H7 := Lib.hid h7
  have g7 := H7.out.opcells
  clear h7
  refine hK.out _ _ g7 (fun hHeld => ?_)
  clear hK K
  refine norm_ (a' := ?_) ?_ ?_
  rotate_left
  · show Act.put _ (some 85) _ = _
    simp only [Act.put, List.setIfInBounds_toArray, List.set_cons_zero, List.set_cons_succ, i64_w, i32_w]
    rfl
  refine one_ (i := 6) (N := (some 86)) #[true, true, true, true, true, true, true, true, true, true, true, true, false, false, false] rfl rfl (one_of HT_.out (by kernel_rfl)) (by decide) (fun K hK => ?_)
  refine goes_ Try.func11 (by kernel_rfl) rfl #[.int .i64 r.1] (by rfl) rfl rfl (by (try simp only [List.map_toArray, List.map_cons, List.map_nil]); rfl) ?_
  with_reducible refine (num_calls _ _).mono ?_
  rintro e w8 ⟨rfl, rfl⟩
  refine ⟨_, rfl, ?_⟩
  refine hK.out _ _ g7 (fun hHeld => ?_)
  clear hK K
  refine norm_ (a' := ?_) ?_ ?_
  rotate_left
  · show Act.put _ (some 86) _ = _
    simp only [Act.put, List.setIfInBounds_toArray, List.set_cons_zero, List.set_cons_succ, i64_w, i32_w]
    rfl
  refine one_ (i := 12) (N := (some 92)) #[true, true, true, true, true, true, true, true, true, true, true, true, true, false, false] rfl rfl (one_of HT_.out (by kernel_rfl)) (by decide) (fun K hK => ?_)
  refine goes_ Try.func51 (by kernel_rfl) rfl #[ptr q, .string nm, .int .i64 n] (by rfl) rfl rfl (by (try simp only [List.map_toArray, List.map_cons, List.map_nil]); rfl) ?_
  with_reducible refine (mr_cut (i := 2) (by exact H7.out) (by with_unfolding_all rfl) nm n).mono ?_
  rw [HR.out]
  rintro e w9 ⟨rfl, h9⟩
  refine ⟨_, rfl, ?_⟩
  have H9 := Lib.hid h9
  have g9 := H9.out.opcells
  clear h9
  refine hK.out _ _ g9 (fun hHeld => ?_)
  clear hK K
  refine norm_ (a' := ?_) ?_ ?_
  rotate_left
  · show Act.put _ (some 92) _ = _
    simp only [Act.put, List.setIfInBounds_toArray, List.set_cons_zero, List.set_cons_succ, i64_w, i32_w]
    rfl
  refine pure_ (i := 13) (N := (some 93)) (v := ?_) (a' := ?_) #[true, true, true, true, true, true, true, true, true, true, true, true, true, true, false] rfl rfl (any_of HT_.out (by kernel_rfl)) (fun _ _ _ h => h) (Or.inl ⟨by rfl, ?_⟩) ?_ ?_
  rotate_left
  · intro w'
    go_simp
    with_reducible rfl
  rotate_left
  · simp only [Act.put, List.setIfInBounds_toArray, List.set_cons_zero, List.set_cons_succ, i64_w, i32_w]
    rfl
  refine pure_ (i := 14) (N := (some 6)) (v := ?_) (a' := ?_) #[true, true, true, true, true, true, true, true, true, true, true, true, true, true, true] rfl rfl (any_of HT_.out (by kernel_rfl)) (fun _ _ _ h => h) (Or.inl ⟨by rfl, ?_⟩) ?_ ?_
  rotate_left
  · intro w'
    go_simp
    with_reducible rfl
  rotate_left
  · simp only [Act.put, List.setIfInBounds_toArray, List.set_cons_zero, List.set_cons_succ, i64_w, i32_w]
    rfl
  refine done_ (done_of HT_.out (by kernel_rfl)) ?_
  clear g7 g9 hHeld
  go_wp2
  go_ret
  exact ⟨by simp, H9.out.tail⟩
set_option maxHeartbeats 2000000 in
set_option maxRecDepth 100000 in
theorem does_rename (hM : Many B w0 w (DISK p d :: REF q d :: D)) (n : Int) (nm dst : ByteArray) (v : Value) (hnm : nm.size ≤ 140737488351232) (hto : dst.size ≤ 140737488351232) :
    Calls Try.prog 27 #[ptr p, ptr q, .agg #[.int .i64 4, .int .i64 n, .string nm, .string dst, v]] w (DoesPost B w0 D p q (d.rename nm dst).2) := by
  have HM := Lib.hid (hM.newbox #[.int .i64 4, .int .i64 n, .string nm, .string dst, v] 52)
  obtain ⟨x0, x1, x2, x3, x4⟩ := HM.out.opcells
  have HN := Lib.hid hnm
  have HT := Lib.hid hto
  obtain ⟨r, hr⟩ : ∃ r, d.rename nm dst = r := ⟨_, rfl⟩
  rw [hr]
  have HR := Lib.hid hr
  clear hr hM hnm hto
  go_enter Try.func27, Try.ntmps27
  go_upto_region 18 with fail
  clear x0 x1 x2 x3 x4
  obtain ⟨a, ha⟩ : ∃ a, a = w.heap.size := ⟨_, rfl⟩
  rw [← ha] at HM ⊢
  have HD := Lib.hid (HM.out.read (below_drew (Below.refl _ _)))
  have hcd := HD.out.opcells
  clear HM ha
  refine start_ (n := 15) (S := fun w' => w'.cell? ⟨a, 0, none⟩ = some (.int .i64 4) ∧ w'.cell? ⟨a, 1, none⟩ = some (.int .i64 n) ∧ w'.cell? ⟨a, 2, none⟩ = some (.string nm) ∧ w'.cell? ⟨a, 3, none⟩ = some (.string dst) ∧ w'.cell? ⟨a, 4, none⟩ = some v) (ds := []) #[false, false, false, false, false, false, false, false, false, false, false, false, false, false, false] (by kernel_rfl) rfl rfl hcd (fun hHeld => ?_)
  refine with_tabW does18T_tab does18T_bits (fun HT_ HW_ => ?_)
  generalize World.drew _ = w6 at HD hHeld ⊢
  clear hcd
  refine pure_ (i := 0) (N := (some 96)) (v := ?_) (a' := ?_) #[true, false, false, false, false, false, false, false, false, false, false, false, false, false, false] rfl rfl (any_of HT_.out (by kernel_rfl)) (fun _ _ _ h => h) (Or.inl ⟨by rfl, ?_⟩) ?_ ?_
  rotate_left
  · intro w'
    go_simp
    with_reducible rfl
  rotate_left
  · simp only [Act.put, List.setIfInBounds_toArray, List.set_cons_zero, List.set_cons_succ, i64_w, i32_w]
    rfl
  refine pure_ (i := 1) (N := (some 97)) (v := ?_) (a' := ?_) #[true, true, false, false, false, false, false, false, false, false, false, false, false, false, false] rfl rfl (any_of HT_.out (by kernel_rfl)) (fun _ _ _ h => h) (Or.inl ⟨by rfl, ?_⟩) ?_ ?_
  rotate_left
  · intro w'
    go_simp
    with_reducible rfl
  rotate_left
  · simp only [Act.put, List.setIfInBounds_toArray, List.set_cons_zero, List.set_cons_succ, i64_w, i32_w]
    rfl
  refine pure_ (i := 3) (N := (some 99)) (v := ?_) (a' := ?_) #[true, true, false, true, false, false, false, false, false, false, false, false, false, false, false] rfl rfl (any_of HT_.out (by kernel_rfl)) (fun _ _ _ h => h) (Or.inl ⟨by rfl, ?_⟩) ?_ ?_
  rotate_left
  · intro w'
    go_simp
    with_reducible rfl
  rotate_left
  · simp only [Act.put, List.setIfInBounds_toArray, List.set_cons_zero, List.set_cons_succ, i64_w, i32_w]
    rfl
  refine pure_ (i := 7) (N := (some 103)) (v := ?_) (a' := ?_) #[true, true, false, true, false, false, false, true, false, false, false, false, false, false, false] rfl rfl (any_of HT_.out (by kernel_rfl)) (fun _ _ _ h => h) (Or.inl ⟨by rfl, ?_⟩) ?_ ?_
  rotate_left
  · intro w'
    go_simp
    with_reducible rfl
  rotate_left
  · simp only [Act.put, List.setIfInBounds_toArray, List.set_cons_zero, List.set_cons_succ, i64_w, i32_w]
    rfl
  refine pure_ (i := 8) (N := (some 104)) (v := ?_) (a' := ?_) #[true, true, false, true, false, false, false, true, true, false, false, false, false, false, false] rfl rfl (any_of HT_.out (by kernel_rfl)) (fun _ _ _ h => h) (Or.inl ⟨by rfl, ?_⟩) ?_ ?_
  rotate_left
  · intro w'
    go_simp
    with_reducible rfl
  rotate_left
  · simp only [Act.put, List.setIfInBounds_toArray, List.set_cons_zero, List.set_cons_succ, i64_w, i32_w]
    rfl
  refine pure_ (i := 10) (N := (some 106)) (v := ?_) (a' := ?_) #[true, true, false, true, false, false, false, true, true, false, true, false, false, false, false] rfl rfl (any_of HT_.out (by kernel_rfl)) (fun _ _ _ h => h) (Or.inl ⟨by rfl, ?_⟩) ?_ ?_
  rotate_left
  · intro w'
    go_simp
    with_reducible rfl
  rotate_left
  · simp only [Act.put, List.setIfInBounds_toArray, List.set_cons_zero, List.set_cons_succ, i64_w, i32_w]
    rfl
  refine take_ (i := 2) (N := (some 98)) (v := ?_) (a' := ?_) #[true, true, true, true, false, false, false, true, true, false, true, false, false, false, false] rfl rfl (take_ofW HT_.out HW_.out (by kernel_rfl)) (fun _ _ _ h => h) (Or.inl ⟨by rfl, ?_⟩) hHeld ?_ ?_
  rotate_left
  · rintro w' ⟨s0, s1, s2, s3, s4⟩
    go_simp
    with_reducible rfl
  rotate_left
  · simp only [Act.put, List.setIfInBounds_toArray, List.set_cons_zero, List.set_cons_succ, i64_w, i32_w]
    rfl
  refine take_ (i := 4) (N := (some 100)) (v := ?_) (a' := ?_) #[true, true, true, true, true, false, false, true, true, false, true, false, false, false, false] rfl rfl (take_ofW HT_.out HW_.out (by kernel_rfl)) (fun _ _ _ h => h) (Or.inl ⟨by rfl, ?_⟩) hHeld ?_ ?_
  rotate_left
  · rintro w' ⟨s0, s1, s2, s3, s4⟩
    go_simp
    with_reducible rfl
  rotate_left
  · simp only [Act.put, List.setIfInBounds_toArray, List.set_cons_zero, List.set_cons_succ, i64_w, i32_w]
    rfl
  refine take_ (i := 9) (N := (some 105)) (v := ?_) (a' := ?_) #[true, true, true, true, true, false, false, true, true, true, true, false, false, false, false] rfl rfl (take_ofW HT_.out HW_.out (by kernel_rfl)) (fun _ _ _ h => h) (Or.inl ⟨by rfl, ?_⟩) hHeld ?_ ?_
  rotate_left
  · rintro w' ⟨s0, s1, s2, s3, s4⟩
    go_simp
    with_reducible rfl
  rotate_left
  · simp only [Act.put, List.setIfInBounds_toArray, List.set_cons_zero, List.set_cons_succ, i64_w, i32_w]
    rfl
  refine take_ (i := 11) (N := (some 107)) (v := ?_) (a' := ?_) #[true, true, true, true, true, false, false, true, true, true, true, true, false, false, false] rfl rfl (take_ofW HT_.out HW_.out (by kernel_rfl)) (fun _ _ _ h => h) (Or.inl ⟨by rfl, ?_⟩) hHeld ?_ ?_
  rotate_left
  · rintro w' ⟨s0, s1, s2, s3, s4⟩
    go_simp
    with_reducible rfl
  rotate_left
  · simp only [Act.put, List.setIfInBounds_toArray, List.set_cons_zero, List.set_cons_succ, i64_w, i32_w]
    rfl
  refine one_ (i := 5) (N := (some 101)) #[true, true, true, true, true, true, false, true, true, true, true, true, false, false, false] rfl rfl (one_of HT_.out (by kernel_rfl)) (by decide) (fun K hK => ?_)
  refine goes_ Try.func45 (by kernel_rfl) rfl #[ptr p, .string nm, .string dst] (by rfl) rfl rfl (by (try simp only [List.map_toArray, List.map_cons, List.map_nil]); rfl) ?_
  with_reducible refine (m_rename (i := 1) (by exact HD.out) (by with_unfolding_all rfl) nm dst (by exact HN.out) (by exact HT.out)).mono ?_
  rw [HR.out]
  rintro e w7 ⟨rfl, h7⟩
  refine ⟨_, rfl, ?_⟩
  have H7 := Lib.hid h7
  have g7 := H7.out.opcells
  clear h7
  refine hK.out _ _ g7 (fun hHeld => ?_)
  clear hK K
  refine norm_ (a' := ?_) ?_ ?_
  rotate_left
  · show Act.put _ (some 101) _ = _
    simp only [Act.put, List.setIfInBounds_toArray, List.set_cons_zero, List.set_cons_succ, i64_w, i32_w]
    rfl
  refine one_ (i := 6) (N := (some 102)) #[true, true, true, true, true, true, true, true, true, true, true, true, false, false, false] rfl rfl (one_of HT_.out (by kernel_rfl)) (by decide) (fun K hK => ?_)
  refine goes_ Try.func11 (by kernel_rfl) rfl #[.int .i64 r.1] (by rfl) rfl rfl (by (try simp only [List.map_toArray, List.map_cons, List.map_nil]); rfl) ?_
  with_reducible refine (num_calls _ _).mono ?_
  rintro e w8 ⟨rfl, rfl⟩
  refine ⟨_, rfl, ?_⟩
  refine hK.out _ _ g7 (fun hHeld => ?_)
  clear hK K
  refine norm_ (a' := ?_) ?_ ?_
  rotate_left
  · show Act.put _ (some 102) _ = _
    simp only [Act.put, List.setIfInBounds_toArray, List.set_cons_zero, List.set_cons_succ, i64_w, i32_w]
    rfl
  refine one_ (i := 12) (N := (some 108)) #[true, true, true, true, true, true, true, true, true, true, true, true, true, false, false] rfl rfl (one_of HT_.out (by kernel_rfl)) (by decide) (fun K hK => ?_)
  refine goes_ Try.func52 (by kernel_rfl) rfl #[ptr q, .string nm, .string dst] (by rfl) rfl rfl (by (try simp only [List.map_toArray, List.map_cons, List.map_nil]); rfl) ?_
  with_reducible refine (mr_rename (i := 2) (by exact H7.out) (by with_unfolding_all rfl) nm dst (by exact HT.out)).mono ?_
  rw [HR.out]
  rintro e w9 ⟨rfl, h9⟩
  refine ⟨_, rfl, ?_⟩
  have H9 := Lib.hid h9
  have g9 := H9.out.opcells
  clear h9
  refine hK.out _ _ g9 (fun hHeld => ?_)
  clear hK K
  refine norm_ (a' := ?_) ?_ ?_
  rotate_left
  · show Act.put _ (some 108) _ = _
    simp only [Act.put, List.setIfInBounds_toArray, List.set_cons_zero, List.set_cons_succ, i64_w, i32_w]
    rfl
  refine pure_ (i := 13) (N := (some 109)) (v := ?_) (a' := ?_) #[true, true, true, true, true, true, true, true, true, true, true, true, true, true, false] rfl rfl (any_of HT_.out (by kernel_rfl)) (fun _ _ _ h => h) (Or.inl ⟨by rfl, ?_⟩) ?_ ?_
  rotate_left
  · intro w'
    go_simp
    with_reducible rfl
  rotate_left
  · simp only [Act.put, List.setIfInBounds_toArray, List.set_cons_zero, List.set_cons_succ, i64_w, i32_w]
    rfl
  refine pure_ (i := 14) (N := (some 6)) (v := ?_) (a' := ?_) #[true, true, true, true, true, true, true, true, true, true, true, true, true, true, true] rfl rfl (any_of HT_.out (by kernel_rfl)) (fun _ _ _ h => h) (Or.inl ⟨by rfl, ?_⟩) ?_ ?_
  rotate_left
  · intro w'
    go_simp
    with_reducible rfl
  rotate_left
  · simp only [Act.put, List.setIfInBounds_toArray, List.set_cons_zero, List.set_cons_succ, i64_w, i32_w]
    rfl
  refine done_ (done_of HT_.out (by kernel_rfl)) ?_
  clear g7 g9 hHeld
  go_wp2
  go_ret
  exact ⟨by simp, H9.out.tail⟩
set_option maxHeartbeats 2000000 in
set_option maxRecDepth 100000 in
theorem does_remove (hM : Many B w0 w (DISK p d :: REF q d :: D)) (n : Int) (nm dst : ByteArray) (v : Value) (hnm : nm.size ≤ 140737488351232) (hto : dst.size ≤ 140737488351232) :
    Calls Try.prog 27 #[ptr p, ptr q, .agg #[.int .i64 5, .int .i64 n, .string nm, .string dst, v]] w (DoesPost B w0 D p q (d.remove nm).2) := by
  have HM := Lib.hid (hM.newbox #[.int .i64 5, .int .i64 n, .string nm, .string dst, v] 52)
  obtain ⟨x0, x1, x2, x3, x4⟩ := HM.out.opcells
  have HN := Lib.hid hnm
  have HT := Lib.hid hto
  obtain ⟨r, hr⟩ : ∃ r, d.remove nm = r := ⟨_, rfl⟩
  rw [hr]
  have HR := Lib.hid hr
  clear hr hM hnm hto
  go_enter Try.func27, Try.ntmps27
  go_upto_region 20 with fail
  clear x0 x1 x2 x3 x4
  obtain ⟨a, ha⟩ : ∃ a, a = w.heap.size := ⟨_, rfl⟩
  rw [← ha] at HM ⊢
  have HD := Lib.hid (HM.out.read (below_drew (Below.refl _ _)))
  have hcd := HD.out.opcells
  clear HM ha
  refine start_ (n := 11) (S := fun w' => w'.cell? ⟨a, 0, none⟩ = some (.int .i64 5) ∧ w'.cell? ⟨a, 1, none⟩ = some (.int .i64 n) ∧ w'.cell? ⟨a, 2, none⟩ = some (.string nm) ∧ w'.cell? ⟨a, 3, none⟩ = some (.string dst) ∧ w'.cell? ⟨a, 4, none⟩ = some v) (ds := []) #[false, false, false, false, false, false, false, false, false, false, false] (by kernel_rfl) rfl rfl hcd (fun hHeld => ?_)
  refine with_tabW does20T_tab does20T_bits (fun HT_ HW_ => ?_)
  generalize World.drew _ = w6 at HD hHeld ⊢
  clear hcd
  refine pure_ (i := 0) (N := (some 112)) (v := ?_) (a' := ?_) #[true, false, false, false, false, false, false, false, false, false, false] rfl rfl (any_of HT_.out (by kernel_rfl)) (fun _ _ _ h => h) (Or.inl ⟨by rfl, ?_⟩) ?_ ?_
  rotate_left
  · intro w'
    go_simp
    with_reducible rfl
  rotate_left
  · simp only [Act.put, List.setIfInBounds_toArray, List.set_cons_zero, List.set_cons_succ, i64_w, i32_w]
    rfl
  refine pure_ (i := 1) (N := (some 113)) (v := ?_) (a' := ?_) #[true, true, false, false, false, false, false, false, false, false, false] rfl rfl (any_of HT_.out (by kernel_rfl)) (fun _ _ _ h => h) (Or.inl ⟨by rfl, ?_⟩) ?_ ?_
  rotate_left
  · intro w'
    go_simp
    with_reducible rfl
  rotate_left
  · simp only [Act.put, List.setIfInBounds_toArray, List.set_cons_zero, List.set_cons_succ, i64_w, i32_w]
    rfl
  refine pure_ (i := 5) (N := (some 117)) (v := ?_) (a' := ?_) #[true, true, false, false, false, true, false, false, false, false, false] rfl rfl (any_of HT_.out (by kernel_rfl)) (fun _ _ _ h => h) (Or.inl ⟨by rfl, ?_⟩) ?_ ?_
  rotate_left
  · intro w'
    go_simp
    with_reducible rfl
  rotate_left
  · simp only [Act.put, List.setIfInBounds_toArray, List.set_cons_zero, List.set_cons_succ, i64_w, i32_w]
    rfl
  refine pure_ (i := 6) (N := (some 118)) (v := ?_) (a' := ?_) #[true, true, false, false, false, true, true, false, false, false, false] rfl rfl (any_of HT_.out (by kernel_rfl)) (fun _ _ _ h => h) (Or.inl ⟨by rfl, ?_⟩) ?_ ?_
  rotate_left
  · intro w'
    go_simp
    with_reducible rfl
  rotate_left
  · simp only [Act.put, List.setIfInBounds_toArray, List.set_cons_zero, List.set_cons_succ, i64_w, i32_w]
    rfl
  refine take_ (i := 2) (N := (some 114)) (v := ?_) (a' := ?_) #[true, true, true, false, false, true, true, false, false, false, false] rfl rfl (take_ofW HT_.out HW_.out (by kernel_rfl)) (fun _ _ _ h => h) (Or.inl ⟨by rfl, ?_⟩) hHeld ?_ ?_
  rotate_left
  · rintro w' ⟨s0, s1, s2, s3, s4⟩
    go_simp
    with_reducible rfl
  rotate_left
  · simp only [Act.put, List.setIfInBounds_toArray, List.set_cons_zero, List.set_cons_succ, i64_w, i32_w]
    rfl
  refine take_ (i := 7) (N := (some 119)) (v := ?_) (a' := ?_) #[true, true, true, false, false, true, true, true, false, false, false] rfl rfl (take_ofW HT_.out HW_.out (by kernel_rfl)) (fun _ _ _ h => h) (Or.inl ⟨by rfl, ?_⟩) hHeld ?_ ?_
  rotate_left
  · rintro w' ⟨s0, s1, s2, s3, s4⟩
    go_simp
    with_reducible rfl
  rotate_left
  · simp only [Act.put, List.setIfInBounds_toArray, List.set_cons_zero, List.set_cons_succ, i64_w, i32_w]
    rfl
  refine one_ (i := 3) (N := (some 115)) #[true, true, true, true, false, true, true, true, false, false, false] rfl rfl (one_of HT_.out (by kernel_rfl)) (by decide) (fun K hK => ?_)
  refine goes_ Try.func46 (by kernel_rfl) rfl #[ptr p, .string nm] (by rfl) rfl rfl (by (try simp only [List.map_toArray, List.map_cons, List.map_nil]); rfl) ?_
  with_reducible refine (m_remove (i := 1) (by exact HD.out) (by with_unfolding_all rfl) nm (by exact HN.out)).mono ?_
  rw [HR.out]
  rintro e w7 ⟨rfl, h7⟩
  refine ⟨_, rfl, ?_⟩
  have H7 := Lib.hid h7
  have g7 := H7.out.opcells
  clear h7
  refine hK.out _ _ g7 (fun hHeld => ?_)
  clear hK K
  refine norm_ (a' := ?_) ?_ ?_
  rotate_left
  · show Act.put _ (some 115) _ = _
    simp only [Act.put, List.setIfInBounds_toArray, List.set_cons_zero, List.set_cons_succ, i64_w, i32_w]
    rfl
  refine one_ (i := 4) (N := (some 116)) #[true, true, true, true, true, true, true, true, false, false, false] rfl rfl (one_of HT_.out (by kernel_rfl)) (by decide) (fun K hK => ?_)
  refine goes_ Try.func11 (by kernel_rfl) rfl #[.int .i64 r.1] (by rfl) rfl rfl (by (try simp only [List.map_toArray, List.map_cons, List.map_nil]); rfl) ?_
  with_reducible refine (num_calls _ _).mono ?_
  rintro e w8 ⟨rfl, rfl⟩
  refine ⟨_, rfl, ?_⟩
  refine hK.out _ _ g7 (fun hHeld => ?_)
  clear hK K
  refine norm_ (a' := ?_) ?_ ?_
  rotate_left
  · show Act.put _ (some 116) _ = _
    simp only [Act.put, List.setIfInBounds_toArray, List.set_cons_zero, List.set_cons_succ, i64_w, i32_w]
    rfl
  refine one_ (i := 8) (N := (some 120)) #[true, true, true, true, true, true, true, true, true, false, false] rfl rfl (one_of HT_.out (by kernel_rfl)) (by decide) (fun K hK => ?_)
  refine goes_ Try.func53 (by kernel_rfl) rfl #[ptr q, .string nm] (by rfl) rfl rfl (by (try simp only [List.map_toArray, List.map_cons, List.map_nil]); rfl) ?_
  with_reducible refine (mr_remove (i := 2) (by exact H7.out) (by with_unfolding_all rfl) nm).mono ?_
  rw [HR.out]
  rintro e w9 ⟨rfl, h9⟩
  refine ⟨_, rfl, ?_⟩
  have H9 := Lib.hid h9
  have g9 := H9.out.opcells
  clear h9
  refine hK.out _ _ g9 (fun hHeld => ?_)
  clear hK K
  refine norm_ (a' := ?_) ?_ ?_
  rotate_left
  · show Act.put _ (some 120) _ = _
    simp only [Act.put, List.setIfInBounds_toArray, List.set_cons_zero, List.set_cons_succ, i64_w, i32_w]
    rfl
  refine pure_ (i := 9) (N := (some 121)) (v := ?_) (a' := ?_) #[true, true, true, true, true, true, true, true, true, true, false] rfl rfl (any_of HT_.out (by kernel_rfl)) (fun _ _ _ h => h) (Or.inl ⟨by rfl, ?_⟩) ?_ ?_
  rotate_left
  · intro w'
    go_simp
    with_reducible rfl
  rotate_left
  · simp only [Act.put, List.setIfInBounds_toArray, List.set_cons_zero, List.set_cons_succ, i64_w, i32_w]
    rfl
  refine pure_ (i := 10) (N := (some 6)) (v := ?_) (a' := ?_) #[true, true, true, true, true, true, true, true, true, true, true] rfl rfl (any_of HT_.out (by kernel_rfl)) (fun _ _ _ h => h) (Or.inl ⟨by rfl, ?_⟩) ?_ ?_
  rotate_left
  · intro w'
    go_simp
    with_reducible rfl
  rotate_left
  · simp only [Act.put, List.setIfInBounds_toArray, List.set_cons_zero, List.set_cons_succ, i64_w, i32_w]
    rfl
  refine done_ (done_of HT_.out (by kernel_rfl)) ?_
  clear g7 g9 hHeld
  go_wp2
  go_ret
  exact ⟨by simp, H9.out.tail⟩
end
end Go.Proofs.Ytflajlnknimjaaa.Dk

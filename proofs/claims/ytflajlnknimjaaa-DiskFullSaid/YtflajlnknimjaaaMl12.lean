/- Merged: RfE, RfF. -/
import Derived.Test.YtflajlnknimjaaaMl11
set_option linter.unusedVariables false
set_option linter.unusedSimpArgs false
/- An operation told a disk and the reference's: Append, Arm, Crash, what is asked. -/
namespace Go.Proofs.Ytflajlnknimjaaa.Dk
open Go.RowKit Go.Maps Go.Proofs.YtflajlnknimjaaaW.PrintWords Go.Proofs.YtflajlnknimjaaaW.PrintMore Go.Proofs.YtflajlnknimjaaaW.PrintLast Go.Proofs.Ytflajlnknimjaaa.Syn Go.Proofs.Ytflajlnknimjaaa.PDiskLoads
set_option linter.unusedVariables false
set_option linter.unusedSimpArgs false
attribute [local go_sem] max2_int min2_int max_two min_two

def does12T : Bool × List (List Nat × List Nat) := (true, [([], []), ([0], [0]), ([], []), ([], []), ([3], [3]), ([], []), ([5], [5]), ([2, 4, 6, 1], [2, 4, 6]), ([1, 7], [1, 7]), ([8, 7], [8]), ([9], [9]), ([9, 10], [9, 10]), ([11, 9, 0, 1, 2, 3, 4, 5, 6, 7, 8, 9, 10, 11], [11])])
def does12TB : List Nat := [0, 1, 0, 0, 8, 0, 32, 127, 255, 511, 1023, 2047, 4095]
theorem does12T_tab : rtab .any (opsOf Try.f27 12) = does12T := by kernel_rfl
theorem does12T_bits : waitsOk does12T.2 does12TB = true := by kernel_rfl
section
variable {B i : Nat} {w0 w : World} {D : List Thing} {t : Thing} {p q : Nat} {d : St}
theorem set_same {l : List Thing} (h : l[i]? = some t) : l.set i t = l := by
  obtain ⟨hl, hv⟩ := List.getElem?_eq_some_iff.1 h
  rw [← hv, List.set_getElem_self]
theorem Gr_self {F : Nat → Prop} {w : World} : Gr F w w = F := by
  funext k
  exact propext ⟨fun h => h.elim id (fun h => by omega), .inl⟩
/-- A thing is another thing too. -/
theorem Many.as (h : Many B w0 w D) (hi : D[i]? = some t) {u : Thing} (hu : ∀ F, t.P w F → u.P w F) : Many B w0 w (D.set i u) := by
  obtain ⟨F, hd, hF, _, hst⟩ := h.get hi
  exact hst (w' := w) (Chg.refl _ _) (by rw [Gr_self]; exact hu F hd)
theorem Many.opc {a : Nat} {k n : Int} {nm dst : ByteArray} {v : Value} (h : Many B w0 w D) (hi : D[i]? = some (BOX a #[.int .i64 k, .int .i64 n, .string nm, .string dst, v] 52)) : OpCells w a k n nm dst v := by
  have b := h.box hi
  have b0 := sb_cell b 0
  have b1 := sb_cell b 1
  have b2 := sb_cell b 2
  have b3 := sb_cell b 3
  have b4 := sb_cell b 4
  simp at b0 b1 b2 b3 b4
  exact ⟨b0, b1, b2, b3, b4⟩
theorem Many.lent {g c : Nat} {ys : List Int} (h : Many B w0 w D) (hi : D[i]? = some (LENT g c ys)) : ∃ F, LentAt w F g c ys := by
  obtain ⟨F, hd, _⟩ := h.get hi
  exact ⟨F, hd⟩
theorem Many.lentbuf {g c : Nat} {ys : List Int} (h : Many B w0 w D) (hi : D[i]? = some (LENT g c ys)) : Many B w0 w (D.set i (BUF (some ⟨g, 0, none⟩) ys.length)) :=
  h.as hi fun F ⟨h0, cur, h1, h2, h3, _⟩ => .inr ⟨g, cur, rfl, h0, h1, by omega⟩
theorem Many.bytes {v : Value} {l : List Int} (h : Many B w0 w D) (hi : D[i]? = some (BYTES v l)) : ∃ A c, v = .slice A l.length c ∧ l.length ≤ c ∧ (Kd.int .u8).C w A l.length l ∧ Many B w0 w (D.set i (BUF A l.length)) := by
  obtain ⟨F, hd, _⟩ := h.get hi
  obtain ⟨A, c, rfl, h1, h2⟩ := Kd.R_reads hd
  refine ⟨A, c, rfl, h1, h2, h.as hi fun F hR => ?_⟩
  obtain ⟨_, ho⟩ := Kd.own_of_R hR
  rcases ho with ⟨_, h0⟩ | ⟨g, cap, cur, he, hbg, hblk, hcap, hcm, hcs, htk⟩
  · exact .inl h0
  · injection he with e1 e2 e3
    subst e1
    subst e3
    have hF : F g := hR.1 g rfl
    have e : cur.size = c := by simpa using hcs
    refine .inr ⟨g, cur, rfl, hF, hblk, by omega⟩
theorem Many.bufset {A : Option Addr} {n k : Nat} (h : Many B w0 w D) (hi : D[i]? = some (BUF A n)) (hk : k < n) : ∃ g u, A = some ⟨g, 0, none⟩ ∧ w.cell? ⟨g, k, none⟩ = some u ∧ w.frozen? ⟨g, k, none⟩ = false ∧ ∀ v, Many B w0 (w.setCell ⟨g, k, none⟩ v) D := by
  obtain ⟨F, hd, hF, _, hst⟩ := h.get hi
  rcases hd with h0 | ⟨g, cur, rfl, hFg, hb, hn⟩
  · omega
  · have hk2 : k < cur.size := by omega
    refine ⟨g, cur[k], rfl, by rw [sb_cell hb]; simp [hk2], sb_free hb k, fun v => ?_⟩
    have hc : Chg F w (w.setCell ⟨g, k, none⟩ v) := Chg.setCell w (p := ⟨g, k, none⟩) hFg v
    have := hst (t' := BUF (some ⟨g, 0, none⟩) n) hc (.inr ⟨g, _, rfl, .inl hFg, sb_set hb k v, by simpa using hn⟩)
    rwa [set_same hi] at this
theorem src_lent {j g c : Nat} {ys : List Int} (hj : j ≠ i) (h : D[j]? = some (LENT g c ys)) (F : Nat → Prop) (hF : ∀ k, F k → B ≤ k) (hO : ∀ (j : Nat) (u : Thing), j ≠ i → D[j]? = some u → ∃ G : Nat → Prop, u.P w G ∧ ∀ k, G k → k < w.heap.size ∧ ¬ F k) : Src F w (some ⟨g, 0, none⟩) ys := by
  obtain ⟨G, h1, h2⟩ := hO j _ hj h
  intro W hc
  have h3 : LentAt W G g c ys := (LENT g c ys).stay (fun k hk => (h2 k hk).1) hc.size (fun k hk => hc.block k (h2 k hk).1 (h2 k hk).2) h1
  exact h3.reads
theorem read_has (d : St) (nm : ByteArray) : (look Fl.nm nm d.fs).isSome = decide ((d.read nm).2 = 0) := by
  unfold St.read
  cases look Fl.nm nm d.fs <;> rfl
theorem read_len (ok : d.Ok) (nm : ByteArray) : (d.read nm).1.length ≤ 1099511627776 := by
  unfold St.read
  cases h : look Fl.nm nm d.fs with
  | none => simp
  | some f =>
    have hm : f ∈ d.fs := List.mem_of_find?_eq_some h
    exact (files_len ok).2 ⟨f.nm, f.dat, f.syn⟩ (List.mem_map.2 ⟨f, hm, rfl⟩)
/-- An operation's bytes are read in a world that has what was there. -/
abbrev OldBytes (B : Nat) (w0 : World) (A : Option Addr) (ys : List Int) : Prop := ∀ W, Below B w0 W → (Kd.int .u8).C W A ys.length ys
set_option maxHeartbeats 4000000 in
set_option maxRecDepth 100000 in
theorem does_append (hM : Many B w0 w (DISK p d :: REF q d :: D)) (n : Int) (nm dst : ByteArray) (A : Option Addr) (c : Nat) (ys : List Int) (hnm : nm.size ≤ 140737488351232) (hy : ys.length ≤ 140737488351232) (hc : ys.length ≤ c) (hs : OldBytes B w0 A ys) :
    Calls Try.prog 27 #[ptr p, ptr q, .agg #[.int .i64 1, .int .i64 n, .string nm, .string dst, .slice A ys.length c]] w (DoesPost B w0 D p q (d.append nm ys).2) := by
  have HM := Lib.hid (hM.newbox #[.int .i64 1, .int .i64 n, .string nm, .string dst, .slice A ys.length c] 52)
  obtain ⟨x0, x1, x2, x3, x4⟩ := HM.out.opcells
  have HN := Lib.hid hnm
  have HC := Lib.hid hc
  have HY := Lib.hid hy
  have HS := Lib.hid hs
  have hyl : (ys.length : Int) ≤ 140737488351232 := by omega
  obtain ⟨r, hr⟩ : ∃ r, d.append nm ys = r := ⟨_, rfl⟩
  rw [hr]
  have HR := Lib.hid hr
  clear hr hM hnm hy hc hs
  obtain ⟨W, hW⟩ : ∃ W, W = w.alloc (.cells #[.int .i64 1, .int .i64 n, .string nm, .string dst, .slice A ys.length c] 52) := ⟨_, rfl⟩
  go_enter Try.func27, Try.ntmps27
  go_upto_region 5 with fail
  rw [← hW] at HM x0 x1 x2 x3 x4 ⊢
  obtain ⟨a, ha⟩ : ∃ a, a = w.heap.size := ⟨_, rfl⟩
  rw [← ha] at HM x0 x1 x2 x3 x4 ⊢
  clear ha hW
  go_upto_region 6 with (go_at_call 48; go_must ((with_reducible refine (lent_calls A c ys _ (by exact HS.out _ HM.out.below) (by exact HC.out) (by exact HY.out)).mono ?_); rintro e w5 ⟨g, c', rfl, h5, hb5⟩; have H5 := Lib.hid (HM.out.add (t := LENT g c' ys) hb5 h5).front; clear h5 hb5))
  clear x0 x1 x2 x3 x4
  obtain ⟨x0, x1, x2, x3, x4⟩ := H5.out.opc (i := 1) rfl
  have hcc : Hid (ys.length ≤ c') := Lib.hid (by obtain ⟨F, h⟩ := H5.out.lent (i := 0) rfl; have := h.2; obtain ⟨_, _, h1, _⟩ := this; omega)
  go_upto_region 7 with (go_at_call 14; with_reducible refine (m_append (i := 2) (by exact H5.out) (by with_unfolding_all rfl) nm (by exact HN.out) (some ⟨g, 0, none⟩) c' ys (fun F hF hO => src_lent (j := 0) (by decide) (by with_unfolding_all rfl) F hF hO) (by have := HY.out; omega) (by exact hcc.out)).mono ?_; rw [HR.out]; rintro e w6 ⟨rfl, h6⟩; have H6 := Lib.hid h6; clear h6)
  clear x0 x1 x2 x3 x4
  obtain ⟨x0, x1, x2, x3, x4⟩ := H6.out.opc (i := 1) rfl
  obtain ⟨F, hlen⟩ := H6.out.lent (i := 0) rfl
  have HL := Lib.hid hlen
  clear hlen
  go_upto_region 8 with (go_at_call 49; (with_reducible refine (kept_calls (by exact HL.out) (by exact HS.out _ H6.out.below) (by exact HC.out) (by exact HY.out)).mono ?_); rintro e w7 ⟨rfl, hb7⟩; have H7 := Lib.hid ((H6.out.read hb7).lentbuf (i := 0) rfl); clear hb7)
  clear x0 x1 x2 x3 x4
  go_upto_region 9 with fail
  go_loopw [10] (fun v10 wr => ∃ k : Nat, k ≤ ys.length ∧ v10 = .int .i64 k ∧ Hid (Many B w0 wr (BUF (some ⟨g, 0, none⟩) ys.length :: BOX a #[.int .i64 1, .int .i64 n, .string nm, .string dst, .slice A ys.length c] 52 :: DISK p r.2 :: REF q d :: D))) (fun v10 _ => ys.length - (intOf v10).toNat)
  case atStart => exact ⟨0, Nat.zero_le _, rfl, H7⟩
  case round =>
    obtain ⟨k, hk, rfl, HW⟩ := hrel
    by_cases hlt : k < ys.length
    · obtain ⟨g', u, e, hcell, hfr, hset⟩ := HW.out.bufset (i := 0) rfl hlt
      cases e
      have HSet := Lib.hid hset
      have hk2 : wrap64 ((k : Int) + 1) = (k : Int) + 1 := by unfold wrap64; omega
      clear hset
      go_wp2
      go_roundw
      case rel => exact ⟨k + 1, by omega, by first | rfl | (rw [hk2]; rfl), Lib.hid (HSet.out _)⟩
      case measure =>
        first
          | (show ys.length - ((k : Int) + 1).toNat < ys.length - (k : Int).toNat; omega)
          | (show ys.length - (intOf (.int .i64 (wrap64 ((k : Int) + 1)))).toNat < ys.length - (intOf (.int .i64 (k : Int))).toNat; rw [hk2]; show ys.length - ((k : Int) + 1).toNat < ys.length - (k : Int).toNat; omega)
    · have hkn : k = ys.length := by omega
      subst hkn
      clear H5 H6 H7 HL
      go_upto_region 12 with fail
      have HD := Lib.hid (HW.out.tail.read (below_drew (Below.refl _ _)))
      have hcd := HD.out.opcells
      clear HW
      refine start_ (n := 13) (S := fun w' => w'.cell? ⟨a, 0, none⟩ = some (.int .i64 1) ∧ w'.cell? ⟨a, 1, none⟩ = some (.int .i64 n) ∧ w'.cell? ⟨a, 2, none⟩ = some (.string nm) ∧ w'.cell? ⟨a, 3, none⟩ = some (.string dst) ∧ w'.cell? ⟨a, 4, none⟩ = some (.slice A ys.length c)) (ds := []) #[false, false, false, false, false, false, false, false, false, false, false, false, false] (by kernel_rfl) rfl rfl hcd (fun hHeld => ?_)
      refine with_tabW does12T_tab does12T_bits (fun HT_ HW_ => ?_)
      generalize World.drew _ = wd at HD hHeld ⊢
      clear hcd
      refine pure_ (i := 0) (N := (some 54)) (v := ?_) (a' := ?_) #[true, false, false, false, false, false, false, false, false, false, false, false, false] rfl rfl (any_of HT_.out (by kernel_rfl)) (fun _ _ _ h => h) (Or.inl ⟨by rfl, ?_⟩) ?_ ?_
      rotate_left
      · intro w'
        go_simp
        with_reducible rfl
      rotate_left
      · simp only [Act.put, List.setIfInBounds_toArray, List.set_cons_zero, List.set_cons_succ, i64_w, i32_w]
        rfl
      refine pure_ (i := 2) (N := (some 56)) (v := ?_) (a' := ?_) #[true, false, true, false, false, false, false, false, false, false, false, false, false] rfl rfl (any_of HT_.out (by kernel_rfl)) (fun _ _ _ h => h) (Or.inl ⟨by rfl, ?_⟩) ?_ ?_
      rotate_left
      · intro w'
        go_simp
        with_reducible rfl
      rotate_left
      · simp only [Act.put, List.setIfInBounds_toArray, List.set_cons_zero, List.set_cons_succ, i64_w, i32_w]
        rfl
      refine pure_ (i := 3) (N := (some 57)) (v := ?_) (a' := ?_) #[true, false, true, true, false, false, false, false, false, false, false, false, false] rfl rfl (any_of HT_.out (by kernel_rfl)) (fun _ _ _ h => h) (Or.inl ⟨by rfl, ?_⟩) ?_ ?_
      rotate_left
      · intro w'
        go_simp
        with_reducible rfl
      rotate_left
      · simp only [Act.put, List.setIfInBounds_toArray, List.set_cons_zero, List.set_cons_succ, i64_w, i32_w]
        rfl
      refine pure_ (i := 5) (N := (some 59)) (v := ?_) (a' := ?_) #[true, false, true, true, false, true, false, false, false, false, false, false, false] rfl rfl (any_of HT_.out (by kernel_rfl)) (fun _ _ _ h => h) (Or.inl ⟨by rfl, ?_⟩) ?_ ?_
      rotate_left
      · intro w'
        go_simp
        with_reducible rfl
      rotate_left
      · simp only [Act.put, List.setIfInBounds_toArray, List.set_cons_zero, List.set_cons_succ, i64_w, i32_w]
        rfl
      refine take_ (i := 4) (N := (some 58)) (v := ?_) (a' := ?_) #[true, false, true, true, true, true, false, false, false, false, false, false, false] rfl rfl (take_ofW HT_.out HW_.out (by kernel_rfl)) (fun _ _ _ h => h) (Or.inl ⟨by rfl, ?_⟩) hHeld ?_ ?_
      rotate_left
      · rintro w' ⟨s0, s1, s2, s3, s4⟩
        go_simp
        with_reducible rfl
      rotate_left
      · simp only [Act.put, List.setIfInBounds_toArray, List.set_cons_zero, List.set_cons_succ, i64_w, i32_w]
        rfl
      refine take_ (i := 6) (N := (some 60)) (v := ?_) (a' := ?_) #[true, false, true, true, true, true, true, false, false, false, false, false, false] rfl rfl (take_ofW HT_.out HW_.out (by kernel_rfl)) (fun _ _ _ h => h) (Or.inl ⟨by rfl, ?_⟩) hHeld ?_ ?_
      rotate_left
      · rintro w' ⟨s0, s1, s2, s3, s4⟩
        go_simp
        with_reducible rfl
      rotate_left
      · simp only [Act.put, List.setIfInBounds_toArray, List.set_cons_zero, List.set_cons_succ, i64_w, i32_w]
        rfl
      refine one_ (i := 1) (N := (some 55)) #[true, true, true, true, true, true, true, false, false, false, false, false, false] rfl rfl (one_of HT_.out (by kernel_rfl)) (by decide) (fun K hK => ?_)
      refine goes_ Try.func11 (by kernel_rfl) rfl #[.int .i64 r.1] (by rfl) rfl rfl (by (try simp only [List.map_toArray, List.map_cons, List.map_nil]); rfl) ?_
      with_reducible refine (num_calls _ _).mono ?_
      rintro e w8 ⟨rfl, rfl⟩
      refine ⟨_, rfl, ?_⟩
      refine hK.out _ _ hHeld (fun hHeld => ?_)
      clear hK K
      refine norm_ (a' := ?_) ?_ ?_
      rotate_left
      · show Act.put _ (some 55) _ = _
        simp only [Act.put, List.setIfInBounds_toArray, List.set_cons_zero, List.set_cons_succ, i64_w, i32_w]
        rfl
      refine one_ (i := 7) (N := (some 61)) #[true, true, true, true, true, true, true, true, false, false, false, false, false] rfl rfl (one_of HT_.out (by kernel_rfl)) (by decide) (fun K hK => ?_)
      refine goes_ Try.func15 (by kernel_rfl) rfl #[ptr q, .string nm, .slice A ys.length c] (by rfl) rfl rfl (by (try simp only [List.map_toArray, List.map_cons, List.map_nil]); rfl) ?_
      with_reducible refine (mr_append (i := 2) (by exact HD.out) (by with_unfolding_all rfl) nm A c ys (fun F hF _ => src_old HD.out HS.out F hF) (by have := HY.out; omega) (by exact HC.out)).mono ?_
      rw [HR.out]
      rintro e w9 ⟨rfl, h9⟩
      refine ⟨_, rfl, ?_⟩
      have H9 := Lib.hid h9
      have g9 := H9.out.opcells
      clear h9
      refine hK.out _ _ g9 (fun hHeld => ?_)
      clear hK K
      refine norm_ (a' := ?_) ?_ ?_
      rotate_left
      · show Act.put _ (some 61) _ = _
        simp only [Act.put, List.setIfInBounds_toArray, List.set_cons_zero, List.set_cons_succ, i64_w, i32_w]
        rfl
      refine pure_ (i := 8) (N := (some 62)) (v := ?_) (a' := ?_) #[true, true, true, true, true, true, true, true, true, false, false, false, false] rfl rfl (any_of HT_.out (by kernel_rfl)) (fun _ _ _ h => h) (Or.inl ⟨by rfl, ?_⟩) ?_ ?_
      rotate_left
      · intro w'
        go_simp
        with_reducible rfl
      rotate_left
      · simp only [Act.put, List.setIfInBounds_toArray, List.set_cons_zero, List.set_cons_succ, i64_w, i32_w]
        rfl
      refine pure_ (i := 9) (N := (some 63)) (v := ?_) (a' := ?_) #[true, true, true, true, true, true, true, true, true, true, false, false, false] rfl rfl (any_of HT_.out (by kernel_rfl)) (fun _ _ _ h => h) (Or.inl ⟨by rfl, ?_⟩) ?_ ?_
      rotate_left
      · intro w'
        go_simp
        with_reducible rfl
      rotate_left
      · simp only [Act.put, List.setIfInBounds_toArray, List.set_cons_zero, List.set_cons_succ, i64_w, i32_w]
        rfl
      refine pure_ (i := 10) (N := (some 64)) (v := ?_) (a' := ?_) #[true, true, true, true, true, true, true, true, true, true, true, false, false] rfl rfl (any_of HT_.out (by kernel_rfl)) (fun _ _ _ h => h) (Or.inl ⟨by rfl, ?_⟩) ?_ ?_
      rotate_left
      · intro w'
        go_simp
        with_reducible rfl
      rotate_left
      · simp only [Act.put, List.setIfInBounds_toArray, List.set_cons_zero, List.set_cons_succ, i64_w, i32_w]
        rfl
      refine pure_ (i := 11) (N := (some 65)) (v := ?_) (a' := ?_) #[true, true, true, true, true, true, true, true, true, true, true, true, false] rfl rfl (any_of HT_.out (by kernel_rfl)) (fun _ _ _ h => h) (Or.inl ⟨by rfl, ?_⟩) ?_ ?_
      rotate_left
      · intro w'
        go_simp
        with_reducible rfl
      rotate_left
      · simp only [Act.put, List.setIfInBounds_toArray, List.set_cons_zero, List.set_cons_succ, i64_w, i32_w]
        rfl
      refine pure_ (i := 12) (N := (some 6)) (v := ?_) (a' := ?_) #[true, true, true, true, true, true, true, true, true, true, true, true, true] rfl rfl (any_of HT_.out (by kernel_rfl)) (fun _ _ _ h => h) (Or.inl ⟨by rfl, ?_⟩) ?_ ?_
      rotate_left
      · intro w'
        go_simp
        with_reducible rfl
      rotate_left
      · simp only [Act.put, List.setIfInBounds_toArray, List.set_cons_zero, List.set_cons_succ, i64_w, i32_w]
        rfl
      refine done_ (done_of HT_.out (by kernel_rfl)) ?_
      clear g9 hHeld
      go_wp2
      go_ret
      exact ⟨by simp, H9.out.tail⟩

set_option maxHeartbeats 2000000 in
set_option maxRecDepth 100000 in
theorem does_arm (hM : Many B w0 w (DISK p d :: REF q d :: D)) (n : Int) (nm dst : ByteArray) (v : Value) (hn : n ≤ 9223372036854775807) :
    Calls Try.prog 27 #[ptr p, ptr q, .agg #[.int .i64 6, .int .i64 n, .string nm, .string dst, v]] w (DoesPost B w0 D p q (d.arm n)) := by
  have HN := Lib.hid hn
  clear hn
  have HM := Lib.hid (hM.newbox #[.int .i64 6, .int .i64 n, .string nm, .string dst, v] 52)
  obtain ⟨x0, x1, x2, x3, x4⟩ := HM.out.opcells
  obtain ⟨W, hW⟩ : ∃ W, W = w.alloc (.cells #[.int .i64 6, .int .i64 n, .string nm, .string dst, v] 52) := ⟨_, rfl⟩
  clear hM
  go_enter Try.func27, Try.ntmps27
  go_upto_region 22 with fail
  rw [← hW] at HM x0 x1 x2 x3 x4 ⊢
  obtain ⟨a, ha⟩ : ∃ a, a = w.heap.size := ⟨_, rfl⟩
  rw [← ha] at HM x0 x1 x2 x3 x4 ⊢
  clear ha hW
  go_upto_region 23 with (go_at_call 47; (with_reducible refine (m_arm (i := 1) (by exact HM.out) (by with_unfolding_all rfl) n (by exact HN.out)).mono ?_); rintro e w6 ⟨rfl, h6⟩; have H6 := Lib.hid h6; clear h6)
  clear x0 x1 x2 x3 x4
  obtain ⟨x0, x1, x2, x3, x4⟩ := H6.out.opc (i := 0) rfl
  obtain ⟨A1, c1, y, _, _⟩ := H6.out.rcells (i := 2) rfl
  have y1 := sb_cell y 1
  have f1 := sb_free y 1
  simp at y1
  clear y
  have HA := Lib.hid (fun x hx => mr_arm (i := 2) H6.out rfl n HN.out (x := x) hx)
  go_wp2
  all_goals
    go_ret
    refine ⟨rfl, ?_⟩
    exact (HA.out _ (by first | omega | (split <;> omega))).tail
set_option maxHeartbeats 2000000 in
set_option maxRecDepth 100000 in
theorem does_crash (hM : Many B w0 w (DISK p d :: REF q d :: D)) (n : Int) (nm dst : ByteArray) (v : Value) :
    Calls Try.prog 27 #[ptr p, ptr q, .agg #[.int .i64 7, .int .i64 n, .string nm, .string dst, v]] w (DoesPost B w0 D p q (d.crash n)) := by
  have HM := Lib.hid (hM.newbox #[.int .i64 7, .int .i64 n, .string nm, .string dst, v] 52)
  obtain ⟨x0, x1, x2, x3, x4⟩ := HM.out.opcells
  obtain ⟨W, hW⟩ : ∃ W, W = w.alloc (.cells #[.int .i64 7, .int .i64 n, .string nm, .string dst, v] 52) := ⟨_, rfl⟩
  clear hM
  go_enter Try.func27, Try.ntmps27
  go_upto_region 26 with fail
  rw [← hW] at HM x0 x1 x2 x3 x4 ⊢
  obtain ⟨a, ha⟩ : ∃ a, a = w.heap.size := ⟨_, rfl⟩
  rw [← ha] at HM x0 x1 x2 x3 x4 ⊢
  clear ha hW
  go_upto_region 27 with (go_at_call 22; (with_reducible refine (m_crash (i := 1) (by exact HM.out) (by with_unfolding_all rfl) n).mono ?_); rintro e w6 ⟨rfl, h6⟩; have H6 := Lib.hid h6; clear h6)
  clear x0 x1 x2 x3 x4
  obtain ⟨x0, x1, x2, x3, x4⟩ := H6.out.opc (i := 0) rfl
  go_wp2_with (go_at_call 54; (with_reducible refine (mr_crash (i := 2) (by exact H6.out) (by with_unfolding_all rfl) n).mono ?_); rintro e w7 ⟨rfl, h7⟩; have H7 := Lib.hid h7; clear h7)
  go_ret
  exact ⟨rfl, H7.out.tail⟩
set_option maxHeartbeats 4000000 in
set_option maxRecDepth 100000 in
theorem does_ask (hM : Many B w0 w (DISK p d :: REF q d :: D)) (k n : Int) (nm dst : ByteArray) (v : Value) (hnm : nm.size ≤ 140737488351232)
    (h0 : ¬ k = 0) (h1 : ¬ k = 1) (h2 : ¬ k = 2) (h3 : ¬ k = 3) (h4 : ¬ k = 4) (h5 : ¬ k = 5) (h6 : ¬ k = 6) (h7 : ¬ k = 7) :
    Calls Try.prog 27 #[ptr p, ptr q, .agg #[.int .i64 k, .int .i64 n, .string nm, .string dst, v]] w (DoesPost B w0 D p q d) := by
  have HN := Lib.hid hnm
  have OK := Lib.hid (hM.ok (i := 0) rfl)
  clear hnm
  obtain ⟨r, hr⟩ : ∃ r, d.read nm = r := ⟨_, rfl⟩
  have hrl : r.1.length ≤ 1099511627776 := by rw [← hr]; exact read_len OK.out nm
  have hrh : (look Fl.nm nm d.fs).isSome = decide (r.2 = 0) := by rw [← hr]; exact read_has d nm
  obtain ⟨ys, f⟩ := r
  simp only at hrl hrh
  have HR := Lib.hid hr
  have HL := Lib.hid hrl
  have HH := Lib.hid hrh
  have hyl : (ys.length : Int) ≤ 1099511627776 := by omega
  clear hr hrl hrh
  have g0 := decide_eq_false h0
  have g1 := decide_eq_false h1
  have g2 := decide_eq_false h2
  have g3 := decide_eq_false h3
  have g4 := decide_eq_false h4
  have g5 := decide_eq_false h5
  have g6 := decide_eq_false h6
  have g7 := decide_eq_false h7
  have HM := Lib.hid (hM.newbox #[.int .i64 k, .int .i64 n, .string nm, .string dst, v] 52)
  obtain ⟨x0, x1, x2, x3, x4⟩ := HM.out.opcells
  obtain ⟨W, hW⟩ : ∃ W, W = w.alloc (.cells #[.int .i64 k, .int .i64 n, .string nm, .string dst, v] 52) := ⟨_, rfl⟩
  clear hM
  go_enter Try.func27, Try.ntmps27
  go_upto_region 29 with fail
  rw [← hW] at HM x0 x1 x2 x3 x4 ⊢
  obtain ⟨a, ha⟩ : ∃ a, a = w.heap.size := ⟨_, rfl⟩
  rw [← ha] at HM x0 x1 x2 x3 x4 ⊢
  clear ha hW
  go_upto_region 30 with (go_at_call 55; go_must ((with_reducible refine (m_read (i := 1) (by exact HM.out) (by with_unfolding_all rfl) nm (by exact HN.out)).mono ?_); rw [HR.out]; rintro e w5 ⟨v5, rfl, h5⟩; have H5 := Lib.hid h5.front; clear h5))
  clear x0 x1 x2 x3 x4
  obtain ⟨x0, x1, x2, x3, x4⟩ := H5.out.opc (i := 1) rfl
  go_upto_region 31 with (go_at_call 56; (with_reducible refine (mr_read (i := 3) (by exact H5.out) (by with_unfolding_all rfl) nm).mono ?_); rw [HR.out]; rintro e w6 ⟨v6, rfl, h6⟩; have H6 := Lib.hid h6.front; clear h6)
  clear x0 x1 x2 x3 x4
  obtain ⟨A6, c6, rfl, hc6, hC6, hM6⟩ := H6.out.bytes (i := 0) rfl
  obtain ⟨A5, c5, rfl, hc5, hC5, hM5⟩ := H6.out.tail.bytes (i := 0) rfl
  have HC6 := Lib.hid hC6
  have HC5 := Lib.hid hC5
  have Hc6 := Lib.hid hc6
  have Hc5 := Lib.hid hc5
  have H7 := Lib.hid hM5
  clear hC6 hC5 hc6 hc5 hM5 hM6
  go_upto_region 32 with (go_at_call 24; (with_reducible refine (same_bytes (by exact HC5.out) (by exact Hc5.out) (by exact HC6.out) (by exact Hc6.out) (by exact HL.out)).mono ?_); rintro e w8 ⟨rfl, ⟨nd, rfl⟩⟩)
  have H8 := Lib.hid (H7.out.read (pw_below_drewN (Below.refl _ _) nd))
  clear H7 H6 H5 HC6 HC5 Hc6 Hc5
  go_upto_region 33 with fail
  go_loopw [16] (fun v16 wr => ∃ j : Nat, j ≤ ys.length ∧ v16 = .int .i64 j ∧ Hid (Many B w0 wr (BUF A5 ys.length :: BOX a #[.int .i64 k, .int .i64 n, .string nm, .string dst, v] 52 :: DISK p d :: REF q d :: D))) (fun v16 _ => ys.length - (intOf v16).toNat)
  case atStart => exact ⟨0, Nat.zero_le _, rfl, H8⟩
  case round =>
    obtain ⟨j, hj, rfl, HW⟩ := hrel
    by_cases hlt : j < ys.length
    · obtain ⟨g', u, e, hcell, hfr, hset⟩ := HW.out.bufset (i := 0) rfl hlt
      subst e
      have HSet := Lib.hid hset
      have hk2 : wrap64 ((j : Int) + 1) = (j : Int) + 1 := by unfold wrap64; omega
      clear hset
      go_wp2
      go_roundw
      case rel => exact ⟨j + 1, by omega, by first | rfl | (rw [hk2]; rfl), Lib.hid (HSet.out _)⟩
      case measure =>
        first
          | (show ys.length - ((j : Int) + 1).toNat < ys.length - (j : Int).toNat; omega)
          | (show ys.length - (intOf (.int .i64 (wrap64 ((j : Int) + 1)))).toNat < ys.length - (intOf (.int .i64 (j : Int))).toNat; rw [hk2]; show ys.length - ((j : Int) + 1).toNat < ys.length - (j : Int).toNat; omega)
    · have hkn : j = ys.length := by omega
      subst hkn
      clear H8
      have HD := Lib.hid HW.out.tail
      obtain ⟨x0, x1, x2, x3, x4⟩ := HD.out.opcells
      clear HW
      go_wp2_with (first
        | (go_at_call 11; refine (num_calls _ _).mono ?_; rintro e w8 ⟨rfl, rfl⟩)
        | (go_at_call 34; (with_reducible refine (m_has (i := 1) (by exact HD.out) (by with_unfolding_all rfl) nm (by exact HN.out)).mono ?_); rw [HH.out]; rintro e w9 ⟨rfl, h9⟩; have H9 := Lib.hid h9; clear h9))
      go_ret
      have hbe : decide (f = 0) = (f == 0) := by rw [Bool.eq_iff_iff]; simp
      exact ⟨by simp [hbe], H9.out.tail⟩
/-- An operation told both. -/
theorem does_calls (hM : Many B w0 w (DISK p d :: REF q d :: D)) (x : SO) (hx : OpFits x) (A : Option Addr) (c : Nat) (hc : x.f4.length ≤ c) (hs : OldBytes B w0 A x.f4) :
    Calls Try.prog 27 #[ptr p, ptr q, .agg #[.int .i64 x.f0, .int .i64 x.f1, .string x.f2, .string x.f3, .slice A x.f4.length c]] w fun e w' => e = .returned (.bool true) ∧ Many B w0 w' (DISK p (told d x).2 :: REF q (told d x).2 :: D) := by
  obtain ⟨k, n, nm, dst, bs⟩ := x
  obtain ⟨hn, hnm, hto, hb⟩ := hx
  simp only at hn hnm hto hb hc hs ⊢
  by_cases h0 : k = 0
  · subst h0; exact does_create hM n nm dst _ hnm hto
  by_cases h1 : k = 1
  · subst h1; exact does_append hM n nm dst A c bs hnm hb hc hs
  by_cases h2 : k = 2
  · subst h2; exact does_sync hM n nm dst _ hnm hto
  by_cases h3 : k = 3
  · subst h3; exact does_cut hM n nm dst _ hnm hto
  by_cases h4 : k = 4
  · subst h4; exact does_rename hM n nm dst _ hnm hto
  by_cases h5 : k = 5
  · subst h5; exact does_remove hM n nm dst _ hnm hto
  by_cases h6 : k = 6
  · subst h6; exact does_arm hM n nm dst _ hn
  by_cases h7 : k = 7
  · subst h7; exact does_crash hM n nm dst _
  have e : told d ⟨k, n, nm, dst, bs⟩ = (0, d) := by simp [told, h0, h1, h2, h3, h4, h5, h6, h7]
  rw [e]
  exact does_ask hM k n nm dst _ hnm h0 h1 h2 h3 h4 h5 h6 h7
end
end Go.Proofs.Ytflajlnknimjaaa.Dk

/- Files whose bytes lie apart; rows that are written over. -/
namespace Go.Proofs.Ytflajlnknimjaaa.Dk
open Go.RowKit Go.Maps Go.Proofs.YtflajlnknimjaaaW.PrintWords Go.Proofs.YtflajlnknimjaaaW.PrintMore Go.Proofs.YtflajlnknimjaaaW.PrintLast Go.Proofs.Ytflajlnknimjaaa.Syn Go.Proofs.Ytflajlnknimjaaa.PDiskLoads
set_option linter.unusedVariables false
set_option linter.unusedSimpArgs false

set_option maxHeartbeats 1000000 in
set_option maxRecDepth 100000 in
theorem files_callsS {F : Nat → Prop} {p : Nat} {w : World} {d : St} (h : DiskAt w F p d) (ok : d.Ok) :
    Calls Try.prog 21 #[.pointer (some ⟨p, 0, none⟩)] w fun e w' => ∃ v, e = .returned v ∧ Kd.S kF 36 w' w.heap.size (fun _ => True) v (filesOf d) ∧ Below w.heap.size w w' := by
  have hlist := list_calls h ok
  obtain ⟨m, L, hI, hL⟩ := h
  have hfs : filesOf d = L.map FileC.out := by rw [filesOf, ← hL, List.map_map]; rfl
  have hnm : names d = L.map FileC.nm := by rw [names, ← hL, List.map_map]; rfl
  have hsrt := srt_abs hL ok.srt
  have hcnt : L.length ≤ 256 := by have := ok.cnt; rw [← hL, List.length_map] at this; exact this
  have hsz : ∀ c ∈ L, c.nm.size ≤ 32 := fun c hc => okName_size (ok.named c.abs (by rw [← hL]; exact List.mem_map_of_mem hc))
  have hdl : ∀ c ∈ L, c.bs.length ≤ 140737488351232 := fun c hc => by
    have h1 := sumC_take hsrt hc
    have h2 := ok.tot
    rw [← sumC_abs hL] at h2
    omega
  rw [hfs]
  rw [hnm] at hlist
  have HI := Lib.hid hI
  have HS := Lib.hid hsrt
  have HC := Lib.hid hcnt
  have HZ := Lib.hid hsz
  have HD := Lib.hid hdl
  have HLI := Lib.hid hlist
  clear hI hL ok hfs hnm hsrt hcnt hsz hdl hlist
  go_enter Try.func21, Try.ntmps21
  go_wp2_with (go_at_call 18; refine (HLI.out).mono ?_; rintro e w1 ⟨v, rfl, hv, hb⟩; obtain ⟨A, cp, rfl, -, hrd⟩ := Kd.R_reads hv; have HR := Lib.hid hrd; have HB := Lib.hid hb; clear hv hrd hb)
  go_loopw [3, 10] (fun v3 v10 wr => ∃ k : Nat, k ≤ L.length ∧ v10 = .int .i64 k ∧ Hid (Kd.S kF 36 wr w1.heap.size (fun _ => True) v3 ((L.map FileC.out).take k)) ∧ Hid (Below w1.heap.size w1 wr)) (fun _ v10 _ => L.length - (intOf v10).toNat)
  case atStart => exact ⟨0, Nat.zero_le _, rfl, Lib.hid (Kd.S_nil _ _ _ _ _), Lib.hid (Below.refl _ _)⟩
  case round =>
    obtain ⟨k, hk, rfl, HO, HB2⟩ := hrel
    by_cases hlt : k < L.length
    · have hcm : L[k] ∈ L := List.getElem_mem hlt
      obtain ⟨c, hcd⟩ : ∃ c, c = L[k] := ⟨_, rfl⟩
      rw [← hcd] at hcm
      have hch : Chg (fun k => w.heap.size ≤ k) w wr := ((Chg.of_below HB.out).trans (Chg.of_below (HB2.out)) (fun _ h => .inl h))
      have hI2 := HI.out.chg hch (fun k hk h => by have := HI.out.lt k hk; omega)
      have b0 := sb_cell hI2.blk 0
      simp at b0
      have hl := hI2.map.look (nm := c.nm) (by have := HZ.out c hcm; unfold maxLen; omega)
      rw [HS.out.look hcm rfl] at hl
      simp only [ptrOf] at hl
      have hf := hI2.files c hcm
      have c0 := sb_cell hf.1 0
      have c1 := sb_cell hf.1 1
      simp at c0 c1
      obtain ⟨A', cap, hv, _, _⟩ := hf.2.2.1.form
      have hd := hf.2.2.1
      rw [hv] at c0 hd
      have hfw := HI.out.files c hcm
      have c0w := sb_cell hfw.1 0
      have c1w := sb_cell hfw.1 1
      simp [hv] at c0w c1w
      have HCW := Lib.hid (And.intro c0w c1w)
      clear c0w c1w hfw
      have hdr := hd.reads
      obtain ⟨ad, rfl, hat⟩ := str_at HR.out k (by rw [List.length_map]; exact hlt)
      replace hat := (HB2.out.cell (World.block_lt_of_cell? w1 _ hat)).trans hat
      simp only [List.getElem_map, ← hcd] at hat
      have HDR := Lib.hid hdr
      have HCM := Lib.hid hcm
      have HCH := Lib.hid hch
      have HCD := Lib.hid hcd
      clear hI2 hf hd hv hdr hcm hch hcd
      go_wp2
      have HOd := Lib.hid (Kd.S_drew HO.out)
      have HB2d := Lib.hid (below_drew1 HB2.out)
      have HDRd := Lib.hid (Kd.C_drew HDR.out)
      have c0d : wr.drew.cell? ⟨c.blk, 0, none⟩ = some (.slice A' c.bs.length cap) := c0
      have c1d : wr.drew.cell? ⟨c.blk, 1, none⟩ = some (.int .i64 c.syn) := c1
      clear HDR c0 c1 hat hl b0 HCH
      refine start_ (n := 15) (S := fun w' => w'.cell? ⟨c.blk, 0, none⟩ = some (.slice A' c.bs.length cap) ∧ w'.cell? ⟨c.blk, 1, none⟩ = some (.int .i64 c.syn)) (ds := []) #[false, false, false, false, false, false, false, false, false, false, false, false, false, false, false] (by kernel_rfl) rfl rfl ⟨c0d, c1d⟩ (fun hHeld => ?_)
      refine with_tabW filesT_tab filesT_bits (fun HT_ HW_ => ?_)
      generalize wr.drew = w6 at HOd HB2d HDRd c0d c1d hHeld ⊢
      refine pure_ (i := 0) (N := (some 20)) (v := ?_) (a' := ?_) #[true, false, false, false, false, false, false, false, false, false, false, false, false, false, false] rfl rfl (any_of HT_.out (by kernel_rfl)) (fun _ _ _ h => h) (Or.inl ⟨by rfl, ?_⟩) ?_ ?_
      rotate_left
      · intro w'
        go_simp
        with_reducible rfl
      rotate_left
      · simp only [Act.put, List.setIfInBounds_toArray, List.set_cons_zero, List.set_cons_succ, i64_w, i32_w]
        rfl
      refine pure_ (i := 1) (N := (some 21)) (v := ?_) (a' := ?_) #[true, true, false, false, false, false, false, false, false, false, false, false, false, false, false] rfl rfl (any_of HT_.out (by kernel_rfl)) (fun _ _ _ h => h) (Or.inl ⟨by rfl, ?_⟩) ?_ ?_
      rotate_left
      · intro w'
        go_simp
        with_reducible rfl
      rotate_left
      · simp only [Act.put, List.setIfInBounds_toArray, List.set_cons_zero, List.set_cons_succ, i64_w, i32_w]
        rfl
      refine pure_ (i := 2) (N := (some 22)) (v := ?_) (a' := ?_) #[true, true, true, false, false, false, false, false, false, false, false, false, false, false, false] rfl rfl (any_of HT_.out (by kernel_rfl)) (fun _ _ _ h => h) (Or.inl ⟨by rfl, ?_⟩) ?_ ?_
      rotate_left
      · intro w'
        go_simp
        with_reducible rfl
      rotate_left
      · simp only [Act.put, List.setIfInBounds_toArray, List.set_cons_zero, List.set_cons_succ, i64_w, i32_w]
        rfl
      refine pure_ (i := 3) (N := (some 23)) (v := ?_) (a' := ?_) #[true, true, true, true, false, false, false, false, false, false, false, false, false, false, false] rfl rfl (any_of HT_.out (by kernel_rfl)) (fun _ _ _ h => h) (Or.inl ⟨by rfl, ?_⟩) ?_ ?_
      rotate_left
      · intro w'
        go_simp
        with_reducible rfl
      rotate_left
      · simp only [Act.put, List.setIfInBounds_toArray, List.set_cons_zero, List.set_cons_succ, i64_w, i32_w]
        rfl
      refine pure_ (i := 4) (N := (some 24)) (v := ?_) (a' := ?_) #[true, true, true, true, true, false, false, false, false, false, false, false, false, false, false] rfl rfl (any_of HT_.out (by kernel_rfl)) (fun _ _ _ h => h) (Or.inl ⟨by rfl, ?_⟩) ?_ ?_
      rotate_left
      · intro w'
        go_simp
        with_reducible rfl
      rotate_left
      · simp only [Act.put, List.setIfInBounds_toArray, List.set_cons_zero, List.set_cons_succ, i64_w, i32_w]
        rfl
      refine pure_ (i := 7) (N := (some 27)) (v := ?_) (a' := ?_) #[true, true, true, true, true, false, false, true, false, false, false, false, false, false, false] rfl rfl (any_of HT_.out (by kernel_rfl)) (fun _ _ _ h => h) (Or.inl ⟨by rfl, ?_⟩) ?_ ?_
      rotate_left
      · intro w'
        go_simp
        with_reducible rfl
      rotate_left
      · simp only [Act.put, List.setIfInBounds_toArray, List.set_cons_zero, List.set_cons_succ, i64_w, i32_w]
        rfl
      refine pure_ (i := 8) (N := (some 28)) (v := ?_) (a' := ?_) #[true, true, true, true, true, false, false, true, true, false, false, false, false, false, false] rfl rfl (any_of HT_.out (by kernel_rfl)) (fun _ _ _ h => h) (Or.inl ⟨by rfl, ?_⟩) ?_ ?_
      rotate_left
      · intro w'
        go_simp
        with_reducible rfl
      rotate_left
      · simp only [Act.put, List.setIfInBounds_toArray, List.set_cons_zero, List.set_cons_succ, i64_w, i32_w]
        rfl
      refine pure_ (i := 9) (N := (some 29)) (v := ?_) (a' := ?_) #[true, true, true, true, true, false, false, true, true, true, false, false, false, false, false] rfl rfl (any_of HT_.out (by kernel_rfl)) (fun _ _ _ h => h) (Or.inl ⟨by rfl, ?_⟩) ?_ ?_
      rotate_left
      · intro w'
        go_simp
        with_reducible rfl
      rotate_left
      · simp only [Act.put, List.setIfInBounds_toArray, List.set_cons_zero, List.set_cons_succ, i64_w, i32_w]
        rfl
      refine take_ (i := 5) (N := (some 25)) (v := ?_) (a' := ?_) #[true, true, true, true, true, true, false, true, true, true, false, false, false, false, false] rfl rfl (take_ofW HT_.out HW_.out (by kernel_rfl)) (fun _ _ _ h => h) (Or.inl ⟨by rfl, ?_⟩) hHeld ?_ ?_
      rotate_left
      · rintro w' ⟨s0, s1⟩
        go_simp
        with_reducible rfl
      rotate_left
      · simp only [Act.put, List.setIfInBounds_toArray, List.set_cons_zero, List.set_cons_succ, i64_w, i32_w]
        rfl
      refine take_ (i := 10) (N := (some 30)) (v := ?_) (a' := ?_) #[true, true, true, true, true, true, false, true, true, true, true, false, false, false, false] rfl rfl (take_ofW HT_.out HW_.out (by kernel_rfl)) (fun _ _ _ h => h) (Or.inl ⟨by rfl, ?_⟩) hHeld ?_ ?_
      rotate_left
      · rintro w' ⟨s0, s1⟩
        go_simp
        with_reducible rfl
      rotate_left
      · simp only [Act.put, List.setIfInBounds_toArray, List.set_cons_zero, List.set_cons_succ, i64_w, i32_w]
        rfl
      refine one_ (i := 6) (N := (some 26)) #[true, true, true, true, true, true, true, true, true, true, true, false, false, false, false] rfl rfl (one_of HT_.out (by kernel_rfl)) (by decide) (fun K hK => ?_)
      refine goes_ Try.func43 (by kernel_rfl) rfl #[.slice A' c.bs.length cap] (by rfl) rfl rfl (by (try simp only [List.map_toArray, List.map_cons, List.map_nil]); rfl) ?_
      with_reducible refine (fresh_calls _ _ c.bs _ (by exact HDRd.out) (by exact HD.out c HCM.out)).mono ?_
      rintro e w7 ⟨v7, rfl, ho7, hb7⟩
      refine ⟨_, rfl, ?_⟩
      have c0' := (hb7.cell (World.block_lt_of_cell? w6 _ c0d)).trans c0d
      have c1' := (hb7.cell (World.block_lt_of_cell? w6 _ c1d)).trans c1d
      have HO7 := Lib.hid (Kd.S_old HOd.out hb7)
      have HB7 := Lib.hid (below_step HB2d.out hb7)
      obtain ⟨A7, c7, e7⟩ := Kd.R_slice ho7
      subst e7
      have HF7 := Lib.hid ho7
      clear hb7 ho7
      refine hK.out _ _ ⟨c0', c1'⟩ (fun hHeld => ?_)
      clear hK K
      refine norm_ (a' := ?_) ?_ ?_
      rotate_left
      · show Act.put _ (some 26) _ = _
        simp only [Act.put, List.setIfInBounds_toArray, List.set_cons_zero, List.set_cons_succ, i64_w, i32_w]
        rfl
      refine pure_ (i := 11) (N := (some 31)) (v := ?_) (a' := ?_) #[true, true, true, true, true, true, true, true, true, true, true, true, false, false, false] rfl rfl (any_of HT_.out (by kernel_rfl)) (fun _ _ _ h => h) (Or.inl ⟨by rfl, ?_⟩) ?_ ?_
      rotate_left
      · intro w'
        go_simp
        with_reducible rfl
      rotate_left
      · simp only [Act.put, List.setIfInBounds_toArray, List.set_cons_zero, List.set_cons_succ, i64_w, i32_w]
        rfl
      refine one_ (i := 12) (N := (some 32)) #[true, true, true, true, true, true, true, true, true, true, true, true, true, false, false] rfl rfl (one_of HT_.out (by kernel_rfl)) (by decide) (fun K hK => ?_)
      refine value_ (w1 := ?_) (v := ?_) (by rfl) rfl ?_ ?_
      rotate_left 2
      · go_simp
        constructor
        · rfl
        · rfl
      refine hK.out _ _ ⟨(World.cell?_alloc_lt _ _ _ (World.block_lt_of_cell? _ _ c0')).trans c0', (World.cell?_alloc_lt _ _ _ (World.block_lt_of_cell? _ _ c1')).trans c1'⟩ (fun hHeld => ?_)
      clear hK K
      refine norm_ (a' := ?_) ?_ ?_
      rotate_left
      · show Act.put _ (some 32) _ = _
        simp only [Act.put, List.setIfInBounds_toArray, List.set_cons_zero, List.set_cons_succ, i64_w, i32_w]
        rfl
      refine one_ (i := 13) (N := (some 33)) #[true, true, true, true, true, true, true, true, true, true, true, true, true, true, false] rfl rfl (one_of HT_.out (by kernel_rfl)) (by decide) (fun K hK => ?_)
      refine Kd.S_append_step kF (w0 := w1) w1.heap.size (by rfl) (.tmp 20) (.tmp 32) 27 36 (.agg #[(.string ⟨#[]⟩), (.slice none 0 0), (.int .i64 0)]) 48 rfl Try.underlying27 info36 rfl (by decide) (by omega) u3 ((L.map FileC.out).take k) c.out [.string c.nm, .slice A7 c.bs.length c7, .int .i64 c.syn] (fun _ => True) (fun k_ => some k_ = (.slice A7 c.bs.length c7 : Value).ownBlock) rfl rfl ?aP ?aK (fun _ _ => trivial) (by exact Kd.S_mono HO7.out (fun k_ hk_ => ⟨trivial, fun he_ => Nat.not_le_of_lt hk_.2 (Kd.R_base HF7.out k_ he_.symm)⟩)) (by exact HB7.out) (by exact HB7.out.size) ?aL ?_
      (case aP => exact k36_mkM _ _ _ c.out (Kd.R_tight rfl (Kd.R_lower HF7.out HB2d.out.size)))
      (case aK =>
        obtain ⟨_, hx7⟩ := Kd.R_own HF7.out
        obtain ⟨_, hy7⟩ := Kd.S_own HO7.out
        exact fun k_ hk_ => ⟨trivial, apart_blk hx7 hy7 (by decide) k_ hk_⟩)
      (case aL => have := HC.out; simp only [List.length_take, List.length_map]; omega)
      intro v13 w13 ho13 hb13 _ _
      have HB13 := Lib.hid (below_step HB.out hb13)
      have HBX := Lib.hid hb13
      have HO13 := Lib.hid ho13
      have c0'' := (HB13.out.cell (World.block_lt_of_cell? w _ HCW.out.1)).trans HCW.out.1
      have c1'' := (HB13.out.cell (World.block_lt_of_cell? w _ HCW.out.2)).trans HCW.out.2
      clear hb13 ho13
      refine hK.out _ _ ⟨c0'', c1''⟩ (fun hHeld => ?_)
      clear hK K
      refine norm_ (a' := ?_) ?_ ?_
      rotate_left
      · show Act.put _ (some 33) _ = _
        simp only [Act.put, List.setIfInBounds_toArray, List.set_cons_zero, List.set_cons_succ, i64_w, i32_w]
        rfl
      refine pure_ (i := 14) (N := (some 3)) (v := ?_) (a' := ?_) #[true, true, true, true, true, true, true, true, true, true, true, true, true, true, true] rfl rfl (any_of HT_.out (by kernel_rfl)) (fun _ _ _ h => h) (Or.inl ⟨by rfl, ?_⟩) ?_ ?_
      rotate_left
      · intro w'
        go_simp
        with_reducible rfl
      rotate_left
      · simp only [Act.put, List.setIfInBounds_toArray, List.set_cons_zero, List.set_cons_succ, i64_w, i32_w]
        rfl
      refine done_ (done_of HT_.out (by kernel_rfl)) ?_
      have hk2 : wrap64 ((k : Int) + 1) = (k : Int) + 1 := by have := HC.out; unfold wrap64; omega
      go_wp2
      go_roundw
      case rel =>
        refine ⟨k + 1, by omega, by rw [hk2]; rfl, ?_, HBX⟩
        have := HO13.out
        rw [List.take_succ_eq_append_getElem (by rw [List.length_map]; omega), List.getElem_map, ← HCD.out]
        exact Lib.hid this
      case measure =>
        show L.length - (intOf (.int .i64 (wrap64 ((k : Int) + 1)))).toNat < L.length - (intOf (.int .i64 (k : Int))).toNat
        rw [hk2]
        show L.length - ((k : Int) + 1).toNat < L.length - (k : Int).toNat
        omega
    · have hkn : k = L.length := by omega
      subst hkn
      go_wp2
      go_ret
      refine ⟨_, rfl, Kd.S_lower ?_ HB.out.size, below_step HB.out HB2.out⟩
      have := HO.out
      rwa [List.take_of_length_le (by rw [List.length_map]; exact Nat.le_refl _)] at this

/-- Files, no two of which have bytes in one block. -/
def SFILES (v : Value) (l : List SF) : Thing where
  P := fun w F => Kd.S kF 36 w 0 F v l
  stay := fun _ _ he h => Kd.S_move h he
/-- Files that are written over: of those from k on it is known that they have bytes, and H. -/
def SCRAP (A : Option Addr) (k n : Nat) (H : Nat → Value → Nat → Prop) : Thing where
  P := fun w F => n = 0 ∨ ∃ g cur, ∃ f : Nat → Nat, A = some ⟨g, 0, none⟩ ∧ F g ∧ w.heap[g]? = some (.cells cur 36 (0, 0)) ∧ n * 3 ≤ cur.size ∧ ∀ i, k ≤ i → i < n → ∃ v ys, cur[i * 3 + 1]? = some v ∧ (Kd.int .u8).R 5 w 0 (fun b => F b ∧ f b = i) v ys ∧ ys.length ≤ 1099511627776 ∧ H i v ys.length
  stay := fun _ _ he h => h.imp id (fun ⟨g, cur, f, h0, h1, h2, h3, h4⟩ => ⟨g, cur, f, h0, h1, (he g h1).trans h2, h3, fun i hk hi => by
    obtain ⟨v, ys, h5, h6, h7⟩ := h4 i hk hi
    exact ⟨v, ys, h5, Kd.R_move h6 (fun b hb => he b hb.1), h7⟩⟩)
/-- The one at k is known. -/
def HK (k : Nat) (v : Value) (m : Nat) (i : Nat) (v' : Value) (m' : Nat) : Prop := i = k → v' = v ∧ m' = m
def HT (_ : Nat) (_ : Value) (_ : Nat) : Prop := True
/-- Cells that are written over. -/
def CELLS (t : Nat) (A : Option Addr) (n : Nat) : Thing where
  P := fun w F => n = 0 ∨ ∃ g cur, A = some ⟨g, 0, none⟩ ∧ F g ∧ w.heap[g]? = some (.cells cur t (0, 0)) ∧ n ≤ cur.size
  stay := fun _ _ he h => h.imp id (fun ⟨g, cur, h0, h1, h2, h3⟩ => ⟨g, cur, h0, h1, (he g h1).trans h2, h3⟩)
section
variable {B i : Nat} {w0 w : World} {D : List Thing} {t : Thing} {p q : Nat} {d : St}
theorem S_newT {α : Type} {k : Kd α} {e base : Nat} {v : Value} {xs : List α} (h : Kd.S k e w base (fun _ => True) v xs) : Kd.S k e w 0 (fun k => base ≤ k ∧ k < w.heap.size) v xs :=
  Kd.S_lower (Kd.S_mono (Kd.S_bound h) (fun k hk => ⟨hk.2.1, hk.2.2.1⟩)) (Nat.zero_le _)
theorem m_filesS (hM : Many B w0 w D) (hi : D[i]? = some (DISK p d)) :
    Calls Try.prog 21 #[ptr p] w fun e w' => ∃ A c, e = .returned (.slice A (filesOf d).length c) ∧ Below w.heap.size w w' ∧ Many B w0 w' (SFILES (.slice A (filesOf d).length c) (filesOf d) :: D) := by
  obtain ⟨F, ⟨hd, ok⟩, hF, hO, hst⟩ := hM.get hi
  refine (files_callsS hd ok).mono ?_
  rintro e w' ⟨v, rfl, h1, h2⟩
  obtain ⟨A, c, rfl⟩ := Kd.S_slice h1
  exact ⟨A, c, rfl, h2, (hM.add h2 (t := SFILES _ (filesOf d)) (S_newT h1)).front⟩
theorem Many.sfiles {A : Option Addr} {n c : Nat} {l : List SF} (hM : Many B w0 w D) (hi : D[i]? = some (SFILES (.slice A n c) l)) : n = l.length ∧ n ≤ c ∧ kF.C w A l.length l := by
  obtain ⟨F, h, _⟩ := hM.get hi
  exact Kd.S_reads' h
theorem Many.scrap {A : Option Addr} {n c : Nat} {l : List SF} (hM : Many B w0 w D) (hi : D[i]? = some (SFILES (.slice A n c) l)) (hl : ∀ x ∈ l, x.f1.length ≤ 1099511627776) : Many B w0 w (D.set i (SCRAP A 0 n HT)) := by
  refine hM.as hi fun F h => ?_
  have hn := (Kd.S_reads' h).1
  rcases Nat.eq_zero_or_pos l.length with h0 | hp
  · exact .inl (by omega)
  obtain ⟨g, cap, e, _, _, cur, hb⟩ := Kd.S_form h hp
  injection e with e1 e2 e3
  subst e1
  obtain ⟨f, hR⟩ := h
  have hFg : F g := hR.1 g rfl
  refine .inr ⟨g, cur, f, rfl, hFg, hb, ?_, fun j _ hj => ?_⟩
  · obtain ⟨inner, _, ho⟩ := Kd.R_own hR
    rcases ho with ⟨_, h0⟩ | ⟨g', cap', cur', he, _, hblk, hcap, hcm, hcs, _⟩
    · rw [List.length_zipIdx] at h0; omega
    · injection he with e4 e5 e6
      injection e4 with e4
      injection e4 with e4
      subst e4
      rw [hb] at hblk
      injection hblk with hblk
      injection hblk with hblk
      subst hblk
      have e7 : cur.size = cap' * 3 := hcs
      have : l.zipIdx.length = l.length := List.length_zipIdx
      omega
  · have hjl : j < l.length := by omega
    obtain ⟨c', hcl, hM', hcc, _⟩ := Kd.R_elem hR (l[j], 0) (j : Int) (by omega) (by omega)
    have e : l.zipIdx.getD (j : Int).toNat (l[j], 0) = (l[j], j) := by simp [hjl]
    rw [e] at hM'
    obtain ⟨v1, rfl, hv⟩ := k36_openM (x := l[j]) (show kF.M w 0 (fun k => (F k ∧ k ≠ g) ∧ f k = j) l[j] c' from hM')
    have hc1 := hcc 1 v1 rfl
    rw [sb_cell hb] at hc1
    exact ⟨v1, l[j].f1, hc1, Kd.R_mono hv (fun b hb => ⟨hb.1.1, hb.2⟩), hl _ (List.getElem_mem hjl), trivial⟩
theorem Many.scrap_at {A : Option Addr} {k n : Nat} (hM : Many B w0 w D) (hi : D[i]? = some (SCRAP A k n HT)) (hk : k < n) : ∃ g A' m c', A = some ⟨g, 0, none⟩ ∧ m ≤ 1099511627776 ∧ m ≤ c' ∧ Many B w0 w (D.set i (SCRAP (some ⟨g, 0, none⟩) k n (HK k (.slice A' m c') m))) := by
  obtain ⟨F, h, _, _, hst⟩ := hM.get hi
  rcases h with h0 | ⟨g, cur, f, rfl, hFg, hb, hs, hall⟩
  · omega
  obtain ⟨v, ys, h1, h2, h3, _⟩ := hall k (Nat.le_refl _) hk
  obtain ⟨A', c', rfl, hc', _⟩ := Kd.R_reads h2
  have key : (SCRAP (some ⟨g, 0, none⟩) k n (HK k (.slice A' ys.length c') ys.length)).P w F := by
    refine .inr ⟨g, cur, f, rfl, hFg, hb, hs, fun j hkj hj => ?_⟩
    obtain ⟨v', ys', g1, g2, g3, _⟩ := hall j hkj hj
    refine ⟨v', ys', g1, g2, g3, fun e => ?_⟩
    subst e
    rw [h1] at g1
    injection g1 with g1
    subst g1
    obtain ⟨_, _, e, _⟩ := Kd.R_reads g2
    injection e with _ e _
    exact ⟨rfl, e.symm⟩
  exact ⟨g, A', ys.length, c', rfl, h3, hc', hst (Chg.refl _ _) (by rw [Gr_self]; exact key)⟩
theorem Many.scrap_cell {g k n m : Nat} {v : Value} (hM : Many B w0 w D) (hi : D[i]? = some (SCRAP (some ⟨g, 0, none⟩) k n (HK k v m))) (hk : k < n) : w.cell? ⟨g, k * 3 + 1, none⟩ = some v ∧ w.frozen? ⟨g, k * 3 + 1, none⟩ = false := by
  obtain ⟨F, h, _, _, hst⟩ := hM.get hi
  rcases h with h0 | ⟨g', cur, f, e, hFg, hb, hs, hall⟩
  · omega
  cases e
  obtain ⟨v', ys, h1, h2, h3, h4⟩ := hall k (Nat.le_refl _) hk
  rw [(h4 rfl).1] at h1
  exact ⟨by rw [sb_cell hb]; exact h1, sb_free hb _⟩
theorem Many.scrap_byte {g k n m j c' : Nat} {A' : Option Addr} (hM : Many B w0 w D) (hi : D[i]? = some (SCRAP (some ⟨g, 0, none⟩) k n (HK k (.slice A' m c') m))) (hk : k < n) (hj : j < m) :
    ∃ g' u, A' = some ⟨g', 0, none⟩ ∧ w.cell? ⟨g', j, none⟩ = some u ∧ w.frozen? ⟨g', j, none⟩ = false ∧ ∀ x : Int, Many B w0 (w.setCell ⟨g', j, none⟩ (.int .u8 x)) D := by
  obtain ⟨F, h, _, _, hst⟩ := hM.get hi
  rcases h with h0 | ⟨g0, cur, f, e, hFg, hb, hs, hall⟩
  · omega
  cases e
  obtain ⟨v', ys, h1, h2, h3, h4⟩ := hall k (Nat.le_refl _) hk
  obtain ⟨rfl, hm⟩ := h4 rfl
  obtain ⟨g', cap, e, _, _, cur', hb'⟩ := Kd.R_form h2 (by omega)
  injection e with e1 e2 e3
  subst e1
  have hg' := h2.1 g' rfl
  have hne : g ≠ g' := by
    rintro rfl
    rw [hb] at hb'
    injection hb' with hb'
    injection hb' with _ hb'
    exact absurd hb' (by decide)
  have h5 := Kd.R_celln (0 : Int) h2 (j : Int) (by omega) (by omega)
  rw [Int.toNat_natCast] at h5
  refine ⟨g', _, rfl, h5.1, h5.2, fun x => ?_⟩
  have hc : Chg F w (w.setCell ⟨g', j, none⟩ (.int .u8 x)) := Chg.setCell w (p := ⟨g', j, none⟩) hg'.1 _
  have := hst (t' := SCRAP (some ⟨g, 0, none⟩) k n (HK k (.slice (some ⟨g', 0, none⟩) m c') m)) hc (.inr ⟨g, cur, f, rfl, .inl hFg, sb_far hb hne _, hs, fun j' hkj hj' => ?_⟩)
  · rwa [set_same hi] at this
  · by_cases e : j' = k
    · subst e
      have h6 := Kd.R_putn h2 (j : Int) x
      rw [Int.toNat_natCast] at h6
      exact ⟨_, ys.set j x, h1, Kd.R_mono h6 (fun b hb => ⟨.inl hb.1, hb.2⟩), by simpa using h3, fun _ => ⟨rfl, by simpa using hm⟩⟩
    · obtain ⟨v2, ys2, k1, k2, k3, k4⟩ := hall j' hkj hj'
      exact ⟨v2, ys2, k1, Kd.R_mono (Kd.R_far k2 (p := ⟨g', j, none⟩) (fun b hb e2 => e (by rw [← hb.2, e2]; exact hg'.2)) _) (fun b hb => ⟨.inl hb.1, hb.2⟩), k3, k4⟩
theorem Many.scrap_grow {g k n m : Nat} {v : Value} (hM : Many B w0 w D) (hi : D[i]? = some (SCRAP (some ⟨g, 0, none⟩) k n (HK k v m))) (hk : k < n) :
    ∃ ys : List Int, ys.length = m ∧ (Kd.int .u8).R 5 w 0 (fun _ => True) v ys ∧ ∀ w1, w.grownBy w1 v.ownBlock → (w1.cell? ⟨g, k * 3 + 1, none⟩ = some v ∧ w1.frozen? ⟨g, k * 3 + 1, none⟩ = false) ∧ ∀ v1, Many B w0 (w1.setCell ⟨g, k * 3 + 1, none⟩ v1) (D.set i (SCRAP (some ⟨g, 0, none⟩) (k + 1) n HT)) := by
  obtain ⟨F, h, hFb, _, hst⟩ := hM.get hi
  rcases h with h0 | ⟨g0, cur, f, e, hFg, hb, hs, hall⟩
  · omega
  cases e
  obtain ⟨v', ys, h1, h2, h3, h4⟩ := hall k (Nat.le_refl _) hk
  obtain ⟨rfl, hm⟩ := h4 rfl
  refine ⟨ys, hm, Kd.R_mono h2 (fun _ _ => trivial), fun w1 hg => ?_⟩
  have hgl := blk_lt hb
  have hne : some g ≠ v'.ownBlock := Kd.R_ne h2 hb (by decide)
  have hb1 : w1.heap[g]? = some (.cells cur 36 (0, 0)) := (hg.block g hgl hne).trans hb
  refine ⟨⟨by rw [sb_cell hb1]; exact h1, sb_free hb1 _⟩, fun v1 => ?_⟩
  have hc1 : Chg F w w1 := .of_grown hg (fun b hb => .inl (h2.1 b hb).1)
  have hcs : Chg F w1 (w1.setCell ⟨g, k * 3 + 1, none⟩ v1) := Chg.setCell w1 (p := ⟨g, k * 3 + 1, none⟩) hFg _
  have hc : Chg F w (w1.setCell ⟨g, k * 3 + 1, none⟩ v1) := hc1.trans hcs (fun _ h => .inl h)
  refine hst hc (.inr ⟨g, _, f, rfl, .inl hFg, sb_set hb1 (k * 3 + 1) v1, by simpa using hs, fun j hkj hj => ?_⟩)
  obtain ⟨v2, ys2, k1, k2, k3, _⟩ := hall j (by omega) hj
  refine ⟨v2, ys2, ?_, ?_, k3, trivial⟩
  · rw [Array.getElem?_setIfInBounds_ne (by omega)]
    exact k1
  · have k5 : (Kd.int .u8).R 5 w1 0 (fun b => F b ∧ f b = j) v2 ys2 := Kd.R_grown k2 hg (fun b hb e => by
      have := (h2.1 b e.symm).2
      omega)
    have hne2 : some g ≠ v2.ownBlock := Kd.R_ne k2 hb (by decide)
    have k6 := Kd.R_tight rfl k5
    have k7 := Kd.R_far k6 (p := ⟨g, k * 3 + 1, none⟩) (fun b hb e2 => hne2 (by rw [← hb]; exact congrArg some e2.symm)) v1
    exact Kd.R_mono k7 (fun b hb => ⟨.inl (k2.1 b hb.symm).1, (k2.1 b hb.symm).2⟩)
theorem Many.texts {v : Value} {l : List ByteArray} (h : Many B w0 w D) (hi : D[i]? = some (TEXTS v l)) : ∃ A c, v = .slice A l.length c ∧ l.length ≤ c ∧ Kd.string.C w A l.length l ∧ Many B w0 w (D.set i (CELLS 9 A l.length)) := by
  obtain ⟨F, hd, _⟩ := h.get hi
  obtain ⟨A, c, rfl, h1, h2⟩ := Kd.R_reads hd
  refine ⟨A, c, rfl, h1, h2, h.as hi fun F hR => ?_⟩
  obtain ⟨_, _, ho⟩ := Kd.R_own hR
  rcases ho with ⟨_, h0⟩ | ⟨g, cap, cur, he, hbg, hblk, hcap, hcm, hcs, htk⟩
  · exact .inl h0
  · injection he with e1 e2 e3
    subst e1
    subst e3
    have hF : F g := hR.1 g rfl
    have e : cur.size = c := by
      have : cur.size = c * 1 := hcs
      omega
    exact .inr ⟨g, cur, rfl, hF, hblk, by omega⟩
theorem Many.cellset {A : Option Addr} {t n k : Nat} (h : Many B w0 w D) (hi : D[i]? = some (CELLS t A n)) (hk : k < n) : ∃ g u, A = some ⟨g, 0, none⟩ ∧ w.cell? ⟨g, k, none⟩ = some u ∧ w.frozen? ⟨g, k, none⟩ = false ∧ ∀ v, Many B w0 (w.setCell ⟨g, k, none⟩ v) D := by
  obtain ⟨F, hd, hF, _, hst⟩ := h.get hi
  rcases hd with h0 | ⟨g, cur, rfl, hFg, hb, hn⟩
  · omega
  · have hk2 : k < cur.size := by omega
    refine ⟨g, cur[k], rfl, by rw [sb_cell hb]; simp [hk2], sb_free hb k, fun v => ?_⟩
    have hc : Chg F w (w.setCell ⟨g, k, none⟩ v) := Chg.setCell w (p := ⟨g, k, none⟩) hFg v
    have := hst (t' := CELLS t (some ⟨g, 0, none⟩) n) hc (.inr ⟨g, _, rfl, .inl hFg, sb_set hb k v, by simpa using hn⟩)
    rwa [set_same hi] at this
end
end Go.Proofs.Ytflajlnknimjaaa.Dk

/- Merged: RfG, DkLf. -/
import Derived.Test.YtflajlnknimjaaaMl12
import Derived.Test.YtflajlnknimjaaaMl10
import Derived.Deep.QuietTactic
import Derived.BigQuiet
set_option linter.unusedVariables false
set_option linter.unusedSimpArgs false
/- Same: a disk and the reference's. -/
namespace Go.Proofs.Ytflajlnknimjaaa.Dk
open Go.RowKit Go.Maps Go.Proofs.YtflajlnknimjaaaW.PrintWords Go.Proofs.YtflajlnknimjaaaW.PrintMore Go.Proofs.YtflajlnknimjaaaW.PrintLast Go.Proofs.Ytflajlnknimjaaa.Syn Go.Proofs.Ytflajlnknimjaaa.PDiskLoads
set_option linter.unusedVariables false
set_option linter.unusedSimpArgs false

def same14T : Bool × List (List Nat × List Nat) := (true, [([], []), ([0], [0]), ([], []), ([2], [2]), ([3], [3]), ([4], [4]), ([1, 5, 1], [1, 5]), ([6, 6, 0, 1, 2, 3, 4, 5, 6], [6])])
def same14TB : List Nat := [0, 1, 0, 4, 12, 28, 63, 127]
theorem same14T_tab : rtab .any (opsOf Try.f28 14) = same14T := by kernel_rfl
theorem same14T_bits : waitsOk same14T.2 same14TB = true := by kernel_rfl
def same15T : Bool × List (List Nat × List Nat) := (true, [([], []), ([0], [0]), ([1], [1]), ([1, 2], [1, 2]), ([3, 1], [3]), ([4], [4]), ([4, 5], [4, 5]), ([6, 4], [6]), ([7], [7]), ([8, 7, 7], [7, 8]), ([7], [7]), ([10, 9, 7], [7, 10]), ([9, 11, 7], [7, 9, 11]), ([7, 12], [7, 12]), ([13, 11], [13]), ([14], [14]), ([15, 14, 14], [14, 15]), ([14], [14]), ([17, 14], [14, 17]), ([18, 14], [14, 18]), ([19, 14], [14, 19]), ([16, 20, 14], [14, 16, 20]), ([14, 21], [14, 21]), ([22, 16, 0, 1, 2, 3, 4, 5, 6, 7, 8, 9, 10, 11, 12, 13, 14, 15, 16, 17, 18, 19, 20, 21, 22], [22])])
def same15TB : List Nat := [0, 1, 3, 7, 15, 31, 63, 127, 255, 511, 255, 2047, 4095, 8191, 16383, 32767, 65535, 32767, 163839, 425983, 950271, 2097151, 4194303, 8388607]
theorem same15T_tab : rtab .any (opsOf Try.f28 15) = same15T := by kernel_rfl
theorem same15T_bits : waitsOk same15T.2 same15TB = true := by kernel_rfl
section
variable {B i : Nat} {w0 w : World} {D : List Thing} {t : Thing} {p q : Nat} {d : St}
theorem Many.rdown (h : Many B w0 w D) (hi : D[i]? = some (REF q d)) : w.cell? ⟨q, 2, none⟩ = some (.bool d.down) := by
  obtain ⟨A, c, hb, _, _⟩ := h.rcells hi
  have b2 := sb_cell hb 2
  simpa using b2
theorem names_len (d : St) : (names d).length = (filesOf d).length := by simp [names, filesOf]
/-- Two equal rows of files. -/
theorem same_eq {A A' : Option Addr} {c c' : Nat} {l : List SF} (h1 : kF.C w A l.length l) (h2 : l.length ≤ c) (h3 : kF.C w A' l.length l) (h4 : l.length ≤ c') (hl : l.length ≤ 1099511627776) (hm : ∀ x ∈ l, x.f1.length ≤ 1099511627776) :
    Calls Try.prog 25 #[.slice A l.length c, .slice A' l.length c'] w fun e w' => e = .returned (.bool true) ∧ Below w.heap.size w w' := by
  refine (same_calls h1 h2 h3 h4 hl hm).mono ?_
  rintro e w' ⟨he, hb⟩
  rw [decide_eq_true rfl] at he
  exact ⟨he, hb⟩
set_option maxHeartbeats 4000000 in
set_option maxRecDepth 100000 in
theorem same4_calls (hM : Many B w0 w (DISK p d :: REF q d :: D)) :
    Calls Try.prog 28 #[ptr p, ptr q] w fun e w' => e = .returned (.bool true) ∧ Many B w0 w' (DISK p d :: REF q d :: D) := by
  have OK := Lib.hid (hM.ok (i := 0) rfl)
  have HL := Lib.hid (files_len OK.out)
  have hlen : ((filesOf d).length : Int) ≤ 1099511627776 := by have := HL.out.1; omega
  obtain ⟨fs, hfs⟩ : ∃ fs, fs = filesOf d := ⟨_, rfl⟩
  have HFS := Lib.hid hfs
  have HNL := Lib.hid (names_len d)
  rw [← hfs] at HL hlen
  have HM := Lib.hid hM
  clear hM hfs
  go_enter Try.func28, Try.ntmps28
  go_upto_region 2 with (go_at_call 21; go_must ((with_reducible refine (m_filesS (p := p) (i := 0) (by exact HM.out) (by with_unfolding_all rfl)).mono ?_); rw [← HFS.out]; rintro e w1 ⟨A1, c1, rfl, -, h⟩; have H1 := Lib.hid h; clear h))
  obtain ⟨A2, c2, hb2, hc2, hC2⟩ := H1.out.rcells (i := 2) rfl
  obtain ⟨-, hc1, hC1⟩ := H1.out.sfiles (i := 0) rfl
  rw [← HFS.out] at hb2 hc2 hC2
  have x0 := sb_cell hb2 0
  simp at x0
  have HC1 := Lib.hid hC1
  have HC2 := Lib.hid hC2
  have Hc1 := Lib.hid hc1
  have Hc2 := Lib.hid hc2
  clear hb2 hc2 hC2 hc1 hC1
  go_upto_region 3 with (go_at_call 25; go_must ((with_reducible refine (same_eq (by exact HC1.out) (by exact Hc1.out) (by exact HC2.out) (by exact Hc2.out) (by exact HL.out.1) (by exact HL.out.2)).mono ?_); rintro e w2 ⟨rfl, h⟩; have H2 := Lib.hid (H1.out.read h); clear h))
  clear x0 HC1 HC2 Hc1 Hc2 H1
  go_upto_region 4 with (go_at_call 18; go_must ((with_reducible refine (m_list (p := p) (i := 1) (by exact H2.out) (by with_unfolding_all rfl)).mono ?_); rintro e w3 ⟨v3, rfl, h⟩; have H3 := Lib.hid h.front; clear h H2))
  obtain ⟨A3, c3, rfl, -, -, -⟩ := H3.out.texts (i := 0) rfl
  go_upto_region 5 with (first
    | (go_at_call 58; go_must ((with_reducible refine (mr_list (p := q) (i := 3) (by exact H3.out) (by with_unfolding_all rfl)).mono ?_); rintro e w4 ⟨v4, rfl, h⟩; obtain ⟨A4, c4, rfl, -, hC4, -⟩ := h.front.texts (i := 0) rfl; obtain ⟨_, _, e5, -, hC3, -⟩ := h.front.texts (i := 1) rfl; cases e5; have HC3 := Lib.hid hC3; have HC4 := Lib.hid hC4; have H4 := Lib.hid h.front.tail; clear h hC3 hC4 H3))
    | (go_at_call 57; go_must ((with_reducible refine (sameTexts_calls (by exact HC3.out) (by exact HC4.out)).mono ?_); rintro e w5 ⟨rfl, h⟩; have H5 := Lib.hid (H4.out.read h); clear h H4 HC3 HC4)))
  obtain ⟨_, _, e5, -, -, hM6⟩ := H5.out.texts (i := 0) rfl
  cases e5
  have H6 := Lib.hid (hM6.scrap (i := 1) rfl HL.out.2)
  clear hM6 H5
  have HN : Hid (Many B w0 w5 (CELLS 9 A3 fs.length :: SCRAP A1 0 fs.length HT :: DISK p d :: REF q d :: D)) := by
    have := H6.out
    rw [HNL.out, ← HFS.out] at this
    exact Lib.hid this
  clear H6
  rw [HNL.out, ← HFS.out]
  obtain ⟨n, hn⟩ : ∃ n, n = fs.length := ⟨_, rfl⟩
  rw [← hn] at HN hlen ⊢
  clear hn
  go_upto_region 6 with fail
  go_loopw [9, 10] (fun v9 v10 wr => ∃ k : Nat, k ≤ n ∧ v9 = .int .i64 k ∧ Hid (Many B w0 wr (CELLS 9 A3 n :: SCRAP A1 k n HT :: DISK p d :: REF q d :: D))) (fun v9 _ _ => n - (intOf v9).toNat)
  case atStart => exact ⟨0, Nat.zero_le _, rfl, HN⟩
  case round =>
    obtain ⟨k, hk, rfl, HW⟩ := hrel
    by_cases hlt : k < n
    · obtain ⟨g, A', m, c', rfl, hm, hmc, hM7⟩ := HW.out.scrap_at (i := 1) rfl hlt
      have H7 := Lib.hid hM7
      have hk2 : wrap64 ((k : Int) + 1) = (k : Int) + 1 := by unfold wrap64; omega
      have hml : (m : Int) ≤ 1099511627776 := by omega
      clear hM7 HW
      go_upto_region 9 with fail
      go_loopw [10] (fun v10 wq => ∃ j : Nat, j ≤ m ∧ v10 = .int .i64 j ∧ Hid (Many B w0 wq (CELLS 9 A3 n :: SCRAP (some ⟨g, 0, none⟩) k n (HK k (.slice A' m c') m) :: DISK p d :: REF q d :: D))) (fun v10 _ => m - (intOf v10).toNat)
      case atStart => exact ⟨0, Nat.zero_le _, rfl, H7⟩
      case round =>
        obtain ⟨j, hj, rfl, HQ⟩ := hrel
        obtain ⟨x0, f0⟩ := HQ.out.scrap_cell (i := 1) rfl hlt
        by_cases hjl : j < m
        · obtain ⟨g', u, rfl, y0, fy, hset⟩ := HQ.out.scrap_byte (i := 1) rfl hlt hjl
          have HSet := Lib.hid hset
          have hj2 : wrap64 ((j : Int) + 1) = (j : Int) + 1 := by unfold wrap64; omega
          clear hset
          go_wp2
          go_roundw
          case rel => exact ⟨j + 1, by omega, by first | rfl | (rw [hj2]; rfl), Lib.hid (HSet.out _)⟩
          case measure =>
            first
              | (show m - ((j : Int) + 1).toNat < m - (j : Int).toNat; omega)
              | (show m - (intOf (.int .i64 (wrap64 ((j : Int) + 1)))).toNat < m - (intOf (.int .i64 (j : Int))).toNat; rw [hj2]; show m - ((j : Int) + 1).toNat < m - (j : Int).toNat; omega)
        · have hjm : j = m := by omega
          subst hjm
          obtain ⟨ys, hys, hR, hgrow⟩ := HQ.out.scrap_grow (i := 1) rfl hlt
          subst hys
          have HR := Lib.hid hR
          have HG := Lib.hid hgrow
          clear hR hgrow HQ H7
          go_upto_region 13 with ((with_reducible refine gate_builtin (b := .append) (xs := #[.tmp 55, .tmp 56]) rfl ?_); at_builtin; go_must (refine Kd.R_append (Kd.int .u8) (w0 := wr) 0 rfl (.tmp 55) (.tmp 56) 34 5 (.int .u8 0) 1 rfl Try.underlying34 info5 rfl (by decide) (by omega) (.slice A' ys.length c') ys 97 [.int .u8 97] (fun _ => True) (fun _ => False) rfl rfl ?aP (fun _ hk => hk.elim) ?aF ?aO ?aB ?aS ?aL ?_); (case aP => exact rfl); (case aF => exact (fun _ _ => trivial)); (case aO => exact HR.out); (case aB => exact Below.refl _ _); (case aS => exact Nat.zero_le _); (case aL => omega); intro v1 w1' ho hb hg hat; obtain ⟨A7, c7, e7⟩ := Kd.R_slice ho; subst e7; have HGG := Lib.hid (HG.out _ hg); obtain ⟨z0, fz⟩ := HGG.out.1; clear x0 f0 HG ho hb hg hat)
          have HS := Lib.hid (HGG.out.2 (.slice A7 (ys.length + 1) c7))
          clear HGG z0 fz
          generalize World.setCell _ _ _ = ws at HS ⊢
          obtain ⟨g', u, rfl, y0, fy, hset⟩ := HS.out.cellset (i := 0) rfl hlt
          have HSet := Lib.hid hset
          clear hset
          go_wp2
          go_roundw
          case rel => exact ⟨k + 1, by omega, by first | rfl | (rw [hk2]; rfl), Lib.hid (HSet.out _)⟩
          case measure =>
            first
              | (show n - ((k : Int) + 1).toNat < n - (k : Int).toNat; omega)
              | (show n - (intOf (.int .i64 (wrap64 ((k : Int) + 1)))).toNat < n - (intOf (.int .i64 (k : Int))).toNat; rw [hk2]; show n - ((k : Int) + 1).toNat < n - (k : Int).toNat; omega)
    · have hkn : k = n := by omega
      subst hkn
      have HE := Lib.hid HW.out.tail.tail
      clear HW HN
      go_upto_region 14 with fail
      have HD := Lib.hid (HE.out.read (below_drew (Below.refl _ _)))
      clear HE
      obtain ⟨A5, c5, hb5, hc5, hC5⟩ := HD.out.rcells (i := 1) rfl
      have y0 := sb_cell hb5 0
      simp at y0
      replace y0 : wr.drew.cell? ⟨q, 0, none⟩ = some (.slice A5 (filesOf d).length c5) := y0
      have HC5 := Lib.hid hC5
      have Hc5 := Lib.hid hc5
      clear hb5 hc5 hC5
      refine start_ (n := 8) (S := fun w' => w'.cell? ⟨q, 0, none⟩ = some (.slice A5 (filesOf d).length c5)) (ds := []) #[false, false, false, false, false, false, false, false] (by kernel_rfl) rfl rfl y0 (fun hHeld => ?_)
      refine with_tabW same14T_tab same14T_bits (fun HT_ HW_ => ?_)
      generalize World.drew _ = wd at HD HC5 y0 hHeld ⊢
      refine pure_ (i := 0) (N := (some 63)) (v := ?_) (a' := ?_) #[true, false, false, false, false, false, false, false] rfl rfl (any_of HT_.out (by kernel_rfl)) (fun _ _ _ h => h) (Or.inl ⟨by rfl, ?_⟩) ?_ ?_
      rotate_left
      · intro w'
        go_simp
        with_reducible rfl
      rotate_left
      · simp only [Act.put, List.setIfInBounds_toArray, List.set_cons_zero, List.set_cons_succ, i64_w, i32_w]
        rfl
      refine pure_ (i := 2) (N := (some 65)) (v := ?_) (a' := ?_) #[true, false, true, false, false, false, false, false] rfl rfl (any_of HT_.out (by kernel_rfl)) (fun _ _ _ h => h) (Or.inl ⟨by rfl, ?_⟩) ?_ ?_
      rotate_left
      · intro w'
        go_simp
        with_reducible rfl
      rotate_left
      · simp only [Act.put, List.setIfInBounds_toArray, List.set_cons_zero, List.set_cons_succ, i64_w, i32_w]
        rfl
      refine pure_ (i := 3) (N := (some 66)) (v := ?_) (a' := ?_) #[true, false, true, true, false, false, false, false] rfl rfl (any_of HT_.out (by kernel_rfl)) (fun _ _ _ h => h) (Or.inl ⟨by rfl, ?_⟩) ?_ ?_
      rotate_left
      · intro w'
        go_simp
        with_reducible rfl
      rotate_left
      · simp only [Act.put, List.setIfInBounds_toArray, List.set_cons_zero, List.set_cons_succ, i64_w, i32_w]
        rfl
      refine pure_ (i := 4) (N := (some 67)) (v := ?_) (a' := ?_) #[true, false, true, true, true, false, false, false] rfl rfl (any_of HT_.out (by kernel_rfl)) (fun _ _ _ h => h) (Or.inl ⟨by rfl, ?_⟩) ?_ ?_
      rotate_left
      · intro w'
        go_simp
        with_reducible rfl
      rotate_left
      · simp only [Act.put, List.setIfInBounds_toArray, List.set_cons_zero, List.set_cons_succ, i64_w, i32_w]
        rfl
      refine take_ (i := 5) (N := (some 68)) (v := ?_) (a' := ?_) #[true, false, true, true, true, true, false, false] rfl rfl (take_ofW HT_.out HW_.out (by kernel_rfl)) (fun _ _ _ h => h) (Or.inl ⟨by rfl, ?_⟩) hHeld ?_ ?_
      rotate_left
      · intro w' s0
        go_simp
        with_reducible rfl
      rotate_left
      · simp only [Act.put, List.setIfInBounds_toArray, List.set_cons_zero, List.set_cons_succ, i64_w, i32_w]
        rfl
      refine one_ (i := 1) (N := (some 64)) #[true, true, true, true, true, true, false, false] rfl rfl (one_of HT_.out (by kernel_rfl)) (by decide) (fun K hK => ?_)
      refine goes_ Try.func21 (by kernel_rfl) rfl #[ptr p] (by rfl) rfl rfl (by (try simp only [List.map_toArray, List.map_cons, List.map_nil]); rfl) ?_
      with_reducible refine (m_filesS (p := p) (i := 0) (by exact HD.out) (by with_unfolding_all rfl)).mono ?_
      rintro e w6 ⟨A6, c6, rfl, hb6, h6⟩
      refine ⟨_, rfl, ?_⟩
      have H6 := Lib.hid h6
      have y6 := (hb6.cell (World.block_lt_of_cell? wd _ y0)).trans y0
      have HC6 := Lib.hid (Kd.C_below HC5.out hb6)
      clear h6 hb6
      refine hK.out _ _ y6 (fun hHeld => ?_)
      clear hK K
      refine norm_ (a' := ?_) ?_ ?_
      rotate_left
      · show Act.put _ (some 64) _ = _
        simp only [Act.put, List.setIfInBounds_toArray, List.set_cons_zero, List.set_cons_succ, i64_w, i32_w]
        rfl
      refine one_ (i := 6) (N := (some 69)) #[true, true, true, true, true, true, true, false] rfl rfl (one_of HT_.out (by kernel_rfl)) (by decide) (fun K hK => ?_)
      refine goes_ Try.func25 (by kernel_rfl) rfl #[.slice A6 (filesOf d).length c6, .slice A5 (filesOf d).length c5] (by rfl) rfl rfl (by (try simp only [List.map_toArray, List.map_cons, List.map_nil]); rfl) ?_
      with_reducible refine (same_eq (by exact (H6.out.sfiles (i := 0) rfl).2.2) (by exact (H6.out.sfiles (i := 0) rfl).2.1) (by exact HC6.out) (by exact Hc5.out) (by exact (files_len OK.out).1) (by exact (files_len OK.out).2)).mono ?_
      rintro e w7 ⟨rfl, hb7⟩
      refine ⟨_, rfl, ?_⟩
      have H7 := Lib.hid (H6.out.read hb7)
      have y7 := (hb7.cell (World.block_lt_of_cell? w6 _ y6)).trans y6
      clear hb7
      refine hK.out _ _ y7 (fun hHeld => ?_)
      clear hK K
      refine norm_ (a' := ?_) ?_ ?_
      rotate_left
      · show Act.put _ (some 69) _ = _
        simp only [Act.put, List.setIfInBounds_toArray, List.set_cons_zero, List.set_cons_succ, i64_w, i32_w]
        rfl
      refine pure_ (i := 7) (N := (some 11)) (v := ?_) (a' := ?_) #[true, true, true, true, true, true, true, true] rfl rfl (any_of HT_.out (by kernel_rfl)) (fun _ _ _ h => h) (Or.inl ⟨by rfl, ?_⟩) ?_ ?_
      rotate_left
      · intro w'
        go_simp
        with_reducible rfl
      rotate_left
      · simp only [Act.put, List.setIfInBounds_toArray, List.set_cons_zero, List.set_cons_succ, i64_w, i32_w]
        rfl
      refine done_ (done_of HT_.out (by kernel_rfl)) ?_
      clear hHeld y6 y7 y0 HC5 HC6
      have H8 := Lib.hid H7.out.tail
      clear H7 H6 HD
      go_upto_region 15 with fail
      have HF := Lib.hid (H8.out.read (below_drew (Below.refl _ _)))
      clear H8
      have z0 := HF.out.rdown (i := 1) rfl
      refine start_ (n := 24) (S := fun w' => w'.cell? ⟨q, 2, none⟩ = some (.bool d.down)) (ds := []) #[false, false, false, false, false, false, false, false, false, false, false, false, false, false, false, false, false, false, false, false, false, false, false, false] (by kernel_rfl) rfl rfl z0 (fun hHeld => ?_)
      refine with_tabW same15T_tab same15T_bits (fun HT_ HW_ => ?_)
      generalize World.drew _ = wd at HF hHeld ⊢
      clear z0
      refine pure_ (i := 0) (N := (some 70)) (v := ?_) (a' := ?_) #[true, false, false, false, false, false, false, false, false, false, false, false, false, false, false, false, false, false, false, false, false, false, false, false] rfl rfl (any_of HT_.out (by kernel_rfl)) (fun _ _ _ h => h) (Or.inl ⟨by rfl, ?_⟩) ?_ ?_
      rotate_left
      · intro w'
        go_simp
        with_reducible rfl
      rotate_left
      · simp only [Act.put, List.setIfInBounds_toArray, List.set_cons_zero, List.set_cons_succ, i64_w, i32_w]
        rfl
      refine pure_ (i := 1) (N := (some 71)) (v := ?_) (a' := ?_) #[true, true, false, false, false, false, false, false, false, false, false, false, false, false, false, false, false, false, false, false, false, false, false, false] rfl rfl (any_of HT_.out (by kernel_rfl)) (fun _ _ _ h => h) (Or.inl ⟨by rfl, ?_⟩) ?_ ?_
      rotate_left
      · intro w'
        go_simp
        with_reducible rfl
      rotate_left
      · simp only [Act.put, List.setIfInBounds_toArray, List.set_cons_zero, List.set_cons_succ, i64_w, i32_w]
        rfl
      refine pure_ (i := 2) (N := (some 72)) (v := ?_) (a' := ?_) #[true, true, true, false, false, false, false, false, false, false, false, false, false, false, false, false, false, false, false, false, false, false, false, false] rfl rfl (any_of HT_.out (by kernel_rfl)) (fun _ _ _ h => h) (Or.inl ⟨by rfl, ?_⟩) ?_ ?_
      rotate_left
      · intro w'
        go_simp
        with_reducible rfl
      rotate_left
      · simp only [Act.put, List.setIfInBounds_toArray, List.set_cons_zero, List.set_cons_succ, i64_w, i32_w]
        rfl
      refine pure_ (i := 3) (N := (some 73)) (v := ?_) (a' := ?_) #[true, true, true, true, false, false, false, false, false, false, false, false, false, false, false, false, false, false, false, false, false, false, false, false] rfl rfl (any_of HT_.out (by kernel_rfl)) (fun _ _ _ h => h) (Or.inl ⟨by rfl, ?_⟩) ?_ ?_
      rotate_left
      · intro w'
        go_simp
        with_reducible rfl
      rotate_left
      · simp only [Act.put, List.setIfInBounds_toArray, List.set_cons_zero, List.set_cons_succ, i64_w, i32_w]
        rfl
      refine pure_ (i := 4) (N := (some 74)) (v := ?_) (a' := ?_) #[true, true, true, true, true, false, false, false, false, false, false, false, false, false, false, false, false, false, false, false, false, false, false, false] rfl rfl (any_of HT_.out (by kernel_rfl)) (fun _ _ _ h => h) (Or.inl ⟨by rfl, ?_⟩) ?_ ?_
      rotate_left
      · intro w'
        go_simp
        with_reducible rfl
      rotate_left
      · simp only [Act.put, List.setIfInBounds_toArray, List.set_cons_zero, List.set_cons_succ, i64_w, i32_w]
        rfl
      refine pure_ (i := 5) (N := (some 75)) (v := ?_) (a' := ?_) #[true, true, true, true, true, true, false, false, false, false, false, false, false, false, false, false, false, false, false, false, false, false, false, false] rfl rfl (any_of HT_.out (by kernel_rfl)) (fun _ _ _ h => h) (Or.inl ⟨by rfl, ?_⟩) ?_ ?_
      rotate_left
      · intro w'
        go_simp
        with_reducible rfl
      rotate_left
      · simp only [Act.put, List.setIfInBounds_toArray, List.set_cons_zero, List.set_cons_succ, i64_w, i32_w]
        rfl
      refine pure_ (i := 6) (N := (some 76)) (v := ?_) (a' := ?_) #[true, true, true, true, true, true, true, false, false, false, false, false, false, false, false, false, false, false, false, false, false, false, false, false] rfl rfl (any_of HT_.out (by kernel_rfl)) (fun _ _ _ h => h) (Or.inl ⟨by rfl, ?_⟩) ?_ ?_
      rotate_left
      · intro w'
        go_simp
        with_reducible rfl
      rotate_left
      · simp only [Act.put, List.setIfInBounds_toArray, List.set_cons_zero, List.set_cons_succ, i64_w, i32_w]
        rfl
      refine pure_ (i := 7) (N := (some 77)) (v := ?_) (a' := ?_) #[true, true, true, true, true, true, true, true, false, false, false, false, false, false, false, false, false, false, false, false, false, false, false, false] rfl rfl (any_of HT_.out (by kernel_rfl)) (fun _ _ _ h => h) (Or.inl ⟨by rfl, ?_⟩) ?_ ?_
      rotate_left
      · intro w'
        go_simp
        with_reducible rfl
      rotate_left
      · simp only [Act.put, List.setIfInBounds_toArray, List.set_cons_zero, List.set_cons_succ, i64_w, i32_w]
        rfl
      refine pure_ (i := 8) (N := (some 78)) (v := ?_) (a' := ?_) #[true, true, true, true, true, true, true, true, true, false, false, false, false, false, false, false, false, false, false, false, false, false, false, false] rfl rfl (any_of HT_.out (by kernel_rfl)) (fun _ _ _ h => h) (Or.inl ⟨by rfl, ?_⟩) ?_ ?_
      rotate_left
      · intro w'
        go_simp
        with_reducible rfl
      rotate_left
      · simp only [Act.put, List.setIfInBounds_toArray, List.set_cons_zero, List.set_cons_succ, i64_w, i32_w]
        rfl
      refine pure_ (i := 10) (N := (some 80)) (v := ?_) (a' := ?_) #[true, true, true, true, true, true, true, true, true, false, true, false, false, false, false, false, false, false, false, false, false, false, false, false] rfl rfl (any_of HT_.out (by kernel_rfl)) (fun _ _ _ h => h) (Or.inl ⟨by rfl, ?_⟩) ?_ ?_
      rotate_left
      · intro w'
        go_simp
        with_reducible rfl
      rotate_left
      · simp only [Act.put, List.setIfInBounds_toArray, List.set_cons_zero, List.set_cons_succ, i64_w, i32_w]
        rfl
      refine one_ (i := 9) (N := (some 79)) #[true, true, true, true, true, true, true, true, true, true, true, false, false, false, false, false, false, false, false, false, false, false, false, false] rfl rfl (one_of HT_.out (by kernel_rfl)) (by decide) (fun K hK => ?_)
      refine goes_ Try.func16 (by kernel_rfl) rfl #[ptr p] (by rfl) rfl rfl (by (try simp only [List.map_toArray, List.map_cons, List.map_nil]); rfl) ?_
      with_reducible refine (m_size (p := p) (i := 0) (by exact HF.out) (by with_unfolding_all rfl)).mono ?_
      rintro e w8 ⟨rfl, h8⟩
      refine ⟨_, rfl, ?_⟩
      have H8 := Lib.hid h8
      have z8 := H8.out.rdown (i := 1) rfl
      clear h8
      refine hK.out _ _ z8 (fun hHeld => ?_)
      clear hK K
      refine norm_ (a' := ?_) ?_ ?_
      rotate_left
      · show Act.put _ (some 79) _ = _
        simp only [Act.put, List.setIfInBounds_toArray, List.set_cons_zero, List.set_cons_succ, i64_w, i32_w]
        rfl
      refine one_ (i := 11) (N := (some 81)) #[true, true, true, true, true, true, true, true, true, true, true, true, false, false, false, false, false, false, false, false, false, false, false, false] rfl rfl (one_of HT_.out (by kernel_rfl)) (by decide) (fun K hK => ?_)
      refine goes_ Try.func17 (by kernel_rfl) rfl #[ptr q] (by rfl) rfl rfl (by (try simp only [List.map_toArray, List.map_cons, List.map_nil]); rfl) ?_
      with_reducible refine (mr_size (p := q) (i := 1) (by exact H8.out) (by with_unfolding_all rfl)).mono ?_
      rintro e w9 ⟨rfl, rfl⟩
      refine ⟨_, rfl, ?_⟩
      refine hK.out _ _ z8 (fun hHeld => ?_)
      clear hK K
      refine norm_ (a' := ?_) ?_ ?_
      rotate_left
      · show Act.put _ (some 81) _ = _
        simp only [Act.put, List.setIfInBounds_toArray, List.set_cons_zero, List.set_cons_succ, i64_w, i32_w]
        rfl
      refine pure_ (i := 12) (N := (some 82)) (v := ?_) (a' := ?_) #[true, true, true, true, true, true, true, true, true, true, true, true, true, false, false, false, false, false, false, false, false, false, false, false] rfl rfl (any_of HT_.out (by kernel_rfl)) (fun _ _ _ h => h) (Or.inl ⟨by rfl, ?_⟩) ?_ ?_
      rotate_left
      · intro w'
        go_simp
        with_reducible rfl
      rotate_left
      · simp only [Act.put, List.setIfInBounds_toArray, List.set_cons_zero, List.set_cons_succ, i64_w, i32_w]
        rfl
      refine pure_ (i := 13) (N := (some 83)) (v := ?_) (a' := ?_) #[true, true, true, true, true, true, true, true, true, true, true, true, true, true, false, false, false, false, false, false, false, false, false, false] rfl rfl (any_of HT_.out (by kernel_rfl)) (fun _ _ _ h => h) (Or.inl ⟨by rfl, ?_⟩) ?_ ?_
      rotate_left
      · intro w'
        go_simp
        with_reducible rfl
      rotate_left
      · simp only [Act.put, List.setIfInBounds_toArray, List.set_cons_zero, List.set_cons_succ, i64_w, i32_w]
        rfl
      refine pure_ (i := 14) (N := (some 84)) (v := ?_) (a' := ?_) #[true, true, true, true, true, true, true, true, true, true, true, true, true, true, true, false, false, false, false, false, false, false, false, false] rfl rfl (any_of HT_.out (by kernel_rfl)) (fun _ _ _ h => h) (Or.inl ⟨by rfl, ?_⟩) ?_ ?_
      rotate_left
      · intro w'
        go_simp
        with_reducible rfl
      rotate_left
      · simp only [Act.put, List.setIfInBounds_toArray, List.set_cons_zero, List.set_cons_succ, i64_w, i32_w]
        rfl
      refine pure_ (i := 15) (N := (some 85)) (v := ?_) (a' := ?_) #[true, true, true, true, true, true, true, true, true, true, true, true, true, true, true, true, false, false, false, false, false, false, false, false] rfl rfl (any_of HT_.out (by kernel_rfl)) (fun _ _ _ h => h) (Or.inl ⟨by rfl, ?_⟩) ?_ ?_
      rotate_left
      · intro w'
        go_simp
        with_reducible rfl
      rotate_left
      · simp only [Act.put, List.setIfInBounds_toArray, List.set_cons_zero, List.set_cons_succ, i64_w, i32_w]
        rfl
      refine pure_ (i := 17) (N := (some 87)) (v := ?_) (a' := ?_) #[true, true, true, true, true, true, true, true, true, true, true, true, true, true, true, true, false, true, false, false, false, false, false, false] rfl rfl (any_of HT_.out (by kernel_rfl)) (fun _ _ _ h => h) (Or.inl ⟨by rfl, ?_⟩) ?_ ?_
      rotate_left
      · intro w'
        go_simp
        with_reducible rfl
      rotate_left
      · simp only [Act.put, List.setIfInBounds_toArray, List.set_cons_zero, List.set_cons_succ, i64_w, i32_w]
        rfl
      refine pure_ (i := 18) (N := (some 88)) (v := ?_) (a' := ?_) #[true, true, true, true, true, true, true, true, true, true, true, true, true, true, true, true, false, true, true, false, false, false, false, false] rfl rfl (any_of HT_.out (by kernel_rfl)) (fun _ _ _ h => h) (Or.inl ⟨by rfl, ?_⟩) ?_ ?_
      rotate_left
      · intro w'
        go_simp
        with_reducible rfl
      rotate_left
      · simp only [Act.put, List.setIfInBounds_toArray, List.set_cons_zero, List.set_cons_succ, i64_w, i32_w]
        rfl
      refine pure_ (i := 19) (N := (some 89)) (v := ?_) (a' := ?_) #[true, true, true, true, true, true, true, true, true, true, true, true, true, true, true, true, false, true, true, true, false, false, false, false] rfl rfl (any_of HT_.out (by kernel_rfl)) (fun _ _ _ h => h) (Or.inl ⟨by rfl, ?_⟩) ?_ ?_
      rotate_left
      · intro w'
        go_simp
        with_reducible rfl
      rotate_left
      · simp only [Act.put, List.setIfInBounds_toArray, List.set_cons_zero, List.set_cons_succ, i64_w, i32_w]
        rfl
      refine take_ (i := 20) (N := (some 90)) (v := ?_) (a' := ?_) #[true, true, true, true, true, true, true, true, true, true, true, true, true, true, true, true, false, true, true, true, true, false, false, false] rfl rfl (take_ofW HT_.out HW_.out (by kernel_rfl)) (fun _ _ _ h => h) (Or.inl ⟨by rfl, ?_⟩) hHeld ?_ ?_
      rotate_left
      · intro w' s0
        go_simp
        with_reducible rfl
      rotate_left
      · simp only [Act.put, List.setIfInBounds_toArray, List.set_cons_zero, List.set_cons_succ, i64_w, i32_w]
        rfl
      refine one_ (i := 16) (N := (some 86)) #[true, true, true, true, true, true, true, true, true, true, true, true, true, true, true, true, true, true, true, true, true, false, false, false] rfl rfl (one_of HT_.out (by kernel_rfl)) (by decide) (fun K hK => ?_)
      refine goes_ Try.func23 (by kernel_rfl) rfl #[ptr p] (by rfl) rfl rfl (by (try simp only [List.map_toArray, List.map_cons, List.map_nil]); rfl) ?_
      with_reducible refine (m_down (p := p) (i := 0) (by exact H8.out) (by with_unfolding_all rfl)).mono ?_
      rintro e w10 ⟨rfl, h10⟩
      refine ⟨_, rfl, ?_⟩
      have H10 := Lib.hid h10
      have z10 := H10.out.rdown (i := 1) rfl
      clear h10
      refine hK.out _ _ z10 (fun hHeld => ?_)
      clear hK K
      refine norm_ (a' := ?_) ?_ ?_
      rotate_left
      · show Act.put _ (some 86) _ = _
        simp only [Act.put, List.setIfInBounds_toArray, List.set_cons_zero, List.set_cons_succ, i64_w, i32_w]
        rfl
      refine pure_ (i := 21) (N := (some 91)) (v := ?_) (a' := ?_) #[true, true, true, true, true, true, true, true, true, true, true, true, true, true, true, true, true, true, true, true, true, true, false, false] rfl rfl (any_of HT_.out (by kernel_rfl)) (fun _ _ _ h => h) (Or.inl ⟨by rfl, ?_⟩) ?_ ?_
      rotate_left
      · intro w'
        go_simp
        with_reducible rfl
      rotate_left
      · simp only [Act.put, List.setIfInBounds_toArray, List.set_cons_zero, List.set_cons_succ, i64_w, i32_w]
        rfl
      refine pure_ (i := 22) (N := (some 92)) (v := ?_) (a' := ?_) #[true, true, true, true, true, true, true, true, true, true, true, true, true, true, true, true, true, true, true, true, true, true, true, false] rfl rfl (any_of HT_.out (by kernel_rfl)) (fun _ _ _ h => h) (Or.inl ⟨by rfl, ?_⟩) ?_ ?_
      rotate_left
      · intro w'
        go_simp
        with_reducible rfl
      rotate_left
      · simp only [Act.put, List.setIfInBounds_toArray, List.set_cons_zero, List.set_cons_succ, i64_w, i32_w]
        rfl
      refine pure_ (i := 23) (N := (some 4)) (v := ?_) (a' := ?_) #[true, true, true, true, true, true, true, true, true, true, true, true, true, true, true, true, true, true, true, true, true, true, true, true] rfl rfl (any_of HT_.out (by kernel_rfl)) (fun _ _ _ h => h) (Or.inl ⟨by rfl, ?_⟩) ?_ ?_
      rotate_left
      · intro w'
        go_simp
        with_reducible rfl
      rotate_left
      · simp only [Act.put, List.setIfInBounds_toArray, List.set_cons_zero, List.set_cons_succ, i64_w, i32_w]
        rfl
      refine done_ (done_of HT_.out (by kernel_rfl)) ?_
      clear hHeld z8 z10
      go_wp2
      go_ret
      exact ⟨by simp, H10.out⟩
end
end Go.Proofs.Ytflajlnknimjaaa.Dk

/- Load: its walk. -/
namespace Go.Proofs.Ytflajlnknimjaaa.Dk
open Go.RowKit Go.Maps Go.Proofs.YtflajlnknimjaaaW.PrintWords Go.Proofs.YtflajlnknimjaaaW.PrintMore Go.Proofs.YtflajlnknimjaaaW.PrintLast Go.Proofs.Ytflajlnknimjaaa.Syn Go.Proofs.Ytflajlnknimjaaa.PDiskLoads

def loadT : Bool × List (List Nat × List Nat) := (true, [([], []), ([0], [0]), ([1], [1]), ([2], [2]), ([], []), ([4], [4]), ([], []), ([6], [6]), ([7], [7]), ([], []), ([9], [9]), ([8, 10], [8, 10]), ([11], [11]), ([3, 5, 12, 8, 0, 1, 2, 3, 4, 5, 6, 7, 8, 9, 10, 11, 12], [3, 5, 12])])
def loadTB : List Nat := [0, 1, 3, 7, 0, 16, 0, 64, 192, 0, 512, 1984, 4032, 8191]
theorem loadT_tab : rtab .any (opsOf Try.f29 11) = loadT := by kernel_rfl
theorem loadT_bits : waitsOk loadT.2 loadTB = true := by kernel_rfl

section
variable {B i : Nat} {w0 w : World} {D : List Thing}
theorem get_left {t : Thing} (h : D[i]? = some t) (u : Thing) : (D ++ [u])[i]? = some t := by
  rw [List.getElem?_append_left (List.getElem?_eq_some_iff.1 h).1, h]
theorem load_at {w : World} {l : List SF} {A : Option Addr} (h : kF.C w A l.length l) {k : Nat} (hk : k < l.length) :
    ∃ ad A4 c4, A = some ad ∧ w.cell? (ad.add (k * 3)) = some (.string l[k].f0) ∧ w.cell? ⟨(ad.add (k * 3)).block, (ad.add (k * 3)).off + 1, none⟩ = some (.slice A4 l[k].f1.length c4) ∧ w.cell? ⟨(ad.add (k * 3)).block, (ad.add (k * 3)).off + 2, none⟩ = some (.int .i64 l[k].f2) ∧ l[k].f1.length ≤ c4 ∧ (Kd.int .u8).C w A4 l[k].f1.length l[k].f1 := by
  obtain ⟨ad, A4, c4, rfl, x0, x1, x2, h1, h2⟩ := at_T36 h (k : Int) (by omega) (by omega)
  have e : rd_T36 l (k : Int) = l[k] := rdF hk
  rw [e] at x0 x1 x2 h1 h2
  simp only [Int.toNat_natCast] at x0 x1 x2
  exact ⟨ad, A4, c4, rfl, x0, x1, x2, h1, h2⟩
set_option maxHeartbeats 2000000 in
set_option maxRecDepth 100000 in
theorem m_loadG (hM : Many B w0 w D) {A : Option Addr} {c : Nat} {l : List SF} {t : Thing} (hi : D[i]? = some t) (hrd : ∀ w F, t.P w F → kF.C w A l.length l) (hl : l.length ≤ 1048576) (hf : ∀ x ∈ l, FileFits x) (ht : ((l.map fun f => f.f1.length).sum) ≤ 1099511627776) :
    Calls Try.prog 29 #[.slice A l.length c] w (LoadPost B w0 D l) := by
  have HM := Lib.hid hM
  have HI := Lib.hid hi
  have HRd := Lib.hid hrd
  clear hrd
  have HF := Lib.hid hf
  have HT := Lib.hid ht
  clear hM hi hf ht
  go_enter Try.func29, Try.ntmps29
  go_wp2_with (go_at_call 10; refine (m_new HM.out).mono ?_; rintro e w1 ⟨p, rfl, h1⟩; have H1 := Lib.hid h1.raw; clear h1)
  go_loopw [10] (fun v10 wr => ∃ (k : Nat) (d : St), k ≤ l.length ∧ v10 = .int .i64 k ∧ Hid (Half l k d) ∧ Hid (Many B w0 wr (D ++ [RAW p d]))) (fun v10 _ => l.length - (intOf v10).toNat)
  case atStart => exact ⟨0, St.new, Nat.zero_le _, rfl, Lib.hid (Half.new l), H1⟩
  case round =>
    obtain ⟨k, d, hk, rfl, HH, HR⟩ := hrel
    by_cases hlt : k < l.length
    · obtain ⟨F0, hP0, -⟩ := HR.out.get (get_left HI.out _)
      obtain ⟨ad, A4, c4, rfl, x0, x1, x2, hl4, hC4⟩ := load_at (HRd.out _ _ hP0) hlt
      clear hP0
      have hfit := HF.out _ (List.getElem_mem hlt)
      obtain ⟨x, hx⟩ : ∃ x, x = l[k] := ⟨_, rfl⟩
      rw [← hx] at x0 x1 x2 hl4 hC4 hfit
      have HX := Lib.hid hx
      clear hx
      obtain ⟨W, hW⟩ : ∃ W, W = wr.alloc (.cells #[.string x.f0, .slice A4 x.f1.length c4, .int .i64 x.f2] 36) := ⟨_, rfl⟩
      have hbl : Below wr.heap.size wr W := by rw [hW]; exact below_alloc (Below.refl _ _) _
      have b : W.heap[wr.heap.size]? = some (.cells #[.string x.f0, .slice A4 x.f1.length c4, .int .i64 x.f2] 36 (0, 0)) := by rw [hW]; exact sb_new _ _
      have hMW := HR.out.read hbl
      have hCW := Kd.C_below hC4 hbl
      have hWs : W.heap.size = wr.heap.size + 1 := by rw [hW]; simp
      have HCW := Lib.hid hCW
      have HMW := Lib.hid hMW
      have HBW := Lib.hid b
      have HWs := Lib.hid hWs
      clear hCW hMW hbl hC4 b hWs
      have HFn : Hid (x.f0.size ≤ 140737488351232) := Lib.hid hfit.name
      have HFd : Hid (x.f1.length ≤ 1099511627776) := Lib.hid hfit.dat
      have hdl : (x.f1.length : Int) ≤ 1099511627776 := by have := hfit.dat; omega
      clear hfit
      have HLT := Lib.hid hlt
      have HN1 : Hid (okName x.f0 = false → load l = (7, none)) := Lib.hid (fun h => HH.out.no1 HLT.out (by rw [← HX.out]; exact h))
      have HN2 : Hid (okName x.f0 = true → (look Fl.nm x.f0 d.fs).isSome = true → load l = (9, none)) := Lib.hid (fun h h2 => HH.out.no2 HLT.out (by rw [← HX.out]; exact h) (by rw [← HX.out]; exact h2))
      have HN3 : Hid (okName x.f0 = true → (look Fl.nm x.f0 d.fs).isSome = false → x.f2 < 0 ∨ (x.f1.length : Int) < x.f2 → load l = (1, none)) := Lib.hid (fun h h2 h3 => HH.out.no3 HLT.out (by rw [← HX.out]; exact h) (by rw [← HX.out]; exact h2) (by rw [← HX.out]; exact h3))
      have HST : Hid (okName x.f0 = true → (look Fl.nm x.f0 d.fs).isSome = false → ¬ (x.f2 < 0 ∨ (x.f1.length : Int) < x.f2) → Half l (k + 1) { d with fs := ins Fl.nm (SF.fl x) d.fs }) := Lib.hid (fun h h2 h3 => by rw [HX.out] at h h2 h3 ⊢; exact HH.out.step HLT.out h (by simpa using h2) h3)
      go_upto_region 5 with (fail)
      rw [← hW]
      clear hW HX x0 x1 x2
      obtain ⟨q, hq⟩ : ∃ q, q = wr.heap.size := ⟨_, rfl⟩
      have hqW : q < W.heap.size := by rw [HWs.out, hq]; omega
      have HQW := Lib.hid hqW
      rw [← hq] at HBW ⊢
      have HMr := Lib.hid HR
      clear hq HWs HR HMr hqW
      obtain ⟨nm, dat, sy⟩ := x
      simp only at *
      have z0 := sb_cell HBW.out 0
      simp at z0
      cases hok : okName nm with
      | false =>
        have HNo := Lib.hid (HN1.out hok)
        have HOK := Lib.hid hok
        clear hok HN1 HN2 HN3 HST
        go_wp2_with (go_at_call 33; refine (named_calls _ _ (by have := HFn.out; omega)).mono ?_; rw [HOK.out]; rintro e w2 ⟨rfl, hd⟩; have HD := Lib.hid hd; clear hd)
        go_ret2
        exact LoadPost.no HNo.out (HMW.out.read HD.out.below).less
      | true =>
      cases hlk : (look Fl.nm nm d.fs).isSome with
      | true =>
        have HNo := Lib.hid (HN2.out hok hlk)
        have HOK := Lib.hid hok
        have HLK := Lib.hid hlk
        clear hok hlk HN1 HN2 HN3 HST
        go_wp2_with (first
          | (go_at_call 33; refine (named_calls _ _ (by have := HFn.out; omega)).mono ?_; rw [HOK.out]; rintro e w2 ⟨rfl, hd⟩; have b2 := (hd.below.block _ (blk_lt HBW.out)).trans HBW.out; have y0 := sb_cell b2 0; have y1 := sb_cell b2 1; have y2 := sb_cell b2 2; simp at y0 y1 y2; have HB2 := Lib.hid b2; have HM2 := Lib.hid (HMW.out.read hd.below); clear b2 hd)
          | (go_at_call 34; refine (raw_has (i := D.length) (by exact HM2.out) (get_last _ _) nm (by exact HFn.out)).mono ?_; rw [HLK.out]; rintro e w3 ⟨rfl, rfl⟩))
        go_ret2
        exact LoadPost.no HNo.out HM2.out.less
      | false =>
      by_cases hbad : sy < 0 ∨ (dat.length : Int) < sy
      · have HNo := Lib.hid (HN3.out hok hlk hbad)
        have HOK := Lib.hid hok
        have HLK := Lib.hid hlk
        clear hok hlk HN1 HN2 HN3 HST
        by_cases h0 : sy < 0
        · have t1 : decide (sy < 0) = true := decide_eq_true h0
          clear hbad
          go_wp2_with (first
            | (go_at_call 33; refine (named_calls _ _ (by have := HFn.out; omega)).mono ?_; rw [HOK.out]; rintro e w2 ⟨rfl, hd⟩; have b2 := (hd.below.block _ (blk_lt HBW.out)).trans HBW.out; have y0 := sb_cell b2 0; have y1 := sb_cell b2 1; have y2 := sb_cell b2 2; simp at y0 y1 y2; have HB2 := Lib.hid b2; have HM2 := Lib.hid (HMW.out.read hd.below); clear b2 hd)
            | (go_at_call 34; refine (raw_has (i := D.length) (by exact HM2.out) (get_last _ _) nm (by exact HFn.out)).mono ?_; rw [HLK.out]; rintro e w3 ⟨rfl, rfl⟩))
          go_ret2
          exact LoadPost.no HNo.out HM2.out.less
        · have h1 : (dat.length : Int) < sy := by omega
          have t1 : decide (sy < 0) = false := decide_eq_false h0
          have t2 : decide ((dat.length : Int) < sy) = true := decide_eq_true h1
          clear hbad
          go_wp2_with (first
            | (go_at_call 33; refine (named_calls _ _ (by have := HFn.out; omega)).mono ?_; rw [HOK.out]; rintro e w2 ⟨rfl, hd⟩; have b2 := (hd.below.block _ (blk_lt HBW.out)).trans HBW.out; have y0 := sb_cell b2 0; have y1 := sb_cell b2 1; have y2 := sb_cell b2 2; simp at y0 y1 y2; have HB2 := Lib.hid b2; have HM2 := Lib.hid (HMW.out.read hd.below); clear b2 hd)
            | (go_at_call 34; refine (raw_has (i := D.length) (by exact HM2.out) (get_last _ _) nm (by exact HFn.out)).mono ?_; rw [HLK.out]; rintro e w3 ⟨rfl, rfl⟩))
          go_ret2
          exact LoadPost.no HNo.out HM2.out.less
      · have HST2 := Lib.hid (HST.out hok hlk hbad)
        have HOK := Lib.hid hok
        have HLK := Lib.hid hlk
        have h0 : 0 ≤ sy := by omega
        have h1 : sy ≤ dat.length := by omega
        obtain ⟨s, rfl⟩ := Int.eq_ofNat_of_zero_le h0
        have t1 : decide ((s : Int) < 0) = false := decide_eq_false (by omega)
        have t2 : decide ((dat.length : Int) < (s : Int)) = false := decide_eq_false (by omega)
        clear hok hlk HN1 HN2 HN3 HST hbad h0
        go_upto_region 11 with (first
          | (go_at_call 33; refine (named_calls _ _ (by have := HFn.out; omega)).mono ?_; rw [HOK.out]; rintro e w2 ⟨rfl, hd⟩; have b2 := (hd.below.block _ (blk_lt HBW.out)).trans HBW.out; have y0 := sb_cell b2 0; have y1 := sb_cell b2 1; have y2 := sb_cell b2 2; simp at y0 y1 y2; have HB2 := Lib.hid b2; have HM2 := Lib.hid (HMW.out.read hd.below); have HC2 := Lib.hid (Kd.C_below HCW.out hd.below); clear b2 hd)
          | (go_at_call 34; refine (raw_has (i := D.length) (by exact HM2.out) (get_last _ _) nm (by exact HFn.out)).mono ?_; rw [HLK.out]; rintro e w3 ⟨rfl, rfl⟩))
        clear z0 t1 t2 h1
        obtain ⟨F, hraw, hF, -, hst⟩ := HM2.out.get (get_last D _)
        obtain ⟨m, L, hI, hL⟩ := hraw
        have b0 := sb_cell hI.blk 0
        simp at b0
        have hno : look FileC.nm nm L = none := by
          have h2 := look_abs hL nm
          cases hk3 : look FileC.nm nm L with
          | none => rfl
          | some c3 =>
            have h3 := HLK.out
            rw [h2, hk3] at h3
            simp at h3
        have hLk : L.length = k := by rw [← HH.out.cnt, ← hL, List.length_map]
        have hqm : m ≠ q := hI.map.ne HB2.out
        have hpm : m ≠ p := hI.map.ne hI.blk
        have HI2 := Lib.hid hI
        have HL2 := Lib.hid hL
        have HNO := Lib.hid hno
        have HLk := Lib.hid hLk
        have Hqm := Lib.hid hqm
        have Hpm := Lib.hid hpm
        have HFl := Lib.hid hF
        have HSt : Hid (∀ {w' : World} {t' : Thing}, Chg F w2 w' → t'.P w' (Gr F w2 w') → Many B w0 w' ((D ++ [RAW p d]).set D.length t')) := Lib.hid hst
        clear hI hL hno hLk hqm hpm hF hst
        have c0d : w2.drew.cell? ⟨p, 0, none⟩ = some (.map (some m)) := b0
        have c1d : w2.drew.cell? ⟨q, 0, none⟩ = some (.string nm) := y0
        have c2d : w2.drew.cell? ⟨q, 1, none⟩ = some (.slice A4 dat.length c4) := y1
        have c3d : w2.drew.cell? ⟨q, 2, none⟩ = some (.int .i64 s) := y2
        have HC6 := Lib.hid (Kd.C_drew HC2.out)
        have HB6 : Hid (Below w2.heap.size w2 w2.drew) := Lib.hid (below_drew (Below.refl _ _))
        clear b0 y0 y1 y2
        refine start_ (n := 14) (S := fun w' => w'.cell? ⟨p, 0, none⟩ = some (.map (some m)) ∧ w'.cell? ⟨q, 0, none⟩ = some (.string nm) ∧ w'.cell? ⟨q, 1, none⟩ = some (.slice A4 dat.length c4) ∧ w'.cell? ⟨q, 2, none⟩ = some (.int .i64 s)) (ds := []) #[false, false, false, false, false, false, false, false, false, false, false, false, false, false] (by kernel_rfl) rfl rfl ⟨c0d, c1d, c2d, c3d⟩ (fun hHeld => ?_)
        refine with_tabW loadT_tab loadT_bits (fun HT_ HW_ => ?_)
        generalize w2.drew = w6 at HC6 HB6 c0d c1d c2d c3d hHeld ⊢
        refine pure_ (i := 0) (N := (some 36)) (v := ?_) (a' := ?_) #[true, false, false, false, false, false, false, false, false, false, false, false, false, false] rfl rfl (any_of HT_.out (by kernel_rfl)) (fun _ _ _ h => h) (Or.inl ⟨by rfl, ?_⟩) ?_ ?_
        rotate_left
        · intro w'
          go_simp
          with_reducible rfl
        rotate_left
        · simp only [Act.put, List.setIfInBounds_toArray, List.set_cons_zero, List.set_cons_succ, i64_w, i32_w]
          rfl
        refine pure_ (i := 1) (N := (some 37)) (v := ?_) (a' := ?_) #[true, true, false, false, false, false, false, false, false, false, false, false, false, false] rfl rfl (any_of HT_.out (by kernel_rfl)) (fun _ _ _ h => h) (Or.inl ⟨by rfl, ?_⟩) ?_ ?_
        rotate_left
        · intro w'
          go_simp
          with_reducible rfl
        rotate_left
        · simp only [Act.put, List.setIfInBounds_toArray, List.set_cons_zero, List.set_cons_succ, i64_w, i32_w]
          rfl
        refine pure_ (i := 2) (N := (some 38)) (v := ?_) (a' := ?_) #[true, true, true, false, false, false, false, false, false, false, false, false, false, false] rfl rfl (any_of HT_.out (by kernel_rfl)) (fun _ _ _ h => h) (Or.inl ⟨by rfl, ?_⟩) ?_ ?_
        rotate_left
        · intro w'
          go_simp
          with_reducible rfl
        rotate_left
        · simp only [Act.put, List.setIfInBounds_toArray, List.set_cons_zero, List.set_cons_succ, i64_w, i32_w]
          rfl
        refine pure_ (i := 4) (N := (some 40)) (v := ?_) (a' := ?_) #[true, true, true, false, true, false, false, false, false, false, false, false, false, false] rfl rfl (any_of HT_.out (by kernel_rfl)) (fun _ _ _ h => h) (Or.inl ⟨by rfl, ?_⟩) ?_ ?_
        rotate_left
        · intro w'
          go_simp
          with_reducible rfl
        rotate_left
        · simp only [Act.put, List.setIfInBounds_toArray, List.set_cons_zero, List.set_cons_succ, i64_w, i32_w]
          rfl
        refine pure_ (i := 6) (N := (some 42)) (v := ?_) (a' := ?_) #[true, true, true, false, true, false, true, false, false, false, false, false, false, false] rfl rfl (any_of HT_.out (by kernel_rfl)) (fun _ _ _ h => h) (Or.inl ⟨by rfl, ?_⟩) ?_ ?_
        rotate_left
        · intro w'
          go_simp
          with_reducible rfl
        rotate_left
        · simp only [Act.put, List.setIfInBounds_toArray, List.set_cons_zero, List.set_cons_succ, i64_w, i32_w]
          rfl
        refine pure_ (i := 9) (N := (some 45)) (v := ?_) (a' := ?_) #[true, true, true, false, true, false, true, false, false, true, false, false, false, false] rfl rfl (any_of HT_.out (by kernel_rfl)) (fun _ _ _ h => h) (Or.inl ⟨by rfl, ?_⟩) ?_ ?_
        rotate_left
        · intro w'
          go_simp
          with_reducible rfl
        rotate_left
        · simp only [Act.put, List.setIfInBounds_toArray, List.set_cons_zero, List.set_cons_succ, i64_w, i32_w]
          rfl
        refine take_ (i := 3) (N := (some 39)) (v := ?_) (a' := ?_) #[true, true, true, true, true, false, true, false, false, true, false, false, false, false] rfl rfl (take_ofW HT_.out HW_.out (by kernel_rfl)) (fun _ _ _ h => h) (Or.inl ⟨by rfl, ?_⟩) hHeld ?_ ?_
        rotate_left
        · rintro w' ⟨s0, s1, s2, s3⟩
          go_simp
          with_reducible rfl
        rotate_left
        · simp only [Act.put, List.setIfInBounds_toArray, List.set_cons_zero, List.set_cons_succ, i64_w, i32_w]
          rfl
        refine take_ (i := 5) (N := (some 41)) (v := ?_) (a' := ?_) #[true, true, true, true, true, true, true, false, false, true, false, false, false, false] rfl rfl (take_ofW HT_.out HW_.out (by kernel_rfl)) (fun _ _ _ h => h) (Or.inl ⟨by rfl, ?_⟩) hHeld ?_ ?_
        rotate_left
        · rintro w' ⟨s0, s1, s2, s3⟩
          go_simp
          with_reducible rfl
        rotate_left
        · simp only [Act.put, List.setIfInBounds_toArray, List.set_cons_zero, List.set_cons_succ, i64_w, i32_w]
          rfl
        refine take_ (i := 7) (N := (some 43)) (v := ?_) (a' := ?_) #[true, true, true, true, true, true, true, true, false, true, false, false, false, false] rfl rfl (take_ofW HT_.out HW_.out (by kernel_rfl)) (fun _ _ _ h => h) (Or.inl ⟨by rfl, ?_⟩) hHeld ?_ ?_
        rotate_left
        · rintro w' ⟨s0, s1, s2, s3⟩
          go_simp
          with_reducible rfl
        rotate_left
        · simp only [Act.put, List.setIfInBounds_toArray, List.set_cons_zero, List.set_cons_succ, i64_w, i32_w]
          rfl
        refine take_ (i := 10) (N := (some 46)) (v := ?_) (a' := ?_) #[true, true, true, true, true, true, true, true, false, true, true, false, false, false] rfl rfl (take_ofW HT_.out HW_.out (by kernel_rfl)) (fun _ _ _ h => h) (Or.inl ⟨by rfl, ?_⟩) hHeld ?_ ?_
        rotate_left
        · rintro w' ⟨s0, s1, s2, s3⟩
          go_simp
          with_reducible rfl
        rotate_left
        · simp only [Act.put, List.setIfInBounds_toArray, List.set_cons_zero, List.set_cons_succ, i64_w, i32_w]
          rfl
        refine one_ (i := 8) (N := (some 44)) #[true, true, true, true, true, true, true, true, true, true, true, false, false, false] rfl rfl (one_of HT_.out (by kernel_rfl)) (by decide) (fun K hK => ?_)
        refine goes_ Try.func43 (by kernel_rfl) rfl #[.slice A4 dat.length c4] (by rfl) rfl rfl (by (try simp only [List.map_toArray, List.map_cons, List.map_nil]); rfl) ?_
        with_reducible refine (fresh_calls _ _ dat _ (by exact HC6.out) (by have := HFd.out; omega)).mono ?_
        rintro e w7 ⟨v7, rfl, ho7, hb7⟩
        refine ⟨_, rfl, ?_⟩
        have c0' := (hb7.cell (World.block_lt_of_cell? w6 _ c0d)).trans c0d
        have c1' := (hb7.cell (World.block_lt_of_cell? w6 _ c1d)).trans c1d
        have c2' := (hb7.cell (World.block_lt_of_cell? w6 _ c2d)).trans c2d
        have c3' := (hb7.cell (World.block_lt_of_cell? w6 _ c3d)).trans c3d
        have HB7 := Lib.hid (below_step HB6.out hb7)
        have hfd := fresh_drow ho7
        obtain ⟨A7, c7, e7⟩ := Kd.R_slice ho7
        subst e7
        have HF7 := Lib.hid hfd
        have HB67 := Lib.hid hb7
        clear hb7 ho7 hfd
        refine hK.out _ _ ⟨c0', c1', c2', c3'⟩ (fun hHeld => ?_)
        clear hK K
        refine norm_ (a' := ?_) ?_ ?_
        rotate_left
        · show Act.put _ (some 44) _ = _
          simp only [Act.put, List.setIfInBounds_toArray, List.set_cons_zero, List.set_cons_succ, i64_w, i32_w]
          rfl
        refine pure_ (i := 11) (N := (some 47)) (v := ?_) (a' := ?_) #[true, true, true, true, true, true, true, true, true, true, true, true, false, false] rfl rfl (any_of HT_.out (by kernel_rfl)) (fun _ _ _ h => h) (Or.inl ⟨by rfl, ?_⟩) ?_ ?_
        rotate_left
        · intro w'
          go_simp
          with_reducible rfl
        rotate_left
        · simp only [Act.put, List.setIfInBounds_toArray, List.set_cons_zero, List.set_cons_succ, i64_w, i32_w]
          rfl
        refine one_ (i := 12) (N := (some 48)) #[true, true, true, true, true, true, true, true, true, true, true, true, true, false] rfl rfl (one_of HT_.out (by kernel_rfl)) (by decide) (fun K hK => ?_)
        refine value_ (w1 := ?_) (v := ?_) (by rfl) rfl ?_ ?_
        rotate_left 2
        · go_simp
          constructor
          · rfl
          · rfl
        refine hK.out _ _ ⟨(World.cell?_alloc_lt _ _ _ (World.block_lt_of_cell? _ _ c0')).trans c0', (World.cell?_alloc_lt _ _ _ (World.block_lt_of_cell? _ _ c1')).trans c1', (World.cell?_alloc_lt _ _ _ (World.block_lt_of_cell? _ _ c2')).trans c2', (World.cell?_alloc_lt _ _ _ (World.block_lt_of_cell? _ _ c3')).trans c3'⟩ (fun hHeld => ?_)
        clear hK K
        refine norm_ (a' := ?_) ?_ ?_
        rotate_left
        · show Act.put _ (some 48) _ = _
          simp only [Act.put, List.setIfInBounds_toArray, List.set_cons_zero, List.set_cons_succ, i64_w, i32_w]
          rfl
        refine one_ (i := 13) (N := none) #[true, true, true, true, true, true, true, true, true, true, true, true, true, true] rfl rfl (one_of HT_.out (by kernel_rfl)) (by decide) (fun K hK => ?_)
        have hI7 := HI2.out.stay HB7.out.size (fun k hk => HB7.out.block k (HI2.out.lt k hk))
        obtain ⟨w9, hrun, hm9, ht9⟩ := MapAt.store (w := w7.alloc (.cells #[.slice A7 dat.length c7, .int .i64 s] 68)) (hI7.map.heap (Below.heap_alloc w7 _ m (hI7.lt m hI7.fm))) ⟨nm, w7.heap.size, .slice A7 dat.length c7, dat, s⟩ nm w7.heap.size rfl rfl (by have := HFn.out; unfold maxLen; omega) (by have := HLk.out; unfold maxLen; omega)
        have hI9 := hI7.added2 HI2.out.lt HB7.out.size HNO.out HF7.out.1 (fun g hg => Nat.le_trans HB6.out.size (HF7.out.2 g hg)) hm9 ht9
        have hth := turned_heap ht9
        have hc9 : Chg F w2 w9 := (Chg.of_below HB7.out).same ((Chg.alloc w7 _).same (turned_chg ht9 HI2.out.fm))
        have hM9 := HSt.out (t' := RAW p { d with fs := ins Fl.nm ⟨nm, dat, s⟩ d.fs }) hc9 ⟨m, _, hI9, by rw [map_ins (ka := FileC.nm) (kb := Fl.nm) FileC.abs (fun _ => rfl), HL2.out]; rfl⟩
        rw [set_last] at hM9
        have d0 := c0'
        have HM9 := Lib.hid hM9
        have hcell : ∀ {a : Addr} {v : Value}, w7.cell? a = some v → m ≠ a.block → w9.cell? a = some v := fun {a v} h hn => by
          have h1 := hth.2 a.block (fun e => hn e.symm)
          have h2 := (World.cell?_alloc_lt w7 (.cells #[.slice A7 dat.length c7, .int .i64 s] 68) a (World.block_lt_of_cell? w7 _ h)).trans h
          simpa [World.cell?, h1] using h2
        have e0 := hcell c0' Hpm.out
        have e1 := hcell c1' Hqm.out
        have e2 := hcell c2' Hqm.out
        have e3 := hcell c3' Hqm.out
        clear hcell hM9 hth hI7 hI9 hm9 ht9 hc9 d0
        refine skip_ (w1 := w9) (by rfl) rfl ?_ ?_
        · go_simp
        refine hK.out _ _ ⟨e0, e1, e2, e3⟩ (fun hHeld => ?_)
        clear hK K
        refine done_ (done_of HT_.out (by kernel_rfl)) ?_
        have hk2 : wrap64 ((k : Int) + 1) = (k : Int) + 1 := by unfold wrap64; omega
        clear hrun e0 e1 e2 e3 c0' c1' c2' c3' c0d c1d c2d c3d
        go_wp2
        go_roundw
        case rel =>
          refine ⟨k + 1, _, by have := HLT.out; omega, by first | rfl | (rw [hk2]; rfl), ?_, HM9⟩
          have := HST2.out
          exact Lib.hid this
        case measure =>
          first
            | (show l.length - ((k : Int) + 1).toNat < l.length - (k : Int).toNat; have := HLT.out; omega)
            | (show l.length - (intOf (.int .i64 (wrap64 ((k : Int) + 1)))).toNat < l.length - (intOf (.int .i64 (k : Int))).toNat; rw [hk2]; show l.length - ((k : Int) + 1).toNat < l.length - (k : Int).toNat; have := HLT.out; omega)
    · have hkn : k = l.length := by omega
      subst hkn
      have htot : total d.fs ≤ 1099511627776 := by
        have h1 := HH.out.tot
        rw [List.take_length] at h1
        have h2 := HT.out
        omega
      have hsrt := HH.out.srt
      by_cases hbig : 256 < l.length
      · have HNo := Lib.hid (HH.out.no4 (.inl hbig))
        have t1 : decide ((256 : Int) < (l.length : Int)) = true := decide_eq_true (by omega)
        clear hsrt htot
        go_wp2
        go_ret2
        exact LoadPost.no HNo.out HR.out.less
      · have t1 : decide ((256 : Int) < (l.length : Int)) = false := decide_eq_false (by omega)
        have HTt := Lib.hid htot
        have HSr := Lib.hid hsrt
        have htn : (total d.fs : Int) ≤ 1099511627776 := by omega
        clear htot hsrt
        by_cases hfull : 16777216 < total d.fs
        · have HNo := Lib.hid (HH.out.no4 (.inr hfull))
          have t2 : decide ((16777216 : Int) < (total d.fs : Int)) = true := decide_eq_true (by omega)
          clear hbig hfull
          go_wp2_with (go_at_call 16; refine (raw_size (i := D.length) (by exact HR.out) (get_last _ _) (by exact HSr.out) (by exact HTt.out)).mono ?_; rintro e w2 ⟨rfl, h2⟩; have H2 := Lib.hid h2; clear h2)
          go_ret2
          exact LoadPost.no HNo.out H2.out.less
        · have HYes := Lib.hid (HH.out.yes (by omega))
          have HOk := Lib.hid (HH.out.ok (by omega) (by omega))
          have t2 : decide ((16777216 : Int) < (total d.fs : Int)) = false := decide_eq_false (by omega)
          clear hbig hfull
          go_wp2_with (go_at_call 16; refine (raw_size (i := D.length) (by exact HR.out) (get_last _ _) (by exact HSr.out) (by exact HTt.out)).mono ?_; rintro e w2 ⟨rfl, h2⟩; have H2 := Lib.hid h2; clear h2)
          go_ret2
          exact LoadPost.yes HYes.out (H2.out.whole HOk.out)
theorem m_load (hM : Many B w0 w D) {A : Option Addr} {c : Nat} {l : List SF} (hi : D[i]? = some (FILES (.slice A l.length c) l)) (hl : l.length ≤ 1048576) (hf : ∀ x ∈ l, FileFits x) (ht : ((l.map fun f => f.f1.length).sum) ≤ 1099511627776) :
    Calls Try.prog 29 #[.slice A l.length c] w (LoadPost B w0 D l) :=
  m_loadG hM hi (fun w F h => (Kd.R_reads' h).2.2) hl hf ht
end
end Go.Proofs.Ytflajlnknimjaaa.Dk

/- Merged: Fi, RfJ, DkC. -/
import Derived.Test.YtflajlnknimjaaaPDiskLoadsx0
import Derived.Test.YtflajlnknimjaaaPDiskLoadsx8
import Derived.Test.YtflajlnknimjaaaPDiskLoadsx9
import Derived.Test.YtflajlnknimjaaaMl14
import Derived.Test.YtflajlnknimjaaaMl4
set_option linter.unusedVariables false
set_option linter.unusedSimpArgs false
-- printed by print.sh; this function alone (part.py)
namespace Go.Proofs.Ytflajlnknimjaaa.PDiskLoads
open Go.RowKit Go.Proofs.YtflajlnknimjaaaW.PrintWords Go.Proofs.YtflajlnknimjaaaW.PrintLast Go.Proofs.YtflajlnknimjaaaW.PrintMore
attribute [local go_sem] max2_int min2_int max_two min_two max_three min_three max_four min_four   -- for this text's walks alone
set_option linter.unusedVariables false
set_option linter.unusedSimpArgs false

/-! ### synodref_Files: function 30 -/
def synodref_Files.l0 : Nat → List (S36) → List (S36) → Int → Option ((List (S36)))
  | 0, _, _, _ => none
  | k + 1, x0, x3, x4 => if x4 < (x0.length : Int) then (if 0 ≤ x4 then ((synodref_Bytes.f ((rd_T36 x0 x4).f1)).bind fun t361 => (if x3.length < 2932031007402 then (synodref_Files.l0 k x0 (x3 ++ [(⟨(rd_T36 x0 x4).f0, t361, (rd_T36 x0 x4).f2⟩ : S36)]) (wrap64 (x4 + 1))) else (none))) else (none)) else (some x3)
def synodref_Files.f (k : Nat) (l0 : List (S36)) : Option ((List (S36))) := synodref_Files.l0 k l0 ([] : List (S36)) 0
theorem synodref_Files.mono_l : ∀ k, (∀ y0 y1 y2, LeO (synodref_Files.l0 k y0 y1 y2) (synodref_Files.l0 (k + 1) y0 y1 y2))
  | 0 => fun _ _ _ r h => by simp [synodref_Files.l0] at h
  | k + 1 => by
    have ih0 := synodref_Files.mono_l k
    · intro y0 y1 y2
      unfold synodref_Files.l0
      repeat' first
      | (with_reducible exact ih0 _ _ _)
      | (with_reducible exact LeO.refl _)
      | (with_reducible exact LeO.none _)
      | (with_reducible refine LeO.ite ?_ ?_)
      | (with_reducible refine LeO.bind ?_ (fun _ => ?_))
      | exact ih0 _ _ _
      | exact LeO.none _
      | refine LeO.ite ?_ ?_
      | refine LeO.bind ?_ (fun _ => ?_)
theorem synodref_Files.mono : ∀ a0 k, LeO (synodref_Files.f k a0) (synodref_Files.f (k + 1) a0) := by
  intro a0 k
  have ih0 := synodref_Files.mono_l k
  unfold synodref_Files.f
  repeat' first
      | (with_reducible exact ih0 _ _ _)
      | (with_reducible exact LeO.refl _)
      | (with_reducible exact LeO.none _)
      | (with_reducible refine LeO.ite ?_ ?_)
      | (with_reducible refine LeO.bind ?_ (fun _ => ?_))
      | exact ih0 _ _ _
      | exact LeO.none _
      | refine LeO.ite ?_ ?_
      | refine LeO.bind ?_ (fun _ => ?_)
def synodref_Files.T5 : Bool × List (List Nat × List Nat) := (true, [([], []), ([], []), ([], []), ([1, 2], [1, 2]), ([3], [3]), ([4], [4]), ([], []), ([], []), ([6, 7], [6, 7]), ([8], [8]), ([9], [9]), ([10], [10]), ([], []), ([], []), ([12, 13], [12, 13]), ([14], [14]), ([15], [15]), ([5, 11, 16], [5, 11, 16]), ([17], [17]), ([0, 18, 11], [0, 18]), ([19, 19, 0, 1, 2, 3, 4, 5, 6, 7, 8, 9, 10, 11, 12, 13, 14, 15, 16, 17, 18, 19], [0, 19])])
def synodref_Files.B5 : List Nat := [0, 0, 0, 6, 14, 30, 0, 0, 192, 448, 960, 1984, 0, 0, 12288, 28672, 61440, 131070, 262142, 524287, 1048575]
theorem synodref_Files.tab5 : rtab .any (opsOf Try.f30 5) = synodref_Files.T5 := by kernel_rfl
theorem synodref_Files.bits5 : waitsOk synodref_Files.T5.2 synodref_Files.B5 = true := by kernel_rfl
set_option maxHeartbeats 8000000 in
set_option maxRecDepth 100000 in
theorem synodref_Files.calls (k : Nat) (A0 : Option Addr) (c0 : Nat) (l0 : List (S36)) (r : List (S36)) (w : World) (hr0 : Kd.C k36 w A0 l0.length l0) (hc0 : l0.length ≤ c0) (h : synodref_Files.f k l0 = some r) :
    Calls Try.prog 30 #[.slice A0 l0.length c0] w fun e w' => ∃ v0_ : Value, e = .returned (v0_) ∧ Kd.S k36 36 w' w.heap.size (fun _ => True) v0_ r ∧ Below w.heap.size w w' := by
  have hu36 := Try.underlying36
  have HR0 := Aside0.mk hr0
  have HC0 := Aside0.mk hc0
  clear hr0 hc0
  have HB := Aside0.mk (Below.refl w.heap.size w)
  have H : (synodref_Files.l0 k l0 ([] : List (S36)) 0) = some r := h
  clear h
  have H' := Aside0.mk H
  clear H
  go_enter Try.func30, Try.ntmps30
  go_wp2
  go_loopg [3, 4] k (fun kq v3 v4 w' => ∃ (x3_1 : List (S36)) (x4_1 : Int), v4 = .int .i64 x4_1 ∧ Aside0 (synodref_Files.l0 kq l0 x3_1 x4_1 = some r) ∧ Aside0 (kq ≤ k) ∧ Aside0 (Kd.S k36 36 w' w.heap.size (fun _ => True) v3 x3_1) ∧ Aside0 (Below w.heap.size w w'))
  case atStart => exact ⟨(([] : List (S36))), (0), (by first | rfl | (simp; done) | (simp [*]; done)), H', ⟨Nat.le_refl _⟩, ⟨by first | exact Kd.S_nil _ _ _ _ _ | exact Kd.N_nil _ _ _ _ _ | exact Kd.V_nil _ _ _ _ _ | exact Kd.Q_nil _ _ _ _ _ | exact Kd.R_nil _ _ _ _ _⟩, ⟨by repeat (first | (with_reducible first | exact HB.out | apply below_alloc | apply pw_below_drewN | apply below_drew1) | exact HB.out)⟩⟩
  case round =>
    clear H'
    obtain ⟨x3_1, x4_1, rfl, HA, HK1, HO_3, HB⟩ := hrel
    cases gk with
    | zero => exact absurd HA.out (by simp [synodref_Files.l0])
    | succ k1 =>
      have H := HA.out
      clear HA
      simp only [synodref_Files.l0] at H
      by_cases c2 : x4_1 < (l0.length : Int)
      · rw [if_pos c2] at H
        have c2b0 : decide (x4_1 < (l0.length : Int)) = true := decide_eq_true c2
        clear c2
        by_cases c3 : 0 ≤ x4_1
        · rw [if_pos c3] at H
          have c3b0 : decide (0 ≤ x4_1) = true := decide_eq_true c3
          clear c3
          replace H := Option.bind_eq_some_iff.mp H
          obtain ⟨t361, A40, H⟩ := H
          replace H : (if x3_1.length < 2932031007402 then (synodref_Files.l0 k1 l0 (x3_1 ++ [(⟨(rd_T36 l0 x4_1).f0, t361, (rd_T36 l0 x4_1).f2⟩ : S36)]) (wrap64 (x4_1 + 1))) else (none)) = some r := H
          have A4 := Aside0.mk A40
          clear A40
          by_cases c5 : x3_1.length < 2932031007402
          · rw [if_pos c5] at H
            have LMc5 := Aside0.mk c5
            clear c5
            obtain ⟨y365, hy365⟩ : ∃ y_ : List (S36), y_ = (x3_1 ++ [(⟨(rd_T36 l0 x4_1).f0, t361, (rd_T36 l0 x4_1).f2⟩ : S36)]) := ⟨_, rfl⟩
            replace H : (synodref_Files.l0 k1 l0 y365 (wrap64 (x4_1 + 1))) = some r := by first | (rw [hy365]; with_reducible exact H) | (have H2_ := (Option.bind_some _ _).symm.trans H; rw [hy365]; with_reducible exact H2_) | (have H2_ := (Option.bind_some _ _).symm.trans H; with_reducible exact H2_) | with_reducible exact H | (rw [hy365]; exact H) | exact H
            have Ny365 := Aside0.mk hy365
            clear hy365
            have H' := Aside0.mk H
            clear H
            try go_wp2
            have n0_ := Aside0.mk (Kd.S_drew HO_3.out)
            have n1_ := Aside0.mk (below_drew1 HB.out)
            clear HO_3
            clear HB
            have HO_3 := n0_
            have HB := n1_
            clear n0_ n1_
            have p359 : 0 ≤ (x4_1 : Int) := of_decide_eq_true (by first | (with_reducible assumption) | assumption)
            have q359 : x4_1 < (l0.length : Int) := of_decide_eq_true (by first | (with_reducible assumption) | assumption)
            obtain ⟨ad359, A359_1, c359_1, e359, hx359_0, hx359_1, hx359_2, hl359_1, hi359_1⟩ := at_T36 HR0.out x4_1 p359 q359
            have hw359_2 := hx359_2
            have hw359_1 := hx359_1
            have hw359_0 := hx359_0
            cases e359
            replace hx359_0 := (HB.out.cell (World.block_lt_of_cell? w _ hx359_0)).trans hx359_0
            replace hx359_1 := (HB.out.cell (World.block_lt_of_cell? w _ hx359_1)).trans hx359_1
            replace hx359_2 := (HB.out.cell (World.block_lt_of_cell? w _ hx359_2)).trans hx359_2
            have HR359_1 := Aside0.mk hi359_1
            have HC359_1 := Aside0.mk hl359_1
            clear hi359_1 hl359_1
            replace p359 := eq_true p359
            replace q359 := eq_true q359
            have p360 : 0 ≤ (x4_1 : Int) := of_decide_eq_true (by first | (with_reducible assumption) | assumption)
            have q360 : x4_1 < (l0.length : Int) := of_decide_eq_true (by first | (with_reducible assumption) | assumption)
            obtain ⟨ad360, A360_1, c360_1, e360, hx360_0, hx360_1, hx360_2, hl360_1, hi360_1⟩ := at_T36 HR0.out x4_1 p360 q360
            have hw360_2 := hx360_2
            have hw360_1 := hx360_1
            have hw360_0 := hx360_0
            obtain rfl : ad359 = ad360 := (by injection e360)
            replace hx360_0 := (HB.out.cell (World.block_lt_of_cell? w _ hx360_0)).trans hx360_0
            replace hx360_1 := (HB.out.cell (World.block_lt_of_cell? w _ hx360_1)).trans hx360_1
            replace hx360_2 := (HB.out.cell (World.block_lt_of_cell? w _ hx360_2)).trans hx360_2
            have HR360_1 := Aside0.mk hi360_1
            have HC360_1 := Aside0.mk hl360_1
            clear hi360_1 hl360_1
            replace p360 := eq_true p360
            replace q360 := eq_true q360
            have ea_ := Option.some.inj (hx359_1.symm.trans hx360_1)
            injection ea_ with ea_ en_ ec_
            subst ea_
            subst ec_
            clear en_
            have p364 : 0 ≤ (x4_1 : Int) := of_decide_eq_true (by first | (with_reducible assumption) | assumption)
            have q364 : x4_1 < (l0.length : Int) := of_decide_eq_true (by first | (with_reducible assumption) | assumption)
            obtain ⟨ad364, A364_1, c364_1, e364, hx364_0, hx364_1, hx364_2, hl364_1, hi364_1⟩ := at_T36 HR0.out x4_1 p364 q364
            have hw364_2 := hx364_2
            have hw364_1 := hx364_1
            have hw364_0 := hx364_0
            obtain rfl : ad359 = ad364 := (by injection e364)
            replace hx364_0 := (HB.out.cell (World.block_lt_of_cell? w _ hx364_0)).trans hx364_0
            replace hx364_1 := (HB.out.cell (World.block_lt_of_cell? w _ hx364_1)).trans hx364_1
            replace hx364_2 := (HB.out.cell (World.block_lt_of_cell? w _ hx364_2)).trans hx364_2
            have HR364_1 := Aside0.mk hi364_1
            have HC364_1 := Aside0.mk hl364_1
            clear hi364_1 hl364_1
            replace p364 := eq_true p364
            replace q364 := eq_true q364
            have ea_ := Option.some.inj (hx359_1.symm.trans hx364_1)
            injection ea_ with ea_ en_ ec_
            subst ea_
            subst ec_
            clear en_
            refine start_ (n := 21) (S := fun w' => w'.cell? (ad359.add ((x4_1).toNat * 3)) = some (.string ((rd_T36 l0 x4_1).f0)) ∧ w'.cell? ⟨(ad359.add ((x4_1).toNat * 3)).block, (ad359.add ((x4_1).toNat * 3)).off + 1, none⟩ = some (.slice A359_1 ((rd_T36 l0 x4_1).f1).length c359_1) ∧ w'.cell? ⟨(ad359.add ((x4_1).toNat * 3)).block, (ad359.add ((x4_1).toNat * 3)).off + 2, none⟩ = some (.int .i64 ((rd_T36 l0 x4_1).f2)) ∧ w'.cell? (ad359.add ((x4_1).toNat * 3)) = some (.string ((rd_T36 l0 x4_1).f0)) ∧ w'.cell? ⟨(ad359.add ((x4_1).toNat * 3)).block, (ad359.add ((x4_1).toNat * 3)).off + 1, none⟩ = some (.slice A359_1 ((rd_T36 l0 x4_1).f1).length c359_1) ∧ w'.cell? ⟨(ad359.add ((x4_1).toNat * 3)).block, (ad359.add ((x4_1).toNat * 3)).off + 2, none⟩ = some (.int .i64 ((rd_T36 l0 x4_1).f2)) ∧ w'.cell? (ad359.add ((x4_1).toNat * 3)) = some (.string ((rd_T36 l0 x4_1).f0)) ∧ w'.cell? ⟨(ad359.add ((x4_1).toNat * 3)).block, (ad359.add ((x4_1).toNat * 3)).off + 1, none⟩ = some (.slice A359_1 ((rd_T36 l0 x4_1).f1).length c359_1) ∧ w'.cell? ⟨(ad359.add ((x4_1).toNat * 3)).block, (ad359.add ((x4_1).toNat * 3)).off + 2, none⟩ = some (.int .i64 ((rd_T36 l0 x4_1).f2))) (ds := []) #[false, false, false, false, false, false, false, false, false, false, false, false, false, false, false, false, false, false, false, false, false] (by kernel_rfl) rfl rfl ⟨((HB.out.cell (World.block_lt_of_cell? w _ hw359_0)).trans hw359_0), ((HB.out.cell (World.block_lt_of_cell? w _ hw359_1)).trans hw359_1), ((HB.out.cell (World.block_lt_of_cell? w _ hw359_2)).trans hw359_2), ((HB.out.cell (World.block_lt_of_cell? w _ hw360_0)).trans hw360_0), ((HB.out.cell (World.block_lt_of_cell? w _ hw360_1)).trans hw360_1), ((HB.out.cell (World.block_lt_of_cell? w _ hw360_2)).trans hw360_2), ((HB.out.cell (World.block_lt_of_cell? w _ hw364_0)).trans hw364_0), ((HB.out.cell (World.block_lt_of_cell? w _ hw364_1)).trans hw364_1), ((HB.out.cell (World.block_lt_of_cell? w _ hw364_2)).trans hw364_2)⟩ (fun hHeld => ?_); refine with_tabW synodref_Files.tab5 synodref_Files.bits5 (fun HT_ HW_ => ?_)
            generalize wr.drew = w6 at HO_3 HB HR359_1 HR360_1 HR364_1 hx359_0 hx359_1 hx359_2 hx360_0 hx360_1 hx360_2 hx364_0 hx364_1 hx364_2 hHeld ⊢
            refine pure_ (i := 0) (N := some 11) (v := ?_) (a' := ?_) #[true, false, false, false, false, false, false, false, false, false, false, false, false, false, false, false, false, false, false, false, false] rfl rfl (any_of HT_.out (by kernel_rfl)) (fun _ _ _ h => h) (Or.inl ⟨by rfl, ?_⟩) ?_ ?_
            rotate_left
            · intro w'
              go_simp
              with_reducible rfl
            rotate_left
            · simp only [Act.put, List.setIfInBounds_toArray, List.set_cons_zero, List.set_cons_succ, i64_w, i32_w]
              rfl
            refine pure_ (i := 1) (N := some 12) (v := ?_) (a' := ?_) #[true, true, false, false, false, false, false, false, false, false, false, false, false, false, false, false, false, false, false, false, false] rfl rfl (any_of HT_.out (by kernel_rfl)) (fun _ _ _ h => h) (Or.inl ⟨by rfl, ?_⟩) ?_ ?_
            rotate_left
            · intro w'
              go_simp
              with_reducible rfl
            rotate_left
            · simp only [Act.put, List.setIfInBounds_toArray, List.set_cons_zero, List.set_cons_succ, i64_w, i32_w]
              rfl
            refine pure_ (i := 2) (N := some 13) (v := ?_) (a' := ?_) #[true, true, true, false, false, false, false, false, false, false, false, false, false, false, false, false, false, false, false, false, false] rfl rfl (any_of HT_.out (by kernel_rfl)) (fun _ _ _ h => h) (Or.inl ⟨by rfl, ?_⟩) ?_ ?_
            rotate_left
            · intro w'
              go_simp
              with_reducible rfl
            rotate_left
            · simp only [Act.put, List.setIfInBounds_toArray, List.set_cons_zero, List.set_cons_succ, i64_w, i32_w]
              rfl
            refine pure_ (i := 3) (N := some 14) (v := ?_) (a' := ?_) #[true, true, true, true, false, false, false, false, false, false, false, false, false, false, false, false, false, false, false, false, false] rfl rfl (any_of HT_.out (by kernel_rfl)) (fun _ _ _ h => h) (Or.inl ⟨by rfl, ?_⟩) ?_ ?_
            rotate_left
            · intro w'
              go_simp
              with_reducible rfl
            rotate_left
            · simp only [Act.put, List.setIfInBounds_toArray, List.set_cons_zero, List.set_cons_succ, i64_w, i32_w]
              rfl
            refine pure_ (i := 4) (N := some 15) (v := ?_) (a' := ?_) #[true, true, true, true, true, false, false, false, false, false, false, false, false, false, false, false, false, false, false, false, false] rfl rfl (any_of HT_.out (by kernel_rfl)) (fun _ _ _ h => h) (Or.inl ⟨by rfl, ?_⟩) ?_ ?_
            rotate_left
            · intro w'
              go_simp
              with_reducible rfl
            rotate_left
            · simp only [Act.put, List.setIfInBounds_toArray, List.set_cons_zero, List.set_cons_succ, i64_w, i32_w]
              rfl
            refine pure_ (i := 6) (N := some 17) (v := ?_) (a' := ?_) #[true, true, true, true, true, false, true, false, false, false, false, false, false, false, false, false, false, false, false, false, false] rfl rfl (any_of HT_.out (by kernel_rfl)) (fun _ _ _ h => h) (Or.inl ⟨by rfl, ?_⟩) ?_ ?_
            rotate_left
            · intro w'
              go_simp
              with_reducible rfl
            rotate_left
            · simp only [Act.put, List.setIfInBounds_toArray, List.set_cons_zero, List.set_cons_succ, i64_w, i32_w]
              rfl
            refine pure_ (i := 7) (N := some 18) (v := ?_) (a' := ?_) #[true, true, true, true, true, false, true, true, false, false, false, false, false, false, false, false, false, false, false, false, false] rfl rfl (any_of HT_.out (by kernel_rfl)) (fun _ _ _ h => h) (Or.inl ⟨by rfl, ?_⟩) ?_ ?_
            rotate_left
            · intro w'
              go_simp
              with_reducible rfl
            rotate_left
            · simp only [Act.put, List.setIfInBounds_toArray, List.set_cons_zero, List.set_cons_succ, i64_w, i32_w]
              rfl
            refine pure_ (i := 8) (N := some 19) (v := ?_) (a' := ?_) #[true, true, true, true, true, false, true, true, true, false, false, false, false, false, false, false, false, false, false, false, false] rfl rfl (any_of HT_.out (by kernel_rfl)) (fun _ _ _ h => h) (Or.inl ⟨by rfl, ?_⟩) ?_ ?_
            rotate_left
            · intro w'
              go_simp
              with_reducible rfl
            rotate_left
            · simp only [Act.put, List.setIfInBounds_toArray, List.set_cons_zero, List.set_cons_succ, i64_w, i32_w]
              rfl
            refine pure_ (i := 9) (N := some 20) (v := ?_) (a' := ?_) #[true, true, true, true, true, false, true, true, true, true, false, false, false, false, false, false, false, false, false, false, false] rfl rfl (any_of HT_.out (by kernel_rfl)) (fun _ _ _ h => h) (Or.inl ⟨by rfl, ?_⟩) ?_ ?_
            rotate_left
            · intro w'
              go_simp
              with_reducible rfl
            rotate_left
            · simp only [Act.put, List.setIfInBounds_toArray, List.set_cons_zero, List.set_cons_succ, i64_w, i32_w]
              rfl
            refine pure_ (i := 12) (N := some 23) (v := ?_) (a' := ?_) #[true, true, true, true, true, false, true, true, true, true, false, false, true, false, false, false, false, false, false, false, false] rfl rfl (any_of HT_.out (by kernel_rfl)) (fun _ _ _ h => h) (Or.inl ⟨by rfl, ?_⟩) ?_ ?_
            rotate_left
            · intro w'
              go_simp
              with_reducible rfl
            rotate_left
            · simp only [Act.put, List.setIfInBounds_toArray, List.set_cons_zero, List.set_cons_succ, i64_w, i32_w]
              rfl
            refine pure_ (i := 13) (N := some 24) (v := ?_) (a' := ?_) #[true, true, true, true, true, false, true, true, true, true, false, false, true, true, false, false, false, false, false, false, false] rfl rfl (any_of HT_.out (by kernel_rfl)) (fun _ _ _ h => h) (Or.inl ⟨by rfl, ?_⟩) ?_ ?_
            rotate_left
            · intro w'
              go_simp
              with_reducible rfl
            rotate_left
            · simp only [Act.put, List.setIfInBounds_toArray, List.set_cons_zero, List.set_cons_succ, i64_w, i32_w]
              rfl
            refine pure_ (i := 14) (N := some 25) (v := ?_) (a' := ?_) #[true, true, true, true, true, false, true, true, true, true, false, false, true, true, true, false, false, false, false, false, false] rfl rfl (any_of HT_.out (by kernel_rfl)) (fun _ _ _ h => h) (Or.inl ⟨by rfl, ?_⟩) ?_ ?_
            rotate_left
            · intro w'
              go_simp
              with_reducible rfl
            rotate_left
            · simp only [Act.put, List.setIfInBounds_toArray, List.set_cons_zero, List.set_cons_succ, i64_w, i32_w]
              rfl
            refine pure_ (i := 15) (N := some 26) (v := ?_) (a' := ?_) #[true, true, true, true, true, false, true, true, true, true, false, false, true, true, true, true, false, false, false, false, false] rfl rfl (any_of HT_.out (by kernel_rfl)) (fun _ _ _ h => h) (Or.inl ⟨by rfl, ?_⟩) ?_ ?_
            rotate_left
            · intro w'
              go_simp
              with_reducible rfl
            rotate_left
            · simp only [Act.put, List.setIfInBounds_toArray, List.set_cons_zero, List.set_cons_succ, i64_w, i32_w]
              rfl
            refine take_ (i := 5) (N := some 16) (v := ?_) (a' := ?_) #[true, true, true, true, true, true, true, true, true, true, false, false, true, true, true, true, false, false, false, false, false] rfl rfl (take_ofW HT_.out HW_.out (by kernel_rfl)) (fun _ _ _ h => h) (Or.inl ⟨by rfl, ?_⟩) hHeld ?_ ?_
            rotate_left
            · rintro w' ⟨s0, s1, s2, s3, s4, s5, s6, s7, s8⟩
              go_simp
              with_reducible rfl
            rotate_left
            · simp only [Act.put, List.setIfInBounds_toArray, List.set_cons_zero, List.set_cons_succ, i64_w, i32_w]
              rfl
            refine take_ (i := 10) (N := some 21) (v := ?_) (a' := ?_) #[true, true, true, true, true, true, true, true, true, true, true, false, true, true, true, true, false, false, false, false, false] rfl rfl (take_ofW HT_.out HW_.out (by kernel_rfl)) (fun _ _ _ h => h) (Or.inl ⟨by rfl, ?_⟩) hHeld ?_ ?_
            rotate_left
            · rintro w' ⟨s0, s1, s2, s3, s4, s5, s6, s7, s8⟩
              go_simp
              with_reducible rfl
            rotate_left
            · simp only [Act.put, List.setIfInBounds_toArray, List.set_cons_zero, List.set_cons_succ, i64_w, i32_w]
              rfl
            refine take_ (i := 16) (N := some 27) (v := ?_) (a' := ?_) #[true, true, true, true, true, true, true, true, true, true, true, false, true, true, true, true, true, false, false, false, false] rfl rfl (take_ofW HT_.out HW_.out (by kernel_rfl)) (fun _ _ _ h => h) (Or.inl ⟨by rfl, ?_⟩) hHeld ?_ ?_
            rotate_left
            · rintro w' ⟨s0, s1, s2, s3, s4, s5, s6, s7, s8⟩
              go_simp
              with_reducible rfl
            rotate_left
            · simp only [Act.put, List.setIfInBounds_toArray, List.set_cons_zero, List.set_cons_succ, i64_w, i32_w]
              rfl
            refine one_ (i := 11) (N := some 22) #[true, true, true, true, true, true, true, true, true, true, true, true, true, true, true, true, true, false, false, false, false] rfl rfl (one_of HT_.out (by kernel_rfl)) (by decide) (fun K hK => ?_)
            refine goes_ Try.func40 (by kernel_rfl) rfl #[.slice A359_1 ((rd_T36 l0 x4_1).f1).length c359_1] (by rfl) rfl rfl (by (try simp only [List.map_toArray, List.map_cons, List.map_nil]); first | done | rfl | (simp only [List.length_drop, List.length_take]; rfl)) ?_
            with_reducible refine (synodref_Bytes.calls _ _ ((rd_T36 l0 x4_1).f1) t361 _ ?side1 ?side2 A4.out).mono ?_
            (case side1 => repeat (first | exact (Kd.C_below HR360_1.out HB.out) | (with_reducible refine Kd.C_alloc ?_ _) | (with_reducible refine Kd.C_drewN ?_ _) | (with_reducible refine Kd.C_drew ?_)))
            (case side2 => exact HC360_1.out)
            rintro e w7 ⟨v362, rfl, ho0, hb⟩
            refine ⟨_, rfl, ?_⟩
            have n0_ := Aside0.mk (Kd.S_elder' (by (with_reducible repeat (first | apply Kd.S_alloc | apply Kd.S_drewN | apply Kd.S_drew)); exact HO_3.out) (Kd.R_base ho0) hb)
            have n1_ := Aside0.mk (Kd.R_lower ho0 (below_size (by repeat (first | (with_reducible first | exact HB.out | apply below_alloc | apply pw_below_drewN | apply below_drew1) | exact HB.out))))
            have n2_ := Aside0.mk (below_step (by repeat (first | (with_reducible first | exact HB.out | apply below_alloc | apply pw_below_drewN | apply below_drew1) | exact HB.out)) hb)
            clear HO_3
            clear HB
            have HO_3 := n0_
            have HO363 := n1_
            have HB := n2_
            clear n0_ n1_ n2_
            (try clear hb)
            (try clear hb2)
            (try clear hk)
            (try clear hi)
            (try clear ho0)
            obtain ⟨Ao8, co8, eo8⟩ := Kd.R_slice HO363.out
            (first | subst eo8 | (injection eo8 with f1_ f2_ f3_; have f4_ := f1_.symm; have f5_ := f3_.symm; clear f1_ f2_ f3_; subst f4_; subst f5_))
            refine hK.out _ _ ⟨((HB.out.cell (World.block_lt_of_cell? w _ hw359_0)).trans hw359_0), ((HB.out.cell (World.block_lt_of_cell? w _ hw359_1)).trans hw359_1), ((HB.out.cell (World.block_lt_of_cell? w _ hw359_2)).trans hw359_2), ((HB.out.cell (World.block_lt_of_cell? w _ hw360_0)).trans hw360_0), ((HB.out.cell (World.block_lt_of_cell? w _ hw360_1)).trans hw360_1), ((HB.out.cell (World.block_lt_of_cell? w _ hw360_2)).trans hw360_2), ((HB.out.cell (World.block_lt_of_cell? w _ hw364_0)).trans hw364_0), ((HB.out.cell (World.block_lt_of_cell? w _ hw364_1)).trans hw364_1), ((HB.out.cell (World.block_lt_of_cell? w _ hw364_2)).trans hw364_2)⟩ (fun hHeld => ?_)
            clear hK K
            refine norm_ (a' := ?_) ?_ ?_
            rotate_left
            · show Act.put _ (some 22) _ = _
              simp only [Act.put, List.setIfInBounds_toArray, List.set_cons_zero, List.set_cons_succ, i64_w, i32_w]
              rfl
            refine pure_ (i := 17) (N := some 28) (v := ?_) (a' := ?_) #[true, true, true, true, true, true, true, true, true, true, true, true, true, true, true, true, true, true, false, false, false] rfl rfl (any_of HT_.out (by kernel_rfl)) (fun _ _ _ h => h) (Or.inl ⟨by rfl, ?_⟩) ?_ ?_
            rotate_left
            · intro w'
              go_simp
              with_reducible rfl
            rotate_left
            · simp only [Act.put, List.setIfInBounds_toArray, List.set_cons_zero, List.set_cons_succ, i64_w, i32_w]
              rfl
            refine one_ (i := 18) (N := some 29) #[true, true, true, true, true, true, true, true, true, true, true, true, true, true, true, true, true, true, true, false, false] rfl rfl (one_of HT_.out (by kernel_rfl)) (by decide) (fun K hK => ?_)
            refine value_ (w1 := ?_) (v := ?_) (by rfl) rfl ?_ ?_
            rotate_left 2
            · go_simp
              constructor
              · rfl
              · rfl
            refine hK.out _ _ ⟨(World.cell?_alloc_lt _ _ _ (World.block_lt_of_cell? _ _ (((HB.out.cell (World.block_lt_of_cell? w _ hw359_0)).trans hw359_0)))).trans (((HB.out.cell (World.block_lt_of_cell? w _ hw359_0)).trans hw359_0)), (World.cell?_alloc_lt _ _ _ (World.block_lt_of_cell? _ _ (((HB.out.cell (World.block_lt_of_cell? w _ hw359_1)).trans hw359_1)))).trans (((HB.out.cell (World.block_lt_of_cell? w _ hw359_1)).trans hw359_1)), (World.cell?_alloc_lt _ _ _ (World.block_lt_of_cell? _ _ (((HB.out.cell (World.block_lt_of_cell? w _ hw359_2)).trans hw359_2)))).trans (((HB.out.cell (World.block_lt_of_cell? w _ hw359_2)).trans hw359_2)), (World.cell?_alloc_lt _ _ _ (World.block_lt_of_cell? _ _ (((HB.out.cell (World.block_lt_of_cell? w _ hw360_0)).trans hw360_0)))).trans (((HB.out.cell (World.block_lt_of_cell? w _ hw360_0)).trans hw360_0)), (World.cell?_alloc_lt _ _ _ (World.block_lt_of_cell? _ _ (((HB.out.cell (World.block_lt_of_cell? w _ hw360_1)).trans hw360_1)))).trans (((HB.out.cell (World.block_lt_of_cell? w _ hw360_1)).trans hw360_1)), (World.cell?_alloc_lt _ _ _ (World.block_lt_of_cell? _ _ (((HB.out.cell (World.block_lt_of_cell? w _ hw360_2)).trans hw360_2)))).trans (((HB.out.cell (World.block_lt_of_cell? w _ hw360_2)).trans hw360_2)), (World.cell?_alloc_lt _ _ _ (World.block_lt_of_cell? _ _ (((HB.out.cell (World.block_lt_of_cell? w _ hw364_0)).trans hw364_0)))).trans (((HB.out.cell (World.block_lt_of_cell? w _ hw364_0)).trans hw364_0)), (World.cell?_alloc_lt _ _ _ (World.block_lt_of_cell? _ _ (((HB.out.cell (World.block_lt_of_cell? w _ hw364_1)).trans hw364_1)))).trans (((HB.out.cell (World.block_lt_of_cell? w _ hw364_1)).trans hw364_1)), (World.cell?_alloc_lt _ _ _ (World.block_lt_of_cell? _ _ (((HB.out.cell (World.block_lt_of_cell? w _ hw364_2)).trans hw364_2)))).trans (((HB.out.cell (World.block_lt_of_cell? w _ hw364_2)).trans hw364_2))⟩ (fun hHeld => ?_)
            clear hK K
            refine norm_ (a' := ?_) ?_ ?_
            rotate_left
            · show Act.put _ (some 29) _ = _
              simp only [Act.put, List.setIfInBounds_toArray, List.set_cons_zero, List.set_cons_succ, i64_w, i32_w]
              rfl
            refine one_ (i := 19) (N := some 30) #[true, true, true, true, true, true, true, true, true, true, true, true, true, true, true, true, true, true, true, true, false] rfl rfl (one_of HT_.out (by kernel_rfl)) (by decide) (fun K hK => ?_)
            refine Kd.S_append_step k36 (w0 := w) w.heap.size (by rfl) (.tmp 11) (.tmp 29) 27 36 (.agg #[(.string ⟨#[]⟩), (.slice none 0 0), (.int .i64 0)]) 48 rfl Try.underlying27 info36 rfl (by decide) (by omega) u3 x3_1 (⟨(rd_T36 l0 x4_1).f0, t361, (rd_T36 l0 x4_1).f2⟩ : S36) [.string ((rd_T36 l0 x4_1).f0), .slice Ao8 t361.length co8, .int .i64 ((rd_T36 l0 x4_1).f2)] (fun _ => True) (fun k_ => some k_ = (.slice Ao8 t361.length co8 : Value).ownBlock) rfl rfl ?aP (fun k_ hk_ => ((Kd.R_mono (ok' := fun k_ => ((fun _ => True)) k_ ∧ some k_ ≠ (u3 : Value).ownBlock) (Kd.R_apart' (HO363.out) (Kd.S_typed HO_3.out) (by decide)) (fun k_ hk => ⟨trivial, hk.2⟩))).1 k_ hk_.symm) ?aF ?aO ?aB ?aS ?aL ?_
            (case aP => exact k36_mkM _ _ _ (⟨(rd_T36 l0 x4_1).f0, t361, (rd_T36 l0 x4_1).f2⟩ : S36) (Kd.R_mono (Kd.R_tight rfl (Kd.R_mono (ok' := fun k_ => ((fun _ => True)) k_ ∧ some k_ ≠ (u3 : Value).ownBlock) (Kd.R_apart' (HO363.out) (Kd.S_typed HO_3.out) (by decide)) (fun k_ hk => ⟨trivial, hk.2⟩))) (fun _ h_ => h_)))
            (case aB => exact (by repeat (first | (with_reducible first | exact HB.out | apply below_alloc | apply pw_below_drewN | apply below_drew1) | exact HB.out)))
            (case aF => exact (fun _ _ => trivial))
            (case aO => exact (by (with_reducible repeat (first | apply Kd.S_alloc | apply Kd.S_drewN | apply Kd.S_drew)); exact Kd.S_mono HO_3.out (fun k_ hk => ⟨trivial, fun e_ => hk.2 e_⟩)))
            (case aS => exact (below_size (by repeat (first | (with_reducible first | exact HB.out | apply below_alloc | apply pw_below_drewN | apply below_drew1) | exact HB.out))))
            (case aL => have := LMc5.out; omega)
            intro v366 w9 ho hb hg hat
            rw [← Ny365.out] at ho
            have n0_ := Aside0.mk (hb)
            have n1_ := Aside0.mk (ho)
            clear HB
            clear HO_3
            clear HO363
            have HB := n0_
            have HO367 := n1_
            clear n0_ n1_
            clear ho hb hg hat
            refine hK.out _ _ ⟨((HB.out.cell (World.block_lt_of_cell? w _ hw359_0)).trans hw359_0), ((HB.out.cell (World.block_lt_of_cell? w _ hw359_1)).trans hw359_1), ((HB.out.cell (World.block_lt_of_cell? w _ hw359_2)).trans hw359_2), ((HB.out.cell (World.block_lt_of_cell? w _ hw360_0)).trans hw360_0), ((HB.out.cell (World.block_lt_of_cell? w _ hw360_1)).trans hw360_1), ((HB.out.cell (World.block_lt_of_cell? w _ hw360_2)).trans hw360_2), ((HB.out.cell (World.block_lt_of_cell? w _ hw364_0)).trans hw364_0), ((HB.out.cell (World.block_lt_of_cell? w _ hw364_1)).trans hw364_1), ((HB.out.cell (World.block_lt_of_cell? w _ hw364_2)).trans hw364_2)⟩ (fun hHeld => ?_)
            clear hK K
            refine norm_ (a' := ?_) ?_ ?_
            rotate_left
            · show Act.put _ (some 30) _ = _
              simp only [Act.put, List.setIfInBounds_toArray, List.set_cons_zero, List.set_cons_succ, i64_w, i32_w]
              rfl
            refine pure_ (i := 20) (N := some 3) (v := ?_) (a' := ?_) #[true, true, true, true, true, true, true, true, true, true, true, true, true, true, true, true, true, true, true, true, true] rfl rfl (any_of HT_.out (by kernel_rfl)) (fun _ _ _ h => h) (Or.inl ⟨by rfl, ?_⟩) ?_ ?_
            rotate_left
            · intro w'
              go_simp
              with_reducible rfl
            rotate_left
            · simp only [Act.put, List.setIfInBounds_toArray, List.set_cons_zero, List.set_cons_succ, i64_w, i32_w]
              rfl
            refine done_ (done_of HT_.out (by kernel_rfl)) ?_
            try go_wp2
            go_roundg k1
            case measure => have := HK1.out; omega
            case rel => exact ⟨(y365), (wrap64 (x4_1 + 1)), (by first | rfl | (simp; done) | (simp [*]; done)), H', ⟨by have := HK1.out; omega⟩, ⟨by (with_reducible repeat (first | apply Kd.S_alloc | apply Kd.S_drewN | apply Kd.S_drew)); exact HO367.out⟩, ⟨by repeat (first | (with_reducible first | exact HB.out | apply below_alloc | apply pw_below_drewN | apply below_drew1) | exact HB.out)⟩⟩
          · rw [if_neg c5] at H
            exact absurd H (by simp)
        · rw [if_neg c3] at H
          exact absurd H (by simp)
      · rw [if_neg c2] at H
        have c2b0 : decide (x4_1 < (l0.length : Int)) = false := decide_eq_false c2
        clear c2
        obtain rfl := Option.some.inj H
        go_wp2
        go_ret
        exact ⟨_, by first | rfl | (simp [errW_none, errW_some] <;> rfl) | (simp [*, errW_none, errW_some] <;> rfl), by (with_reducible repeat (first | apply Kd.S_alloc | apply Kd.S_drewN | apply Kd.S_drew)); exact HO_3.out, by repeat (first | (with_reducible first | exact HB.out | apply below_alloc | apply pw_below_drewN | apply below_drew1) | exact HB.out)⟩

end Go.Proofs.Ytflajlnknimjaaa.PDiskLoads

/- DiskLoads: the files as they come in, copied; the walk of the law. -/
namespace Go.Proofs.Ytflajlnknimjaaa.Dk
open Go.RowKit Go.Maps Go.Proofs.YtflajlnknimjaaaW.PrintWords Go.Proofs.YtflajlnknimjaaaW.PrintMore Go.Proofs.YtflajlnknimjaaaW.PrintLast Go.Proofs.Ytflajlnknimjaaa.Syn Go.Proofs.Ytflajlnknimjaaa.PDiskLoads
set_option linter.unusedVariables false
set_option linter.unusedSimpArgs false
attribute [local go_sem] max2_int min2_int max_two min_two
/-- The files as the law has them. -/
structure FilesIn (w0 : World) (A : Option Addr) (l : List SF) : Prop where
  row : kF.C w0 A l.length l
  len : l.length ≤ 1048576
  fits : ∀ x ∈ l, FileFits x
  sum : (l.map fun f => f.f1.length).sum ≤ 1099511627776
theorem files_l (l : List SF) (hl : l.length ≤ 1048576) (hf : ∀ x ∈ l, x.f1.length ≤ 1099511627776) : ∀ (k i : Nat), i ≤ l.length → l.length < k + i → synodref_Files.l0 k l (l.take i) (i : Int) = some l := by
  intro k
  induction k with
  | zero => intro i hi h; omega
  | succ k ih =>
    intro i hi h
    by_cases hlt : i < l.length
    · have hw : wrap64 ((i : Int) + 1) = ((i + 1 : Nat) : Int) := by unfold wrap64; omega
      have hr := rdF (a := l) hlt
      have hb := bytes_f l[i].f1 (hf _ (List.getElem_mem hlt))
      have ht : (l.take i).length < 2932031007402 := by rw [List.length_take]; omega
      have e : l.take i ++ [(⟨l[i].f0, l[i].f1, l[i].f2⟩ : SF)] = l.take (i + 1) := by rw [List.take_succ_eq_append_getElem hlt]
      unfold synodref_Files.l0
      rw [if_pos (by omega), if_pos (by omega), hr, hb, Option.bind_some, if_pos ht, hw, e]
      exact ih (i + 1) (by omega) (by omega)
    · have : i = l.length := by omega
      subst this
      unfold synodref_Files.l0
      rw [if_neg (by omega), List.take_length]
theorem files_f (l : List SF) (hl : l.length ≤ 1048576) (hf : ∀ x ∈ l, x.f1.length ≤ 1099511627776) : synodref_Files.f (l.length + 1) l = some l := by
  have := files_l l hl hf (l.length + 1) 0 (Nat.zero_le _) (by omega)
  simpa [synodref_Files.f] using this
section
variable {B i : Nat} {w0 w : World} {D : List Thing} {t u : Thing} {p q : Nat} {d : St}
theorem m_copy (hM : Many B w0 w D) {A : Option Addr} {c : Nat} {l : List SF} (hC : kF.C w A l.length l) (hc : l.length ≤ c) (hl : l.length ≤ 1048576) (hf : ∀ x ∈ l, x.f1.length ≤ 1099511627776) :
    Calls Try.prog 30 #[.slice A l.length c] w fun e w' => ∃ A' c', e = .returned (.slice A' l.length c') ∧ Many B w0 w' (SFILES (.slice A' l.length c') l :: D) := by
  refine (synodref_Files.calls (l.length + 1) A c l l w hC hc (files_f l hl hf)).mono ?_
  rintro e w' ⟨v, rfl, h1, h2⟩
  obtain ⟨A', c', rfl⟩ := Kd.S_slice h1
  exact ⟨A', c', rfl, (hM.add h2 (t := SFILES _ l) (S_newT h1)).front⟩
theorem Many.swap (h : Many B w0 w (t :: u :: D)) : Many B w0 w (u :: t :: D) := by
  refine h.re (fun x => if x = 1 then 2 else if x = 2 then 1 else x) rfl fun i v hv => ?_
  rcases i with _ | _ | i
  · exact ⟨1, hv, fun x => by show (if x = 1 then 2 else if x = 2 then 1 else x) = _ ↔ _; split <;> (try split) <;> omega⟩
  · exact ⟨0, hv, fun x => by show (if x = 1 then 2 else if x = 2 then 1 else x) = _ ↔ _; split <;> (try split) <;> omega⟩
  · exact ⟨i + 2, hv, fun x => by show (if x = 1 then 2 else if x = 2 then 1 else x) = _ ↔ _; split <;> (try split) <;> omega⟩
theorem Many.scrap_next {A : Option Addr} {k n : Nat} {H : Nat → Value → Nat → Prop} (h : Many B w0 w D) (hi : D[i]? = some (SCRAP A k n H)) : Many B w0 w (D.set i (SCRAP A (k + 1) n HT)) :=
  h.as hi fun F h => h.imp id (fun ⟨g, cur, f, h0, h1, h2, h3, h4⟩ => ⟨g, cur, f, h0, h1, h2, h3, fun j hk hj => by
    obtain ⟨v, ys, h5, h6, h7, _⟩ := h4 j (by omega) hj
    exact ⟨v, ys, h5, h6, h7, trivial⟩⟩)
theorem SFILES_reads {A : Option Addr} {n c : Nat} {l : List SF} : ∀ w F, (SFILES (.slice A n c) l).P w F → kF.C w A l.length l := fun w F h => (Kd.S_reads' (show Kd.S kF 36 w 0 F (.slice A n c) l from h)).2.2
theorem LoadPost.get_no {l : List SF} {r : Int} {e : Ending} {w' : World} (h : load l = (r, none)) (hp : LoadPost B w0 D l e w') : e = .returned (.tuple #[.pointer none, .int .i64 r]) ∧ Many B w0 w' D := by
  unfold LoadPost at hp
  rw [h] at hp
  exact hp
theorem LoadPost.get_yes {l : List SF} {r : Int} {e : Ending} {w' : World} (h : load l = (r, some d)) (hp : LoadPost B w0 D l e w') : ∃ p, e = .returned (.tuple #[ptr p, .int .i64 r]) ∧ Many B w0 w' (DISK p d :: D) := by
  unfold LoadPost at hp
  rw [h] at hp
  obtain ⟨p, he, hM⟩ := hp
  exact ⟨p, he, hM.front⟩
theorem RLoadPost.get_no {l : List SF} {r : Int} {e : Ending} {w' : World} (h : load l = (r, none)) (hp : RLoadPost B w0 D l e w') : e = .returned (.tuple #[.pointer none, .int .i64 r]) ∧ Many B w0 w' D := by
  unfold RLoadPost at hp
  rw [h] at hp
  exact hp
theorem RLoadPost.get_yes {l : List SF} {r : Int} {e : Ending} {w' : World} (h : load l = (r, some d)) (hp : RLoadPost B w0 D l e w') : ∃ p, e = .returned (.tuple #[ptr p, .int .i64 r]) ∧ Many B w0 w' (REF p d :: D) := by
  unfold RLoadPost at hp
  rw [h] at hp
  exact hp
end
set_option maxHeartbeats 8000000 in
set_option maxRecDepth 100000 in
theorem loads_calls {w : World} {A A' : Option Addr} {c c' : Nat} {l : List SF} {m : List SO} (hl : FilesIn w A l) (hlc : l.length ≤ c) (hm : Ops w A' m) (hmc : m.length ≤ c') :
    Calls Try.prog 8 #[.slice A l.length c, .slice A' m.length c'] w fun e w' => e = .returned (.bool true) ∧ Below w.heap.size w w' := by
  have H0 := Lib.hid (Many.start w)
  have HL := Lib.hid hl
  have HM := Lib.hid hm
  have HLC := Lib.hid hlc
  have HMC := Lib.hid hmc
  have hml := hm.len
  have hll := hl.len
  clear hl hm hlc hmc
  go_enter Try.func8, Try.ntmps8
  go_upto_region 2 with (go_at_call 9; refine (first_calls _).mono ?_; rintro e w1 ⟨rfl, h1⟩; have H1 := Lib.hid (H0.out.read h1); clear h1)
  go_upto_region 5 with (go_at_call 19; refine (m_few (by exact H1.out) (by exact HM.out) (by exact HMC.out)).mono ?_; rintro e w2 ⟨b2, rfl, h2⟩; have H2 := Lib.hid h2; clear h2)
  clear H0 H1
  go_loopw [7, 8] (fun v7 v8 wr => ∃ (k : Nat) (n : Int), k ≤ l.length ∧ k ≤ 300 ∧ 0 ≤ n ∧ n ≤ 40000 * k ∧ v7 = .int .i64 n ∧ v8 = .int .i64 k ∧ Hid (Many w.heap.size w wr [])) (fun _ v8 _ => l.length - (intOf v8).toNat)
  case atStart => exact ⟨0, 0, Nat.zero_le _, by omega, by omega, by omega, rfl, rfl, H2⟩
  case round =>
    obtain ⟨k, n, hk, hk3, hn0, hn, rfl, rfl, HR⟩ := hrel
    by_cases hlt : k < l.length
    · by_cases hlt3 : k < 300
      · have hlt3i : (k : Int) < 300 := by omega
        obtain ⟨ad, A4, c4, rfl, x0, x1, x2, hl4, hC4⟩ := files_at (Kd.C_below HL.out.row HR.out.below) hlt
        have hfit := HL.out.fits _ (List.getElem_mem hlt)
        obtain ⟨x, hx⟩ : ∃ x, x = l[k] := ⟨_, rfl⟩
        rw [← hx] at x0 x1 x2 hl4 hC4 hfit
        have hdl := hfit.dat
        have hnl := hfit.name
        clear hx hl4 hC4 hfit
        go_upto_region 7 with fail
        go_quiet (fail)
        obtain ⟨ga, hga, hga0, hga1⟩ : ∃ ga : Int, (if (20000 : Int) < (x.f1.length : Int) then (20000 : Int) else (x.f1.length : Int)) = ga ∧ 0 ≤ ga ∧ ga ≤ 20000 := ⟨_, rfl, by split <;> omega, by split <;> omega⟩
        obtain ⟨gb, hgb, hgb0, hgb1⟩ : ∃ gb : Int, (if (20000 : Int) < (x.f0.size : Int) then (20000 : Int) else (x.f0.size : Int)) = gb ∧ 0 ≤ gb ∧ gb ≤ 20000 := ⟨_, rfl, by split <;> omega, by split <;> omega⟩
        rw [hga, hgb]
        have hk2 : wrap64 ((k : Int) + 1) = (k : Int) + 1 := by unfold wrap64; omega
        clear hga hgb x0 x1 x2 hdl hnl
        go_wp2
        go_roundw
        case rel => exact ⟨k + 1, _, by omega, by omega, by omega, by omega, rfl, by first | rfl | (rw [hk2]; rfl), Lib.hid (HR.out.read (by repeat (first | exact Below.refl _ _ | apply pw_below_drewN)))⟩
        case measure =>
          first
          | (show l.length - ((k : Int) + 1).toNat < l.length - (k : Int).toNat; omega)
          | (show l.length - (intOf (.int .i64 (wrap64 ((k : Int) + 1)))).toNat < l.length - (intOf (.int .i64 (k : Int))).toNat; rw [hk2]; show l.length - ((k : Int) + 1).toNat < l.length - (k : Int).toNat; omega)
      · have hkk : k = 300 := by omega
        subst hkk
        have t3 : decide ((300 : Int) < (l.length : Int)) = true := decide_eq_true (by omega)
        go_wp2
        all_goals (go_ret; exact ⟨rfl, HR.out.below⟩)
    · have hkn : k = l.length := by omega
      subst hkn
      have t3 : decide ((300 : Int) < (l.length : Int)) = false := decide_eq_false (by omega)
      go_upto_region 10 with fail
      all_goals (first | (go_ret; exact ⟨rfl, HR.out.below⟩) | skip)
      clear t3 hk3 hn0 hn hk
      go_upto_region 11 with (go_at_call 30; go_must ((with_reducible refine (m_copy (by exact HR.out) (by exact Kd.C_below HL.out.row HR.out.below) (by exact HLC.out) (by exact HL.out.len) (by exact fun x hx => (HL.out.fits x hx).dat)).mono ?_); rintro e w4 ⟨A5, c5, rfl, h⟩; have H5 := Lib.hid h; clear h HR))
      obtain ⟨r, o, hload⟩ : ∃ r o, load l = (r, o) := ⟨_, _, rfl⟩
      cases o with
      | none =>
        have HLd := Lib.hid hload
        clear hload
        go_upto_region 12 with (go_at_call 29; go_must ((with_reducible refine (m_loadG (i := 0) (by exact H5.out) (by with_unfolding_all rfl) (by exact SFILES_reads) (by exact HL.out.len) (by exact HL.out.fits) (by exact HL.out.sum)).mono ?_); intro e w5 hp; obtain ⟨rfl, h⟩ := LoadPost.get_no HLd.out hp; have H6 := Lib.hid h; clear h hp H5))
        go_upto_region 13 with (go_at_call 31; go_must ((with_reducible refine (m_rload (by exact H6.out) (by exact fun W hb => Kd.C_below HL.out.row hb) (by exact HL.out.len) (by exact HL.out.fits) (by exact HL.out.sum)).mono ?_); intro e w6 hp; obtain ⟨rfl, h⟩ := RLoadPost.get_no HLd.out hp; have H7 := Lib.hid h; clear h hp H6))
        go_wp2_with (first
          | (go_at_call 25; go_must ((with_reducible refine (same_eq (by exact (H7.out.sfiles (i := 0) rfl).2.2) (by exact (H7.out.sfiles (i := 0) rfl).2.1) (by exact Kd.C_below HL.out.row H7.out.below) (by exact HLC.out) (by have := HL.out.len; omega) (by exact fun x hx => (HL.out.fits x hx).dat)).mono ?_); rintro e w7 ⟨rfl, h⟩; have H8 := Lib.hid (H7.out.read h); clear h))
          | (go_at_call 11; refine (num_calls _ _).mono ?_; rintro e w8 ⟨rfl, rfl⟩))
        go_ret
        exact ⟨rfl, H8.out.below⟩
      | some d =>
        have HLd := Lib.hid hload
        clear hload
        go_upto_region 12 with (go_at_call 29; go_must ((with_reducible refine (m_loadG (i := 0) (by exact H5.out) (by with_unfolding_all rfl) (by exact SFILES_reads) (by exact HL.out.len) (by exact HL.out.fits) (by exact HL.out.sum)).mono ?_); intro e w5 hp; obtain ⟨p, rfl, h⟩ := LoadPost.get_yes HLd.out hp; have H6 := Lib.hid h; clear h hp H5))
        go_upto_region 13 with (go_at_call 31; go_must ((with_reducible refine (m_rload (by exact H6.out) (by exact fun W hb => Kd.C_below HL.out.row hb) (by exact HL.out.len) (by exact HL.out.fits) (by exact HL.out.sum)).mono ?_); intro e w6 hp; obtain ⟨q, rfl, h⟩ := RLoadPost.get_yes HLd.out hp; have H7 := Lib.hid h.swap; clear h hp H6))
        go_upto_region 18 with (first
          | (go_at_call 25; go_must ((with_reducible refine (same_eq (by exact (H7.out.sfiles (i := 2) rfl).2.2) (by exact (H7.out.sfiles (i := 2) rfl).2.1) (by exact Kd.C_below HL.out.row H7.out.below) (by exact HLC.out) (by have := HL.out.len; omega) (by exact fun x hx => (HL.out.fits x hx).dat)).mono ?_); rintro e w7 ⟨rfl, h⟩; have H8 := Lib.hid ((H7.out.read h).scrap (i := 2) rfl (fun x hx => (HL.out.fits x hx).dat)); clear h H7))
          | (go_at_call 11; refine (num_calls _ _).mono ?_; rintro e w8 ⟨rfl, rfl⟩))
        obtain ⟨n, hn⟩ : ∃ n, n = l.length := ⟨_, rfl⟩
        rw [← hn] at H8 hll ⊢
        clear hn
        go_upto_region 19 with fail
        go_loopw [15, 16] (fun v15 v16 wr => ∃ k : Nat, k ≤ n ∧ v15 = .int .i64 k ∧ Hid (Many w.heap.size w wr (DISK p d :: REF q d :: SCRAP A5 k n HT :: []))) (fun v15 _ _ => n - (intOf v15).toNat)
        case atStart => exact ⟨0, Nat.zero_le _, rfl, H8⟩
        case round =>
          obtain ⟨k, hk, rfl, HW⟩ := hrel
          by_cases hlt : k < n
          · obtain ⟨g, A6, u, c6, rfl, hm, hmc, hM7⟩ := HW.out.scrap_at (i := 2) rfl hlt
            have H9 := Lib.hid hM7
            have hk2 : wrap64 ((k : Int) + 1) = (k : Int) + 1 := by unfold wrap64; omega
            have hml : (u : Int) ≤ 1099511627776 := by omega
            clear hM7 HW
            go_upto_region 22 with fail
            go_loopw [16] (fun v16 wq => ∃ j : Nat, j ≤ u ∧ v16 = .int .i64 j ∧ Hid (Many w.heap.size w wq (DISK p d :: REF q d :: SCRAP (some ⟨g, 0, none⟩) k n (HK k (.slice A6 u c6) u) :: []))) (fun v16 _ => u - (intOf v16).toNat)
            case atStart => exact ⟨0, Nat.zero_le _, rfl, H9⟩
            case round =>
              obtain ⟨j, hj, rfl, HQ⟩ := hrel
              obtain ⟨x0, f0⟩ := HQ.out.scrap_cell (i := 2) rfl hlt
              by_cases hjl : j < u
              · obtain ⟨g', y, rfl, y0, fy, hset⟩ := HQ.out.scrap_byte (i := 2) rfl hlt hjl
                have HSet := Lib.hid hset
                have hj2 : wrap64 ((j : Int) + 1) = (j : Int) + 1 := by unfold wrap64; omega
                clear hset
                go_wp2
                go_roundw
                case rel => exact ⟨j + 1, by omega, by first | rfl | (rw [hj2]; rfl), Lib.hid (HSet.out _)⟩
                case measure =>
                  first
                  | (show u - ((j : Int) + 1).toNat < u - (j : Int).toNat; omega)
                  | (show u - (intOf (.int .i64 (wrap64 ((j : Int) + 1)))).toNat < u - (intOf (.int .i64 (j : Int))).toNat; rw [hj2]; show u - ((j : Int) + 1).toNat < u - (j : Int).toNat; omega)
              · have hjm : j = u := by omega
                subst hjm
                have HX := Lib.hid (HQ.out.scrap_next (i := 2) rfl)
                go_wp2
                go_roundw
                case rel => exact ⟨k + 1, by omega, by first | rfl | (rw [hk2]; rfl), HX⟩
                case measure =>
                  first
                  | (show n - ((k : Int) + 1).toNat < n - (k : Int).toNat; omega)
                  | (show n - (intOf (.int .i64 (wrap64 ((k : Int) + 1)))).toNat < n - (intOf (.int .i64 (k : Int))).toNat; rw [hk2]; show n - ((k : Int) + 1).toNat < n - (k : Int).toNat; omega)
          · have hkn : k = n := by omega
            subst hkn
            go_upto_region 26 with (go_at_call 28; go_must (refine (same4_calls (by exact HW.out)).mono ?_; rintro e w9 ⟨rfl, h9⟩; have H9 := Lib.hid h9; clear h9))
            go_upto_region 27 with fail
            go_loopw [17, 18, 19] (fun v17 v18 v19 wr => ∃ k : Nat, k ≤ m.length ∧ v17 = .bool true ∧ v18 = .int .i64 k ∧ Hid (∃ T, Many w.heap.size w wr (DISK p (plays d (m.take k)) :: REF q (plays d (m.take k)) :: T))) (fun _ v18 _ _ => m.length - (intOf v18).toNat)
            case atStart => exact ⟨0, Nat.zero_le _, rfl, rfl, Lib.hid ⟨_, H9.out⟩⟩
            case round =>
              obtain ⟨k, hk, rfl, rfl, HR0⟩ := hrel
              obtain ⟨T, HR1⟩ := HR0.out
              have HR := Lib.hid HR1
              clear HR0 HR1
              by_cases hlt : k < m.length
              · obtain ⟨ad, A4, c4, rfl, hcell, hl4, hC4⟩ := HM.out.at k hlt
                obtain ⟨x0, x1, x2, x3, x4⟩ := hcell wr HR.out.below
                have hfit := HM.out.fits _ (List.getElem_mem hlt)
                have hplay := plays_take (s := d) hlt
                obtain ⟨x, hx⟩ : ∃ x, x = m[k] := ⟨_, rfl⟩
                rw [← hx] at x0 x1 x2 x3 x4 hl4 hC4 hfit hplay
                have HP := Lib.hid hplay
                have HX := Lib.hid hfit
                have HL4 := Lib.hid hl4
                have HC4 := Lib.hid hC4
                have hk2 : wrap64 ((k : Int) + 1) = (k : Int) + 1 := by unfold wrap64; omega
                clear hcell hx hplay hfit hl4 hC4
                go_upto_region 30 with (go_at_call 27; go_must (refine (does_calls (by exact HR.out) x (by exact HX.out) A4 c4 (by exact HL4.out) (by exact HC4.out)).mono ?_; rintro e w5 ⟨rfl, h5⟩; have H5 := Lib.hid h5; clear h5))
                clear x0 x1 x2 x3 x4
                go_wp2_with (go_at_call 28; go_must (refine (same4_calls (by exact H5.out)).mono ?_; rintro e w6 ⟨rfl, h6⟩; have H6 := Lib.hid h6; clear h6))
                go_roundw
                case rel =>
                  refine ⟨k + 1, by omega, rfl, by first | rfl | (rw [hk2]; rfl), Lib.hid ⟨T, ?_⟩⟩
                  have h9 := H6.out
                  rw [HP.out] at h9
                  exact h9
                case measure =>
                  first
                  | (show m.length - ((k : Int) + 1).toNat < m.length - (k : Int).toNat; omega)
                  | (show m.length - (intOf (.int .i64 (wrap64 ((k : Int) + 1)))).toNat < m.length - (intOf (.int .i64 (k : Int))).toNat; rw [hk2]; show m.length - ((k : Int) + 1).toNat < m.length - (k : Int).toNat; omega)
              · have hkn : k = m.length := by omega
                subst hkn
                go_wp2
                go_ret
                exact ⟨rfl, HR.out.below⟩
end Go.Proofs.Ytflajlnknimjaaa.Dk

/- The laws' arguments: files as they lie when the law is called. -/
namespace Go.Proofs.Ytflajlnknimjaaa.Dk
open Go.ChangeShapes Go.WideShapes Go.ChangeAt Go.Deep
open Go.RowKit Go.Maps Go.Proofs.YtflajlnknimjaaaW.PrintWords Go.Proofs.YtflajlnknimjaaaW.PrintMore Go.Proofs.Ytflajlnknimjaaa.Syn Go.Proofs.Ytflajlnknimjaaa.PDiskLoads
set_option linter.unusedVariables false
set_option linter.unusedSimpArgs false
theorem info_file : ∃ fs, Try.prog.underlying 36 = some (.struct fs) ∧ fs.size = 3 ∧ oneCellFields Try.prog fs = true ∧ (fs.map (·.type)) = #[9, 34, 3] := ⟨_, Try.underlying36, by kernel_rfl, by kernel_rfl, by kernel_rfl⟩
theorem sum_le_bound (l : List SF) (b : Nat) (h : ∀ x ∈ l, x.f1.length ≤ b) : (l.map fun f => f.f1.length).sum ≤ l.length * b := by
  induction l with
  | nil => simp
  | cons x r ih =>
    have h1 := h x (by simp)
    have h2 := ih (fun y hy => h y (by simp [hy]))
    simp only [List.map_cons, List.sum_cons, List.length_cons, Nat.succ_mul]
    omega
set_option maxRecDepth 10000 in
/-- FILES, as they come in. -/
theorem open_files {H : Type} {enc : TypeId × Value → H} {W : World} {v : Value} {d : DataW H} {p : List MemPlace} (h : DataW.Trod enc Try.prog W 0 (fun _ => true) true 27 v d p) {base : Nat} (hv : Value.okWide Try.prog W .any base 27 v) (hb : Rows.uptoBulk d ≤ 1048576) :
    ∃ A c l, v = .slice A l.length c ∧ l.length ≤ c ∧ FilesIn W A l := by
  obtain ⟨a0, n0, c0, rfl⟩ := okWide_slice Try.underlying27 hv
  obtain ⟨fuel, hf⟩ := h
  obtain ⟨fs, he, hfs, hone, hty⟩ := info_file
  have hC : Try.prog.cellsOf 36 = 3 := by kernel_rfl
  rcases open_slice Try.underlying27 hf with ⟨hcs, _⟩ | ⟨a, len, cap, m, n, D, Pl, hcs, _, hl, hm, hmm, hx, hi⟩
  · simp [Value.cells] at hcs
    obtain ⟨rfl, rfl, rfl⟩ := hcs
    exact ⟨none, 0, [], rfl, Nat.le_refl _, ⟨⟨rfl, Nat.zero_le _, fun h => absurd h (Nat.lt_irrefl 0)⟩, Nat.zero_le _, fun x hx => absurd hx (by simp), by simp⟩⟩
  · simp [Value.cells] at hcs
    obtain ⟨rfl, rfl, rfl⟩ : some a = a0 ∧ len = n0 ∧ cap = c0 := ⟨hcs.1.symm, hcs.2.1.symm, hcs.2.2.symm⟩
    have hmc : m = cap := by simpa using hmm
    have hd : d = .slice ((List.range len).map D) ((List.range (m - len)).map fun j => D (len + j)) := congrArg Prod.fst hx
    have hbl : Rows.uptoBulkAll ((List.range len).map D) ≤ 1048576 := by
      rw [hd] at hb
      simp only [Rows.uptoBulk] at hb
      omega
    have hlen : len ≤ 1048576 := by
      have := bulk_len ((List.range len).map D)
      rw [List.length_map, List.length_range] at this
      omega
    obtain ⟨l, hll, hq⟩ := list_of (Q := fun i (x : SF) => ∃ A4 c4, x.f1.length ≤ c4 ∧ (Kd.int .u8).C W A4 x.f1.length x.f1 ∧ (x.f0.size ≤ 1048576 ∧ x.f1.length ≤ 1048576) ∧ W.cell? (a.add (i * 3)) = some (.string x.f0) ∧ W.cell? (a.add (i * 3 + 1)) = some (.slice A4 x.f1.length c4) ∧ W.cell? (a.add (i * 3 + 2)) = some (.int .i64 x.f2)) len (by
      intro i hil
      obtain ⟨cs', hc, ht⟩ := hi i (by omega)
      rw [hC] at hc
      obtain ⟨ys, n', hy, hF⟩ := fields_at he hone (by rw [hfs]; exact hc) ht
      have hbi : Rows.uptoBulkAll (ys.map (·.1)) ≤ 1048576 := by
        have h1 := bulk_mem (List.mem_map_of_mem (f := D) (List.mem_range.2 hil))
        have h2 : D i = .agg (ys.map (·.1)) := hy
        rw [h2] at h1
        simp only [Rows.uptoBulk] at h1
        omega
      have hbz : ∀ (j : Nat) (z : DataW H × List MemPlace), ys[j]? = some z → Rows.uptoBulk z.1 ≤ 1048576 := fun j z hz => Nat.le_trans (bulk_mem (List.mem_map_of_mem (f := fun x : DataW H × List MemPlace => x.1) (List.mem_of_getElem? hz))) hbi
      obtain ⟨g0, q0, r0⟩ := field_at hty (j := 0) rfl
      obtain ⟨g1, q1, r1⟩ := field_at hty (j := 1) rfl
      obtain ⟨g2, q2, r2⟩ := field_at hty (j := 2) rfl
      obtain ⟨v0, z0, m0, y0, t0⟩ := hF 0 g0 q0
      obtain ⟨v1, z1, m1, y1, t1⟩ := hF 1 g1 q1
      obtain ⟨v2, z2, m2, y2, t2⟩ := hF 2 g2 q2
      rw [r0] at t0
      rw [r1] at t1
      rw [r2] at t2
      obtain ⟨x0, e0, d0, _⟩ := DataW.trod_string Try.underlying9 t0
      obtain ⟨A4, c4, x1, e1, l1, hC1, b1⟩ := open_bytes t1
      obtain ⟨x2, e2, _, _⟩ := DataW.trod_int Try.underlying3 t2
      obtain rfl : v0 = .string x0 := by simpa using e0
      obtain rfl : v2 = .int .i64 x2 := by simpa using e2
      subst e1
      have k0 := hbz 0 _ y0
      have k1 := hbz 1 _ y1
      rw [d0] at k0
      simp only [Rows.uptoBulk] at k0
      have s0 : x0.data.toList.length = x0.size := by rw [Array.length_toList]; rfl
      have hadd : ∀ j, (a.add (i * 3)).add j = a.add (i * 3 + j) := fun j => Go.Deep.add_add _ _ _
      rw [hadd] at m0 m1 m2
      exact ⟨⟨x0, x1, x2⟩, A4, c4, l1, hC1, ⟨by show x0.size ≤ _; omega, by show x1.length ≤ _; omega⟩, m0, m1, m2⟩)
    subst hll
    have hfit : ∀ x ∈ l, x.f0.size ≤ 1048576 ∧ x.f1.length ≤ 1048576 := fun x hx => by
      obtain ⟨j, hj, rfl⟩ := List.getElem_of_mem hx
      obtain ⟨A4, c4, _, _, h5, _⟩ := hq j hj
      exact h5
    refine ⟨some a, cap, l, rfl, hl, ⟨⟨rfl, by omega, fun _ => ⟨a, rfl, fun j x hj => ?_⟩⟩, hlen, fun x hx => ⟨by have := (hfit x hx).1; omega, by have := (hfit x hx).2; omega⟩, ?_⟩⟩
    · obtain ⟨hj1, rfl⟩ := List.getElem?_eq_some_iff.1 hj
      obtain ⟨A4, c4, h4, hC4, _, k0, k1, k2⟩ := hq j hj1
      refine ⟨_, rfl, k36_mk W l[j] h4 hC4, fun i u hu => ?_⟩
      have hi3 : i < 3 := (List.getElem?_eq_some_iff.1 hu).1
      show W.cell? (a.add (j * 3 + i)) = some u
      rcases i with _ | _ | _ | i
      · rw [← hu]; exact k0
      · rw [← hu]; exact k1
      · rw [← hu]; exact k2
      · omega
    · have h1 := sum_le_bound l 1048576 (fun x hx => (hfit x hx).2)
      have h2 : l.length * 1048576 ≤ 1048576 * 1048576 := Nat.mul_le_mul_right _ hlen
      omega
end Go.Proofs.Ytflajlnknimjaaa.Dk

-- PRINTED BY print.sh 35421559b90ae4d0a3588c463048766b98c2df88dd9212a6774a882060cdf62d: not written by this session
import Derived.Test.YtflajlnknimjaaaPDiskLoadsx0
namespace Go.Proofs.Ytflajlnknimjaaa.PDiskLoads
open Go.RowKit Go.Proofs.YtflajlnknimjaaaW.PrintWords Go.Proofs.YtflajlnknimjaaaW.PrintLast Go.Proofs.YtflajlnknimjaaaW.PrintMore
attribute [local go_sem] max2_int min2_int max_two min_two max_three min_three max_four min_four   -- for this text's walks alone
set_option linter.unusedVariables false
set_option linter.unusedSimpArgs false

-- NOT PRINTED: function 74 (slices_partitionOrdered_string)

-- NOT PRINTED: function 64 (slices_pdqsortOrdered_string)

-- NOT PRINTED: function 60 (slices_Sort_string_string)

-- NOT PRINTED: function 41 (slices_Sorted_string)

-- NOT PRINTED: function 42 (disk_file)

-- NOT PRINTED: function 18 (disk_Disk_List)

-- NOT PRINTED: function 43 (disk_fresh)

-- NOT PRINTED: function 21 (disk_Disk_Files)

-- NOT PRINTED: function 22 (disk_Disk_Crash)

/-! ### synodref_SameBytes: function 24 -/
def synodref_SameBytes.l0 : Nat → List Int → List Int → Int → Option (Bool)
  | 0, _, _, _ => none
  | k + 1, x0, x1, x5 => if x5 < (x0.length : Int) then (if 0 ≤ x5 then (if x5 < (x1.length : Int) then (if (rd x0 x5) = (rd x1 x5) then (synodref_SameBytes.l0 k x0 x1 (wrap64 (x5 + 1))) else (some false)) else (none)) else (none)) else (some true)
def synodref_SameBytes.f (k : Nat) (l0 : List Int) (l1 : List Int) : Option (Bool) := if (l0.length : Int) = (l1.length : Int) then (synodref_SameBytes.l0 k l0 l1 0) else (some false)
theorem synodref_SameBytes.mono_l : ∀ k, (∀ y0 y1 y2, LeO (synodref_SameBytes.l0 k y0 y1 y2) (synodref_SameBytes.l0 (k + 1) y0 y1 y2))
  | 0 => fun _ _ _ r h => by simp [synodref_SameBytes.l0] at h
  | k + 1 => by
    have ih0 := synodref_SameBytes.mono_l k
    · intro y0 y1 y2
      unfold synodref_SameBytes.l0
      repeat' first
      | (with_reducible exact ih0 _ _ _)
      | (with_reducible exact LeO.refl _)
      | (with_reducible exact LeO.none _)
      | (with_reducible refine LeO.ite ?_ ?_)
      | (with_reducible refine LeO.bind ?_ (fun _ => ?_))
      | exact ih0 _ _ _
      | exact LeO.none _
      | refine LeO.ite ?_ ?_
      | refine LeO.bind ?_ (fun _ => ?_)
theorem synodref_SameBytes.mono : ∀ a0 a1 k, LeO (synodref_SameBytes.f k a0 a1) (synodref_SameBytes.f (k + 1) a0 a1) := by
  intro a0 a1 k
  have ih0 := synodref_SameBytes.mono_l k
  unfold synodref_SameBytes.f
  repeat' first
      | (with_reducible exact ih0 _ _ _)
      | (with_reducible exact LeO.refl _)
      | (with_reducible exact LeO.none _)
      | (with_reducible refine LeO.ite ?_ ?_)
      | (with_reducible refine LeO.bind ?_ (fun _ => ?_))
      | exact ih0 _ _ _
      | exact LeO.none _
      | refine LeO.ite ?_ ?_
      | refine LeO.bind ?_ (fun _ => ?_)
set_option maxHeartbeats 8000000 in
set_option maxRecDepth 100000 in
theorem synodref_SameBytes.calls (k : Nat) (A0 : Option Addr) (c0 : Nat) (l0 : List Int) (A1 : Option Addr) (c1 : Nat) (l1 : List Int) (r : Bool) (w : World) (hr0 : Kd.C (Kd.int .u8) w A0 l0.length l0) (hc0 : l0.length ≤ c0) (hr1 : Kd.C (Kd.int .u8) w A1 l1.length l1) (hc1 : l1.length ≤ c1) (h : synodref_SameBytes.f k l0 l1 = some r) :
    Calls Try.prog 24 #[.slice A0 l0.length c0, .slice A1 l1.length c1] w fun e w' => e = .returned (.bool r) ∧ Drawn0 w w' := by
  have HR0 := Aside0.mk hr0
  have HC0 := Aside0.mk hc0
  clear hr0 hc0
  have HR1 := Aside0.mk hr1
  have HC1 := Aside0.mk hc1
  clear hr1 hc1
  have H : (if (l0.length : Int) = (l1.length : Int) then (synodref_SameBytes.l0 k l0 l1 0) else (some false)) = some r := h
  clear h
  by_cases c3 : (l0.length : Int) = (l1.length : Int)
  · rw [if_pos c3] at H
    have c3b0 : ((l0.length : Int) == (l1.length : Int)) = true := beq_iff_eq.mpr c3
    have c3b1 : ((l0.length : Int) != (l1.length : Int)) = false := bne_eq_false_iff_eq.mpr c3
    have c3b2 : (l0.length == l1.length) = true := by first | simpa using c3 | (simp at c3 ⊢; omega)
    clear c3
    have H' := Aside0.mk H
    clear H
    go_enter Try.func24, Try.ntmps24
    go_wp2
    repeat (go_quiet (fail); try go_wp2)
    go_loopg [5] k (fun kq v5 w' => ∃ (x5_1 : Int), v5 = .int .i64 x5_1 ∧ Aside0 (synodref_SameBytes.l0 kq l0 l1 x5_1 = some r) ∧ Aside0 (kq ≤ k) ∧ Drawn0 w w')
    case atStart => exact ⟨(0), (by first | rfl | (simp; done) | (simp [*]; done)), H', ⟨Nat.le_refl _⟩, by repeat (first | exact Drawn0.refl _ | apply Drawn0.step)⟩
    case round =>
      clear H'
      try clear c1
      try clear c2
      try clear p2
      try clear c3
      try clear c3b0
      try clear c3b1
      try clear c3b2
      obtain ⟨x5_1, rfl, HA, HK1, ⟨m1, rfl⟩⟩ := hrel
      cases gk with
      | zero => exact absurd HA.out (by simp [synodref_SameBytes.l0])
      | succ k1 =>
        have H := HA.out
        clear HA
        simp only [synodref_SameBytes.l0] at H
        by_cases c4 : x5_1 < (l0.length : Int)
        · rw [if_pos c4] at H
          have c4b0 : decide (x5_1 < (l0.length : Int)) = true := decide_eq_true c4
          clear c4
          by_cases c5 : 0 ≤ x5_1
          · rw [if_pos c5] at H
            have c5b0 : decide (0 ≤ x5_1) = true := decide_eq_true c5
            clear c5
            by_cases c6 : x5_1 < (l1.length : Int)
            · rw [if_pos c6] at H
              have c6b0 : decide (x5_1 < (l1.length : Int)) = true := decide_eq_true c6
              clear c6
              by_cases c7 : (rd l0 x5_1) = (rd l1 x5_1)
              · rw [if_pos c7] at H
                have c7b0 : ((rd l0 x5_1) == (rd l1 x5_1)) = true := beq_iff_eq.mpr c7
                have c7b1 : ((rd l0 x5_1) != (rd l1 x5_1)) = false := bne_eq_false_iff_eq.mpr c7
                clear c7
                have H' := Aside0.mk H
                clear H
                have p221 : 0 ≤ (x5_1 : Int) := of_decide_eq_true (by first | (with_reducible assumption) | assumption)
                have q221 : x5_1 < (l0.length : Int) := of_decide_eq_true (by first | (with_reducible assumption) | assumption)
                obtain ⟨ad221, e221, hx221_0⟩ := Kd.at_int HR0.out x5_1 p221 q221
                cases e221
                replace p221 := eq_true p221
                replace q221 := eq_true q221
                have p222 : 0 ≤ (x5_1 : Int) := of_decide_eq_true (by first | (with_reducible assumption) | assumption)
                have q222 : x5_1 < (l1.length : Int) := of_decide_eq_true (by first | (with_reducible assumption) | assumption)
                obtain ⟨ad222, e222, hx222_0⟩ := Kd.at_int HR1.out x5_1 p222 q222
                cases e222
                replace p222 := eq_true p222
                replace q222 := eq_true q222
                go_wp2
                repeat (go_quiet (fail); try go_wp2)
                go_roundg k1
                case measure => have := HK1.out; omega
                case rel => exact ⟨(wrap64 (x5_1 + 1)), (by first | rfl | (simp; done) | (simp [*]; done)), H', ⟨by have := HK1.out; omega⟩, by repeat (first | exact Drawn0.refl _ | apply Drawn0.step)⟩
              · rw [if_neg c7] at H
                have c7b0 : ((rd l0 x5_1) == (rd l1 x5_1)) = false := beq_eq_false_iff_ne.mpr c7
                have c7b1 : ((rd l0 x5_1) != (rd l1 x5_1)) = true := bne_iff_ne.mpr c7
                obtain rfl := Option.some.inj H
                have p221 : 0 ≤ (x5_1 : Int) := of_decide_eq_true (by first | (with_reducible assumption) | assumption)
                have q221 : x5_1 < (l0.length : Int) := of_decide_eq_true (by first | (with_reducible assumption) | assumption)
                obtain ⟨ad221, e221, hx221_0⟩ := Kd.at_int HR0.out x5_1 p221 q221
                cases e221
                replace p221 := eq_true p221
                replace q221 := eq_true q221
                have p222 : 0 ≤ (x5_1 : Int) := of_decide_eq_true (by first | (with_reducible assumption) | assumption)
                have q222 : x5_1 < (l1.length : Int) := of_decide_eq_true (by first | (with_reducible assumption) | assumption)
                obtain ⟨ad222, e222, hx222_0⟩ := Kd.at_int HR1.out x5_1 p222 q222
                cases e222
                replace p222 := eq_true p222
                replace q222 := eq_true q222
                go_wp2
                repeat (go_quiet (fail); try go_wp2)
                go_ret
                exact ⟨by first | rfl | (simp; done) | (simp [*]; done), by repeat (first | exact Drawn0.refl _ | apply Drawn0.step)⟩
            · rw [if_neg c6] at H
              exact absurd H (by simp)
          · rw [if_neg c5] at H
            exact absurd H (by simp)
        · rw [if_neg c4] at H
          have c4b0 : decide (x5_1 < (l0.length : Int)) = false := decide_eq_false c4
          clear c4
          obtain rfl := Option.some.inj H
          go_wp2
          repeat (go_quiet (fail); try go_wp2)
          go_ret
          exact ⟨by first | rfl | (simp; done) | (simp [*]; done), by repeat (first | exact Drawn0.refl _ | apply Drawn0.step)⟩
  · rw [if_neg c3] at H
    have c3b0 : ((l0.length : Int) == (l1.length : Int)) = false := beq_eq_false_iff_ne.mpr c3
    have c3b1 : ((l0.length : Int) != (l1.length : Int)) = true := bne_iff_ne.mpr c3
    have c3b2 : (l0.length == l1.length) = false := by first | simpa using c3 | (simp at c3 ⊢; omega)
    obtain rfl := Option.some.inj H
    go_enter Try.func24, Try.ntmps24
    go_wp2
    repeat (go_quiet (fail); try go_wp2)
    go_ret
    exact ⟨by first | rfl | (simp; done) | (simp [*]; done), by repeat (first | exact Drawn0.refl _ | apply Drawn0.step)⟩

-- NOT PRINTED: function 32 (disk_Disk_Sync)

-- NOT PRINTED: function 9 (synodlaw4_first)

/-! ### synodlaw4_few: function 19 -/
def synodlaw4_few.l0 : Nat → List (S52) → Int → Int → Option (Bool)
  | 0, _, _, _ => none
  | k + 1, x0, x3, x4 => if x4 < (x0.length : Int) then (if x4 < 400 then (if 0 ≤ x4 then (synodlaw4_few.l0 k x0 (wrap64 ((wrap64 ((wrap64 (x3 + (mn (((rd_T52 x0 x4).f2).size : Int) 20000))) + (mn (((rd_T52 x0 x4).f3).size : Int) 20000))) + (mn (((rd_T52 x0 x4).f4).length : Int) 20000))) (wrap64 (x4 + 1))) else (none)) else (if (x0.length : Int) ≤ 400 then (some (decide (x3 ≤ 20000))) else (some false))) else (if (x0.length : Int) ≤ 400 then (some (decide (x3 ≤ 20000))) else (some false))
def synodlaw4_few.f (k : Nat) (l0 : List (S52)) : Option (Bool) := synodlaw4_few.l0 k l0 0 0
theorem synodlaw4_few.mono_l : ∀ k, (∀ y0 y1 y2, LeO (synodlaw4_few.l0 k y0 y1 y2) (synodlaw4_few.l0 (k + 1) y0 y1 y2))
  | 0 => fun _ _ _ r h => by simp [synodlaw4_few.l0] at h
  | k + 1 => by
    have ih0 := synodlaw4_few.mono_l k
    · intro y0 y1 y2
      unfold synodlaw4_few.l0
      repeat' first
      | (with_reducible exact ih0 _ _ _)
      | (with_reducible exact LeO.refl _)
      | (with_reducible exact LeO.none _)
      | (with_reducible refine LeO.ite ?_ ?_)
      | (with_reducible refine LeO.bind ?_ (fun _ => ?_))
      | exact ih0 _ _ _
      | exact LeO.none _
      | refine LeO.ite ?_ ?_
      | refine LeO.bind ?_ (fun _ => ?_)
theorem synodlaw4_few.mono : ∀ a0 k, LeO (synodlaw4_few.f k a0) (synodlaw4_few.f (k + 1) a0) := by
  intro a0 k
  have ih0 := synodlaw4_few.mono_l k
  unfold synodlaw4_few.f
  repeat' first
      | (with_reducible exact ih0 _ _ _)
      | (with_reducible exact LeO.refl _)
      | (with_reducible exact LeO.none _)
      | (with_reducible refine LeO.ite ?_ ?_)
      | (with_reducible refine LeO.bind ?_ (fun _ => ?_))
      | exact ih0 _ _ _
      | exact LeO.none _
      | refine LeO.ite ?_ ?_
      | refine LeO.bind ?_ (fun _ => ?_)
set_option maxHeartbeats 8000000 in
set_option maxRecDepth 100000 in
theorem synodlaw4_few.calls (k : Nat) (A0 : Option Addr) (c0 : Nat) (l0 : List (S52)) (r : Bool) (w : World) (hr0 : Kd.C k52 w A0 l0.length l0) (hc0 : l0.length ≤ c0) (h : synodlaw4_few.f k l0 = some r) :
    Calls Try.prog 19 #[.slice A0 l0.length c0] w fun e w' => e = .returned (.bool r) ∧ Below w.heap.size w w' := by
  have HR0 := Aside0.mk hr0
  have HC0 := Aside0.mk hc0
  clear hr0 hc0
  have HB := Aside0.mk (Below.refl w.heap.size w)
  have H : (synodlaw4_few.l0 k l0 0 0) = some r := h
  clear h
  have H' := Aside0.mk H
  clear H
  go_enter Try.func19, Try.ntmps19
  go_wp2
  repeat (go_quiet (fail); try go_wp2)
  go_loopg [3, 4] k (fun kq v3 v4 w' => ∃ (x3_1 : Int) (x4_1 : Int), v3 = .int .i64 x3_1 ∧ v4 = .int .i64 x4_1 ∧ Aside0 (synodlaw4_few.l0 kq l0 x3_1 x4_1 = some r) ∧ Aside0 (kq ≤ k) ∧ Aside0 (Below w.heap.size w w'))
  case atStart => exact ⟨(0), (0), (by first | rfl | (simp; done) | (simp [*]; done)), (by first | rfl | (simp; done) | (simp [*]; done)), H', ⟨Nat.le_refl _⟩, ⟨by repeat (first | (with_reducible first | exact HB.out | apply below_alloc | apply pw_below_drewN | apply below_drew1) | exact HB.out)⟩⟩
  case round =>
    clear H'
    try clear c1
    obtain ⟨x3_1, x4_1, rfl, rfl, HA, HK1, HB⟩ := hrel
    cases gk with
    | zero => exact absurd HA.out (by simp [synodlaw4_few.l0])
    | succ k1 =>
      have H := HA.out
      clear HA
      simp only [synodlaw4_few.l0] at H
      by_cases c2 : x4_1 < (l0.length : Int)
      · rw [if_pos c2] at H
        have c2b0 : decide (x4_1 < (l0.length : Int)) = true := decide_eq_true c2
        clear c2
        by_cases c3 : x4_1 < 400
        · rw [if_pos c3] at H
          have c3b0 : decide (x4_1 < 400) = true := decide_eq_true c3
          clear c3
          by_cases c4 : 0 ≤ x4_1
          · rw [if_pos c4] at H
            have c4b0 : decide (0 ≤ x4_1) = true := decide_eq_true c4
            clear c4
            obtain ⟨ji5, hji5⟩ : ∃ j_ : Int, (mn (((rd_T52 l0 x4_1).f2).size : Int) 20000) = j_ := ⟨_, rfl⟩
            replace H : (synodlaw4_few.l0 k1 l0 (wrap64 ((wrap64 ((wrap64 (x3_1 + (ji5))) + (mn (((rd_T52 l0 x4_1).f3).size : Int) 20000))) + (mn (((rd_T52 l0 x4_1).f4).length : Int) 20000))) (wrap64 (x4_1 + 1))) = some r := by first | (rw [hji5] at H; exact H) | (simp only [hji5] at H ⊢; exact H)
            have hji5_ : (if 20000 < (((rd_T52 l0 x4_1).f2).size : Int) then 20000 else (((rd_T52 l0 x4_1).f2).size : Int)) = ji5 := hji5
            obtain ⟨ji6, hji6⟩ : ∃ j_ : Int, (mn (((rd_T52 l0 x4_1).f3).size : Int) 20000) = j_ := ⟨_, rfl⟩
            replace H : (synodlaw4_few.l0 k1 l0 (wrap64 ((wrap64 ((wrap64 (x3_1 + (ji5))) + (ji6))) + (mn (((rd_T52 l0 x4_1).f4).length : Int) 20000))) (wrap64 (x4_1 + 1))) = some r := by first | (rw [hji6] at H; exact H) | (simp only [hji6] at H ⊢; exact H)
            have hji6_ : (if 20000 < (((rd_T52 l0 x4_1).f3).size : Int) then 20000 else (((rd_T52 l0 x4_1).f3).size : Int)) = ji6 := hji6
            obtain ⟨ji7, hji7⟩ : ∃ j_ : Int, (mn (((rd_T52 l0 x4_1).f4).length : Int) 20000) = j_ := ⟨_, rfl⟩
            replace H : (synodlaw4_few.l0 k1 l0 (wrap64 ((wrap64 ((wrap64 (x3_1 + (ji5))) + (ji6))) + (ji7))) (wrap64 (x4_1 + 1))) = some r := by first | (rw [hji7] at H; exact H) | (simp only [hji7] at H ⊢; exact H)
            have hji7_ : (if 20000 < (((rd_T52 l0 x4_1).f4).length : Int) then 20000 else (((rd_T52 l0 x4_1).f4).length : Int)) = ji7 := hji7
            have H' := Aside0.mk H
            clear H
            have p223 : 0 ≤ (x4_1 : Int) := of_decide_eq_true (by first | (with_reducible assumption) | assumption)
            have q223 : x4_1 < (l0.length : Int) := of_decide_eq_true (by first | (with_reducible assumption) | assumption)
            obtain ⟨ad223, A223_4, c223_4, e223, hx223_0, hx223_1, hx223_2, hx223_3, hx223_4, hl223_4, hi223_4⟩ := at_T52 HR0.out x4_1 p223 q223
            cases e223
            replace hx223_0 := (HB.out.cell (World.block_lt_of_cell? w _ hx223_0)).trans hx223_0
            replace hx223_1 := (HB.out.cell (World.block_lt_of_cell? w _ hx223_1)).trans hx223_1
            replace hx223_2 := (HB.out.cell (World.block_lt_of_cell? w _ hx223_2)).trans hx223_2
            replace hx223_3 := (HB.out.cell (World.block_lt_of_cell? w _ hx223_3)).trans hx223_3
            replace hx223_4 := (HB.out.cell (World.block_lt_of_cell? w _ hx223_4)).trans hx223_4
            have HR223_4 := Aside0.mk hi223_4
            have HC223_4 := Aside0.mk hl223_4
            clear hi223_4 hl223_4
            replace p223 := eq_true p223
            replace q223 := eq_true q223
            have p224 : 0 ≤ (x4_1 : Int) := of_decide_eq_true (by first | (with_reducible assumption) | assumption)
            have q224 : x4_1 < (l0.length : Int) := of_decide_eq_true (by first | (with_reducible assumption) | assumption)
            obtain ⟨ad224, A224_4, c224_4, e224, hx224_0, hx224_1, hx224_2, hx224_3, hx224_4, hl224_4, hi224_4⟩ := at_T52 HR0.out x4_1 p224 q224
            obtain rfl : ad223 = ad224 := (by injection e224)
            replace hx224_0 := (HB.out.cell (World.block_lt_of_cell? w _ hx224_0)).trans hx224_0
            replace hx224_1 := (HB.out.cell (World.block_lt_of_cell? w _ hx224_1)).trans hx224_1
            replace hx224_2 := (HB.out.cell (World.block_lt_of_cell? w _ hx224_2)).trans hx224_2
            replace hx224_3 := (HB.out.cell (World.block_lt_of_cell? w _ hx224_3)).trans hx224_3
            replace hx224_4 := (HB.out.cell (World.block_lt_of_cell? w _ hx224_4)).trans hx224_4
            have HR224_4 := Aside0.mk hi224_4
            have HC224_4 := Aside0.mk hl224_4
            clear hi224_4 hl224_4
            replace p224 := eq_true p224
            replace q224 := eq_true q224
            have ea_ := Option.some.inj (hx223_4.symm.trans hx224_4)
            injection ea_ with ea_ en_ ec_
            subst ea_
            subst ec_
            clear en_
            have p225 : 0 ≤ (x4_1 : Int) := of_decide_eq_true (by first | (with_reducible assumption) | assumption)
            have q225 : x4_1 < (l0.length : Int) := of_decide_eq_true (by first | (with_reducible assumption) | assumption)
            obtain ⟨ad225, A225_4, c225_4, e225, hx225_0, hx225_1, hx225_2, hx225_3, hx225_4, hl225_4, hi225_4⟩ := at_T52 HR0.out x4_1 p225 q225
            obtain rfl : ad223 = ad225 := (by injection e225)
            replace hx225_0 := (HB.out.cell (World.block_lt_of_cell? w _ hx225_0)).trans hx225_0
            replace hx225_1 := (HB.out.cell (World.block_lt_of_cell? w _ hx225_1)).trans hx225_1
            replace hx225_2 := (HB.out.cell (World.block_lt_of_cell? w _ hx225_2)).trans hx225_2
            replace hx225_3 := (HB.out.cell (World.block_lt_of_cell? w _ hx225_3)).trans hx225_3
            replace hx225_4 := (HB.out.cell (World.block_lt_of_cell? w _ hx225_4)).trans hx225_4
            have HR225_4 := Aside0.mk hi225_4
            have HC225_4 := Aside0.mk hl225_4
            clear hi225_4 hl225_4
            replace p225 := eq_true p225
            replace q225 := eq_true q225
            have ea_ := Option.some.inj (hx223_4.symm.trans hx225_4)
            injection ea_ with ea_ en_ ec_
            subst ea_
            subst ec_
            clear en_
            go_wp2
            repeat (go_quiet (fail); try go_wp2)
            go_roundg k1
            case measure => have := HK1.out; omega
            case rel => exact ⟨(wrap64 ((wrap64 ((wrap64 (x3_1 + (ji5))) + (ji6))) + (ji7))), (wrap64 (x4_1 + 1)), (by first | rfl | (simp; done) | (simp only [← hji5, ← hji6, ← hji7] <;> (first | rfl | simp)) | (simp [*]; done)), (by first | rfl | (simp; done) | (simp [*]; done)), H', ⟨by have := HK1.out; omega⟩, ⟨by repeat (first | (with_reducible first | exact HB.out | apply below_alloc | apply pw_below_drewN | apply below_drew1) | exact HB.out)⟩⟩
          · rw [if_neg c4] at H
            exact absurd H (by simp)
        · rw [if_neg c3] at H
          have c3b0 : decide (x4_1 < 400) = false := decide_eq_false c3
          clear c3
          by_cases c8 : (l0.length : Int) ≤ 400
          · rw [if_pos c8] at H
            have c8b0 : decide ((l0.length : Int) ≤ 400) = true := decide_eq_true c8
            have c8b1 : decide (l0.length ≤ 400) = true := decide_eq_true (by omega)
            clear c8
            obtain rfl := Option.some.inj H
            go_wp2
            repeat (go_quiet (fail); try go_wp2)
            go_ret
            exact ⟨by first | rfl | (simp [errW_none, errW_some] <;> rfl) | (simp [*, errW_none, errW_some] <;> rfl), by repeat (first | (with_reducible first | exact HB.out | apply below_alloc | apply pw_below_drewN | apply below_drew1) | exact HB.out)⟩
          · rw [if_neg c8] at H
            have c8b0 : decide ((l0.length : Int) ≤ 400) = false := decide_eq_false c8
            have c8b1 : decide (l0.length ≤ 400) = false := decide_eq_false (by omega)
            clear c8
            obtain rfl := Option.some.inj H
            go_wp2
            repeat (go_quiet (fail); try go_wp2)
            go_ret
            exact ⟨by first | rfl | (simp [errW_none, errW_some] <;> rfl) | (simp [*, errW_none, errW_some] <;> rfl), by repeat (first | (with_reducible first | exact HB.out | apply below_alloc | apply pw_below_drewN | apply below_drew1) | exact HB.out)⟩
      · rw [if_neg c2] at H
        have c2b0 : decide (x4_1 < (l0.length : Int)) = false := decide_eq_false c2
        clear c2
        by_cases c9 : (l0.length : Int) ≤ 400
        · rw [if_pos c9] at H
          have c9b0 : decide ((l0.length : Int) ≤ 400) = true := decide_eq_true c9
          have c9b1 : decide (l0.length ≤ 400) = true := decide_eq_true (by omega)
          clear c9
          obtain rfl := Option.some.inj H
          go_wp2
          repeat (go_quiet (fail); try go_wp2)
          go_ret
          exact ⟨by first | rfl | (simp [errW_none, errW_some] <;> rfl) | (simp [*, errW_none, errW_some] <;> rfl), by repeat (first | (with_reducible first | exact HB.out | apply below_alloc | apply pw_below_drewN | apply below_drew1) | exact HB.out)⟩
        · rw [if_neg c9] at H
          have c9b0 : decide ((l0.length : Int) ≤ 400) = false := decide_eq_false c9
          have c9b1 : decide (l0.length ≤ 400) = false := decide_eq_false (by omega)
          clear c9
          obtain rfl := Option.some.inj H
          go_wp2
          repeat (go_quiet (fail); try go_wp2)
          go_ret
          exact ⟨by first | rfl | (simp [errW_none, errW_some] <;> rfl) | (simp [*, errW_none, errW_some] <;> rfl), by repeat (first | (with_reducible first | exact HB.out | apply below_alloc | apply pw_below_drewN | apply below_drew1) | exact HB.out)⟩

/-! ### synodref_SameFiles: function 25 -/
def synodref_SameFiles.l0 : Nat → List (S36) → List (S36) → Int → Option (Bool)
  | 0, _, _, _ => none
  | k + 1, x0, x1, x5 => if x5 < (x0.length : Int) then (if 0 ≤ x5 then (if x5 < (x1.length : Int) then ((synodref_SameBytes.f k ((rd_T36 x0 x5).f1) ((rd_T36 x1 x5).f1)).bind fun t228 => (if t228 = true then (if ((rd_T36 x0 x5).f0).toList = ((rd_T36 x1 x5).f0).toList then (if ((rd_T36 x0 x5).f2) = ((rd_T36 x1 x5).f2) then (synodref_SameFiles.l0 k x0 x1 (wrap64 (x5 + 1))) else (some false)) else (some false)) else (some false))) else (none)) else (none)) else (some true)
def synodref_SameFiles.f (k : Nat) (l0 : List (S36)) (l1 : List (S36)) : Option (Bool) := if (l0.length : Int) = (l1.length : Int) then (synodref_SameFiles.l0 k l0 l1 0) else (some false)
theorem synodref_SameFiles.mono_l : ∀ k, (∀ y0 y1 y2, LeO (synodref_SameFiles.l0 k y0 y1 y2) (synodref_SameFiles.l0 (k + 1) y0 y1 y2))
  | 0 => fun _ _ _ r h => by simp [synodref_SameFiles.l0] at h
  | k + 1 => by
    have ih0 := synodref_SameFiles.mono_l k
    · intro y0 y1 y2
      unfold synodref_SameFiles.l0
      repeat' first
      | (with_reducible exact ih0 _ _ _)
      | (with_reducible exact synodref_SameBytes.mono _ _ _)
      | (with_reducible exact LeO.refl _)
      | (with_reducible exact LeO.none _)
      | (with_reducible refine LeO.ite ?_ ?_)
      | (with_reducible refine LeO.bind ?_ (fun _ => ?_))
      | exact ih0 _ _ _
      | exact synodref_SameBytes.mono _ _ _
      | exact LeO.none _
      | refine LeO.ite ?_ ?_
      | refine LeO.bind ?_ (fun _ => ?_)
theorem synodref_SameFiles.mono : ∀ a0 a1 k, LeO (synodref_SameFiles.f k a0 a1) (synodref_SameFiles.f (k + 1) a0 a1) := by
  intro a0 a1 k
  have ih0 := synodref_SameFiles.mono_l k
  unfold synodref_SameFiles.f
  repeat' first
      | (with_reducible exact ih0 _ _ _)
      | (with_reducible exact synodref_SameBytes.mono _ _ _)
      | (with_reducible exact LeO.refl _)
      | (with_reducible exact LeO.none _)
      | (with_reducible refine LeO.ite ?_ ?_)
      | (with_reducible refine LeO.bind ?_ (fun _ => ?_))
      | exact ih0 _ _ _
      | exact synodref_SameBytes.mono _ _ _
      | exact LeO.none _
      | refine LeO.ite ?_ ?_
      | refine LeO.bind ?_ (fun _ => ?_)
set_option maxHeartbeats 8000000 in
set_option maxRecDepth 100000 in
theorem synodref_SameFiles.calls (k : Nat) (A0 : Option Addr) (c0 : Nat) (l0 : List (S36)) (A1 : Option Addr) (c1 : Nat) (l1 : List (S36)) (r : Bool) (w : World) (hr0 : Kd.C k36 w A0 l0.length l0) (hc0 : l0.length ≤ c0) (hr1 : Kd.C k36 w A1 l1.length l1) (hc1 : l1.length ≤ c1) (h : synodref_SameFiles.f k l0 l1 = some r) :
    Calls Try.prog 25 #[.slice A0 l0.length c0, .slice A1 l1.length c1] w fun e w' => e = .returned (.bool r) ∧ Drawn0 w w' := by
  have HR0 := Aside0.mk hr0
  have HC0 := Aside0.mk hc0
  clear hr0 hc0
  have HR1 := Aside0.mk hr1
  have HC1 := Aside0.mk hc1
  clear hr1 hc1
  have H : (if (l0.length : Int) = (l1.length : Int) then (synodref_SameFiles.l0 k l0 l1 0) else (some false)) = some r := h
  clear h
  by_cases c3 : (l0.length : Int) = (l1.length : Int)
  · rw [if_pos c3] at H
    have c3b0 : ((l0.length : Int) == (l1.length : Int)) = true := beq_iff_eq.mpr c3
    have c3b1 : ((l0.length : Int) != (l1.length : Int)) = false := bne_eq_false_iff_eq.mpr c3
    have c3b2 : (l0.length == l1.length) = true := by first | simpa using c3 | (simp at c3 ⊢; omega)
    clear c3
    have H' := Aside0.mk H
    clear H
    go_enter Try.func25, Try.ntmps25
    go_wp2
    repeat (go_quiet (fail); try go_wp2)
    go_loopg [5] k (fun kq v5 w' => ∃ (x5_1 : Int), v5 = .int .i64 x5_1 ∧ Aside0 (synodref_SameFiles.l0 kq l0 l1 x5_1 = some r) ∧ Aside0 (kq ≤ k) ∧ Drawn0 w w')
    case atStart => exact ⟨(0), (by first | rfl | (simp; done) | (simp [*]; done)), H', ⟨Nat.le_refl _⟩, by repeat (first | exact Drawn0.refl _ | apply Drawn0.step)⟩
    case round =>
      clear H'
      try clear c1
      try clear c2
      try clear p2
      try clear c3
      try clear c3b0
      try clear c3b1
      try clear c3b2
      obtain ⟨x5_1, rfl, HA, HK1, ⟨m1, rfl⟩⟩ := hrel
      cases gk with
      | zero => exact absurd HA.out (by simp [synodref_SameFiles.l0])
      | succ k1 =>
        have H := HA.out
        clear HA
        simp only [synodref_SameFiles.l0] at H
        by_cases c4 : x5_1 < (l0.length : Int)
        · rw [if_pos c4] at H
          have c4b0 : decide (x5_1 < (l0.length : Int)) = true := decide_eq_true c4
          clear c4
          by_cases c5 : 0 ≤ x5_1
          · rw [if_pos c5] at H
            have c5b0 : decide (0 ≤ x5_1) = true := decide_eq_true c5
            clear c5
            by_cases c6 : x5_1 < (l1.length : Int)
            · rw [if_pos c6] at H
              have c6b0 : decide (x5_1 < (l1.length : Int)) = true := decide_eq_true c6
              clear c6
              replace H := Option.bind_eq_some_iff.mp H
              obtain ⟨t228, A70, H⟩ := H
              replace H : (if t228 = true then (if ((rd_T36 l0 x5_1).f0).toList = ((rd_T36 l1 x5_1).f0).toList then (if ((rd_T36 l0 x5_1).f2) = ((rd_T36 l1 x5_1).f2) then (synodref_SameFiles.l0 k1 l0 l1 (wrap64 (x5_1 + 1))) else (some false)) else (some false)) else (some false)) = some r := H
              have A7 := Aside0.mk A70
              clear A70
              by_cases c8 : t228 = true
              · subst c8
                have H1 : (if ((rd_T36 l0 x5_1).f0).toList = ((rd_T36 l1 x5_1).f0).toList then (if ((rd_T36 l0 x5_1).f2) = ((rd_T36 l1 x5_1).f2) then (synodref_SameFiles.l0 k1 l0 l1 (wrap64 (x5_1 + 1))) else (some false)) else (some false)) = some r := by rw [if_pos rfl] at H; exact H
                clear H
                have H := H1
                clear H1
                by_cases c9 : ((rd_T36 l0 x5_1).f0).toList = ((rd_T36 l1 x5_1).f0).toList
                · rw [if_pos c9] at H
                  have c9b0 : (((rd_T36 l0 x5_1).f0).toList == ((rd_T36 l1 x5_1).f0).toList) = true := beq_iff_eq.mpr c9
                  have c9b1 : (((rd_T36 l0 x5_1).f0).toList != ((rd_T36 l1 x5_1).f0).toList) = false := bne_eq_false_iff_eq.mpr c9
                  clear c9
                  by_cases c10 : ((rd_T36 l0 x5_1).f2) = ((rd_T36 l1 x5_1).f2)
                  · rw [if_pos c10] at H
                    have c10b0 : (((rd_T36 l0 x5_1).f2) == ((rd_T36 l1 x5_1).f2)) = true := beq_iff_eq.mpr c10
                    have c10b1 : (((rd_T36 l0 x5_1).f2) != ((rd_T36 l1 x5_1).f2)) = false := bne_eq_false_iff_eq.mpr c10
                    clear c10
                    have H' := Aside0.mk H
                    clear H
                    have p226 : 0 ≤ (x5_1 : Int) := of_decide_eq_true (by first | (with_reducible assumption) | assumption)
                    have q226 : x5_1 < (l0.length : Int) := of_decide_eq_true (by first | (with_reducible assumption) | assumption)
                    obtain ⟨ad226, A226_1, c226_1, e226, hx226_0, hx226_1, hx226_2, hl226_1, hi226_1⟩ := at_T36 HR0.out x5_1 p226 q226
                    cases e226
                    have HR226_1 := Aside0.mk hi226_1
                    have HC226_1 := Aside0.mk hl226_1
                    clear hi226_1 hl226_1
                    replace p226 := eq_true p226
                    replace q226 := eq_true q226
                    have p227 : 0 ≤ (x5_1 : Int) := of_decide_eq_true (by first | (with_reducible assumption) | assumption)
                    have q227 : x5_1 < (l1.length : Int) := of_decide_eq_true (by first | (with_reducible assumption) | assumption)
                    obtain ⟨ad227, A227_1, c227_1, e227, hx227_0, hx227_1, hx227_2, hl227_1, hi227_1⟩ := at_T36 HR1.out x5_1 p227 q227
                    cases e227
                    have HR227_1 := Aside0.mk hi227_1
                    have HC227_1 := Aside0.mk hl227_1
                    clear hi227_1 hl227_1
                    replace p227 := eq_true p227
                    replace q227 := eq_true q227
                    go_wp2_with (first | (go_at_call 24; (with_reducible refine (synodref_SameBytes.calls k1 _ _ ((rd_T36 l0 x5_1).f1) _ _ ((rd_T36 l1 x5_1).f1) true _ ?side1 ?side2 ?side3 ?side4 A7.out).mono ?_); (case side1 => repeat (first | exact HR226_1.out | (with_reducible refine Kd.C_alloc ?_ _) | (with_reducible refine Kd.C_drewN ?_ _) | (with_reducible refine Kd.C_drew ?_))); (case side2 => exact HC226_1.out); (case side3 => repeat (first | exact HR227_1.out | (with_reducible refine Kd.C_alloc ?_ _) | (with_reducible refine Kd.C_drewN ?_ _) | (with_reducible refine Kd.C_drew ?_))); (case side4 => exact HC227_1.out); rintro e w' ⟨rfl, ⟨nd, rfl⟩⟩; (try first | exact ⟨rfl, _, World.drewN_drewN _ _ _⟩ | exact ⟨rfl, _, Eq.trans (World.drewN_drewN _ _ _) (congrArg (World.drewN _) (Nat.add_assoc _ _ _))⟩); have p229 : 0 ≤ (x5_1 : Int) := of_decide_eq_true (by first | (with_reducible assumption) | assumption); have q229 : x5_1 < (l0.length : Int) := of_decide_eq_true (by first | (with_reducible assumption) | assumption); obtain ⟨ad229, A229_1, c229_1, e229, hx229_0, hx229_1, hx229_2, hl229_1, hi229_1⟩ := at_T36 HR0.out x5_1 p229 q229; obtain rfl : ad226 = ad229 := (by injection e229); have HR229_1 := Aside0.mk hi229_1; have HC229_1 := Aside0.mk hl229_1; clear hi229_1 hl229_1; replace p229 := eq_true p229; replace q229 := eq_true q229; have ea_ := Option.some.inj (hx226_1.symm.trans hx229_1); injection ea_ with ea_ en_ ec_; subst ea_; subst ec_; clear en_; have p230 : 0 ≤ (x5_1 : Int) := of_decide_eq_true (by first | (with_reducible assumption) | assumption); have q230 : x5_1 < (l1.length : Int) := of_decide_eq_true (by first | (with_reducible assumption) | assumption); obtain ⟨ad230, A230_1, c230_1, e230, hx230_0, hx230_1, hx230_2, hl230_1, hi230_1⟩ := at_T36 HR1.out x5_1 p230 q230; obtain rfl : ad227 = ad230 := (by injection e230); have HR230_1 := Aside0.mk hi230_1; have HC230_1 := Aside0.mk hl230_1; clear hi230_1 hl230_1; replace p230 := eq_true p230; replace q230 := eq_true q230; have ea_ := Option.some.inj (hx227_1.symm.trans hx230_1); injection ea_ with ea_ en_ ec_; subst ea_; subst ec_; clear en_; have p231 : 0 ≤ (x5_1 : Int) := of_decide_eq_true (by first | (with_reducible assumption) | assumption); have q231 : x5_1 < (l0.length : Int) := of_decide_eq_true (by first | (with_reducible assumption) | assumption); obtain ⟨ad231, A231_1, c231_1, e231, hx231_0, hx231_1, hx231_2, hl231_1, hi231_1⟩ := at_T36 HR0.out x5_1 p231 q231; obtain rfl : ad226 = ad231 := (by injection e231); have HR231_1 := Aside0.mk hi231_1; have HC231_1 := Aside0.mk hl231_1; clear hi231_1 hl231_1; replace p231 := eq_true p231; replace q231 := eq_true q231; have ea_ := Option.some.inj (hx226_1.symm.trans hx231_1); injection ea_ with ea_ en_ ec_; subst ea_; subst ec_; clear en_; have p232 : 0 ≤ (x5_1 : Int) := of_decide_eq_true (by first | (with_reducible assumption) | assumption); have q232 : x5_1 < (l1.length : Int) := of_decide_eq_true (by first | (with_reducible assumption) | assumption); obtain ⟨ad232, A232_1, c232_1, e232, hx232_0, hx232_1, hx232_2, hl232_1, hi232_1⟩ := at_T36 HR1.out x5_1 p232 q232; obtain rfl : ad227 = ad232 := (by injection e232); have HR232_1 := Aside0.mk hi232_1; have HC232_1 := Aside0.mk hl232_1; clear hi232_1 hl232_1; replace p232 := eq_true p232; replace q232 := eq_true q232; have ea_ := Option.some.inj (hx227_1.symm.trans hx232_1); injection ea_ with ea_ en_ ec_; subst ea_; subst ec_; clear en_))
                    repeat (go_quiet (first | (go_at_call 24; (with_reducible refine (synodref_SameBytes.calls k1 _ _ ((rd_T36 l0 x5_1).f1) _ _ ((rd_T36 l1 x5_1).f1) true _ ?side1 ?side2 ?side3 ?side4 A7.out).mono ?_); (case side1 => repeat (first | exact HR226_1.out | (with_reducible refine Kd.C_alloc ?_ _) | (with_reducible refine Kd.C_drewN ?_ _) | (with_reducible refine Kd.C_drew ?_))); (case side2 => exact HC226_1.out); (case side3 => repeat (first | exact HR227_1.out | (with_reducible refine Kd.C_alloc ?_ _) | (with_reducible refine Kd.C_drewN ?_ _) | (with_reducible refine Kd.C_drew ?_))); (case side4 => exact HC227_1.out); rintro e w' ⟨rfl, ⟨nd, rfl⟩⟩; (try first | exact ⟨rfl, _, World.drewN_drewN _ _ _⟩ | exact ⟨rfl, _, Eq.trans (World.drewN_drewN _ _ _) (congrArg (World.drewN _) (Nat.add_assoc _ _ _))⟩); have p229 : 0 ≤ (x5_1 : Int) := of_decide_eq_true (by first | (with_reducible assumption) | assumption); have q229 : x5_1 < (l0.length : Int) := of_decide_eq_true (by first | (with_reducible assumption) | assumption); obtain ⟨ad229, A229_1, c229_1, e229, hx229_0, hx229_1, hx229_2, hl229_1, hi229_1⟩ := at_T36 HR0.out x5_1 p229 q229; obtain rfl : ad226 = ad229 := (by injection e229); have HR229_1 := Aside0.mk hi229_1; have HC229_1 := Aside0.mk hl229_1; clear hi229_1 hl229_1; replace p229 := eq_true p229; replace q229 := eq_true q229; have ea_ := Option.some.inj (hx226_1.symm.trans hx229_1); injection ea_ with ea_ en_ ec_; subst ea_; subst ec_; clear en_; have p230 : 0 ≤ (x5_1 : Int) := of_decide_eq_true (by first | (with_reducible assumption) | assumption); have q230 : x5_1 < (l1.length : Int) := of_decide_eq_true (by first | (with_reducible assumption) | assumption); obtain ⟨ad230, A230_1, c230_1, e230, hx230_0, hx230_1, hx230_2, hl230_1, hi230_1⟩ := at_T36 HR1.out x5_1 p230 q230; obtain rfl : ad227 = ad230 := (by injection e230); have HR230_1 := Aside0.mk hi230_1; have HC230_1 := Aside0.mk hl230_1; clear hi230_1 hl230_1; replace p230 := eq_true p230; replace q230 := eq_true q230; have ea_ := Option.some.inj (hx227_1.symm.trans hx230_1); injection ea_ with ea_ en_ ec_; subst ea_; subst ec_; clear en_; have p231 : 0 ≤ (x5_1 : Int) := of_decide_eq_true (by first | (with_reducible assumption) | assumption); have q231 : x5_1 < (l0.length : Int) := of_decide_eq_true (by first | (with_reducible assumption) | assumption); obtain ⟨ad231, A231_1, c231_1, e231, hx231_0, hx231_1, hx231_2, hl231_1, hi231_1⟩ := at_T36 HR0.out x5_1 p231 q231; obtain rfl : ad226 = ad231 := (by injection e231); have HR231_1 := Aside0.mk hi231_1; have HC231_1 := Aside0.mk hl231_1; clear hi231_1 hl231_1; replace p231 := eq_true p231; replace q231 := eq_true q231; have ea_ := Option.some.inj (hx226_1.symm.trans hx231_1); injection ea_ with ea_ en_ ec_; subst ea_; subst ec_; clear en_; have p232 : 0 ≤ (x5_1 : Int) := of_decide_eq_true (by first | (with_reducible assumption) | assumption); have q232 : x5_1 < (l1.length : Int) := of_decide_eq_true (by first | (with_reducible assumption) | assumption); obtain ⟨ad232, A232_1, c232_1, e232, hx232_0, hx232_1, hx232_2, hl232_1, hi232_1⟩ := at_T36 HR1.out x5_1 p232 q232; obtain rfl : ad227 = ad232 := (by injection e232); have HR232_1 := Aside0.mk hi232_1; have HC232_1 := Aside0.mk hl232_1; clear hi232_1 hl232_1; replace p232 := eq_true p232; replace q232 := eq_true q232; have ea_ := Option.some.inj (hx227_1.symm.trans hx232_1); injection ea_ with ea_ en_ ec_; subst ea_; subst ec_; clear en_)); try go_wp2_with (first | (go_at_call 24; (with_reducible refine (synodref_SameBytes.calls k1 _ _ ((rd_T36 l0 x5_1).f1) _ _ ((rd_T36 l1 x5_1).f1) true _ ?side1 ?side2 ?side3 ?side4 A7.out).mono ?_); (case side1 => repeat (first | exact HR226_1.out | (with_reducible refine Kd.C_alloc ?_ _) | (with_reducible refine Kd.C_drewN ?_ _) | (with_reducible refine Kd.C_drew ?_))); (case side2 => exact HC226_1.out); (case side3 => repeat (first | exact HR227_1.out | (with_reducible refine Kd.C_alloc ?_ _) | (with_reducible refine Kd.C_drewN ?_ _) | (with_reducible refine Kd.C_drew ?_))); (case side4 => exact HC227_1.out); rintro e w' ⟨rfl, ⟨nd, rfl⟩⟩; (try first | exact ⟨rfl, _, World.drewN_drewN _ _ _⟩ | exact ⟨rfl, _, Eq.trans (World.drewN_drewN _ _ _) (congrArg (World.drewN _) (Nat.add_assoc _ _ _))⟩); have p229 : 0 ≤ (x5_1 : Int) := of_decide_eq_true (by first | (with_reducible assumption) | assumption); have q229 : x5_1 < (l0.length : Int) := of_decide_eq_true (by first | (with_reducible assumption) | assumption); obtain ⟨ad229, A229_1, c229_1, e229, hx229_0, hx229_1, hx229_2, hl229_1, hi229_1⟩ := at_T36 HR0.out x5_1 p229 q229; obtain rfl : ad226 = ad229 := (by injection e229); have HR229_1 := Aside0.mk hi229_1; have HC229_1 := Aside0.mk hl229_1; clear hi229_1 hl229_1; replace p229 := eq_true p229; replace q229 := eq_true q229; have ea_ := Option.some.inj (hx226_1.symm.trans hx229_1); injection ea_ with ea_ en_ ec_; subst ea_; subst ec_; clear en_; have p230 : 0 ≤ (x5_1 : Int) := of_decide_eq_true (by first | (with_reducible assumption) | assumption); have q230 : x5_1 < (l1.length : Int) := of_decide_eq_true (by first | (with_reducible assumption) | assumption); obtain ⟨ad230, A230_1, c230_1, e230, hx230_0, hx230_1, hx230_2, hl230_1, hi230_1⟩ := at_T36 HR1.out x5_1 p230 q230; obtain rfl : ad227 = ad230 := (by injection e230); have HR230_1 := Aside0.mk hi230_1; have HC230_1 := Aside0.mk hl230_1; clear hi230_1 hl230_1; replace p230 := eq_true p230; replace q230 := eq_true q230; have ea_ := Option.some.inj (hx227_1.symm.trans hx230_1); injection ea_ with ea_ en_ ec_; subst ea_; subst ec_; clear en_; have p231 : 0 ≤ (x5_1 : Int) := of_decide_eq_true (by first | (with_reducible assumption) | assumption); have q231 : x5_1 < (l0.length : Int) := of_decide_eq_true (by first | (with_reducible assumption) | assumption); obtain ⟨ad231, A231_1, c231_1, e231, hx231_0, hx231_1, hx231_2, hl231_1, hi231_1⟩ := at_T36 HR0.out x5_1 p231 q231; obtain rfl : ad226 = ad231 := (by injection e231); have HR231_1 := Aside0.mk hi231_1; have HC231_1 := Aside0.mk hl231_1; clear hi231_1 hl231_1; replace p231 := eq_true p231; replace q231 := eq_true q231; have ea_ := Option.some.inj (hx226_1.symm.trans hx231_1); injection ea_ with ea_ en_ ec_; subst ea_; subst ec_; clear en_; have p232 : 0 ≤ (x5_1 : Int) := of_decide_eq_true (by first | (with_reducible assumption) | assumption); have q232 : x5_1 < (l1.length : Int) := of_decide_eq_true (by first | (with_reducible assumption) | assumption); obtain ⟨ad232, A232_1, c232_1, e232, hx232_0, hx232_1, hx232_2, hl232_1, hi232_1⟩ := at_T36 HR1.out x5_1 p232 q232; obtain rfl : ad227 = ad232 := (by injection e232); have HR232_1 := Aside0.mk hi232_1; have HC232_1 := Aside0.mk hl232_1; clear hi232_1 hl232_1; replace p232 := eq_true p232; replace q232 := eq_true q232; have ea_ := Option.some.inj (hx227_1.symm.trans hx232_1); injection ea_ with ea_ en_ ec_; subst ea_; subst ec_; clear en_)))
                    go_roundg k1
                    case measure => have := HK1.out; omega
                    case rel => exact ⟨(wrap64 (x5_1 + 1)), (by first | rfl | (simp; done) | (simp [*]; done)), H', ⟨by have := HK1.out; omega⟩, by repeat (first | exact Drawn0.refl _ | apply Drawn0.step)⟩
                  · rw [if_neg c10] at H
                    have c10b0 : (((rd_T36 l0 x5_1).f2) == ((rd_T36 l1 x5_1).f2)) = false := beq_eq_false_iff_ne.mpr c10
                    have c10b1 : (((rd_T36 l0 x5_1).f2) != ((rd_T36 l1 x5_1).f2)) = true := bne_iff_ne.mpr c10
                    obtain rfl := Option.some.inj H
                    have p226 : 0 ≤ (x5_1 : Int) := of_decide_eq_true (by first | (with_reducible assumption) | assumption)
                    have q226 : x5_1 < (l0.length : Int) := of_decide_eq_true (by first | (with_reducible assumption) | assumption)
                    obtain ⟨ad226, A226_1, c226_1, e226, hx226_0, hx226_1, hx226_2, hl226_1, hi226_1⟩ := at_T36 HR0.out x5_1 p226 q226
                    cases e226
                    have HR226_1 := Aside0.mk hi226_1
                    have HC226_1 := Aside0.mk hl226_1
                    clear hi226_1 hl226_1
                    replace p226 := eq_true p226
                    replace q226 := eq_true q226
                    have p227 : 0 ≤ (x5_1 : Int) := of_decide_eq_true (by first | (with_reducible assumption) | assumption)
                    have q227 : x5_1 < (l1.length : Int) := of_decide_eq_true (by first | (with_reducible assumption) | assumption)
                    obtain ⟨ad227, A227_1, c227_1, e227, hx227_0, hx227_1, hx227_2, hl227_1, hi227_1⟩ := at_T36 HR1.out x5_1 p227 q227
                    cases e227
                    have HR227_1 := Aside0.mk hi227_1
                    have HC227_1 := Aside0.mk hl227_1
                    clear hi227_1 hl227_1
                    replace p227 := eq_true p227
                    replace q227 := eq_true q227
                    go_wp2_with (first | (go_at_call 24; (with_reducible refine (synodref_SameBytes.calls k1 _ _ ((rd_T36 l0 x5_1).f1) _ _ ((rd_T36 l1 x5_1).f1) true _ ?side1 ?side2 ?side3 ?side4 A7.out).mono ?_); (case side1 => repeat (first | exact HR226_1.out | (with_reducible refine Kd.C_alloc ?_ _) | (with_reducible refine Kd.C_drewN ?_ _) | (with_reducible refine Kd.C_drew ?_))); (case side2 => exact HC226_1.out); (case side3 => repeat (first | exact HR227_1.out | (with_reducible refine Kd.C_alloc ?_ _) | (with_reducible refine Kd.C_drewN ?_ _) | (with_reducible refine Kd.C_drew ?_))); (case side4 => exact HC227_1.out); rintro e w' ⟨rfl, ⟨nd, rfl⟩⟩; (try first | exact ⟨rfl, _, World.drewN_drewN _ _ _⟩ | exact ⟨rfl, _, Eq.trans (World.drewN_drewN _ _ _) (congrArg (World.drewN _) (Nat.add_assoc _ _ _))⟩); have p229 : 0 ≤ (x5_1 : Int) := of_decide_eq_true (by first | (with_reducible assumption) | assumption); have q229 : x5_1 < (l0.length : Int) := of_decide_eq_true (by first | (with_reducible assumption) | assumption); obtain ⟨ad229, A229_1, c229_1, e229, hx229_0, hx229_1, hx229_2, hl229_1, hi229_1⟩ := at_T36 HR0.out x5_1 p229 q229; obtain rfl : ad226 = ad229 := (by injection e229); have HR229_1 := Aside0.mk hi229_1; have HC229_1 := Aside0.mk hl229_1; clear hi229_1 hl229_1; replace p229 := eq_true p229; replace q229 := eq_true q229; have ea_ := Option.some.inj (hx226_1.symm.trans hx229_1); injection ea_ with ea_ en_ ec_; subst ea_; subst ec_; clear en_; have p230 : 0 ≤ (x5_1 : Int) := of_decide_eq_true (by first | (with_reducible assumption) | assumption); have q230 : x5_1 < (l1.length : Int) := of_decide_eq_true (by first | (with_reducible assumption) | assumption); obtain ⟨ad230, A230_1, c230_1, e230, hx230_0, hx230_1, hx230_2, hl230_1, hi230_1⟩ := at_T36 HR1.out x5_1 p230 q230; obtain rfl : ad227 = ad230 := (by injection e230); have HR230_1 := Aside0.mk hi230_1; have HC230_1 := Aside0.mk hl230_1; clear hi230_1 hl230_1; replace p230 := eq_true p230; replace q230 := eq_true q230; have ea_ := Option.some.inj (hx227_1.symm.trans hx230_1); injection ea_ with ea_ en_ ec_; subst ea_; subst ec_; clear en_; have p231 : 0 ≤ (x5_1 : Int) := of_decide_eq_true (by first | (with_reducible assumption) | assumption); have q231 : x5_1 < (l0.length : Int) := of_decide_eq_true (by first | (with_reducible assumption) | assumption); obtain ⟨ad231, A231_1, c231_1, e231, hx231_0, hx231_1, hx231_2, hl231_1, hi231_1⟩ := at_T36 HR0.out x5_1 p231 q231; obtain rfl : ad226 = ad231 := (by injection e231); have HR231_1 := Aside0.mk hi231_1; have HC231_1 := Aside0.mk hl231_1; clear hi231_1 hl231_1; replace p231 := eq_true p231; replace q231 := eq_true q231; have ea_ := Option.some.inj (hx226_1.symm.trans hx231_1); injection ea_ with ea_ en_ ec_; subst ea_; subst ec_; clear en_; have p232 : 0 ≤ (x5_1 : Int) := of_decide_eq_true (by first | (with_reducible assumption) | assumption); have q232 : x5_1 < (l1.length : Int) := of_decide_eq_true (by first | (with_reducible assumption) | assumption); obtain ⟨ad232, A232_1, c232_1, e232, hx232_0, hx232_1, hx232_2, hl232_1, hi232_1⟩ := at_T36 HR1.out x5_1 p232 q232; obtain rfl : ad227 = ad232 := (by injection e232); have HR232_1 := Aside0.mk hi232_1; have HC232_1 := Aside0.mk hl232_1; clear hi232_1 hl232_1; replace p232 := eq_true p232; replace q232 := eq_true q232; have ea_ := Option.some.inj (hx227_1.symm.trans hx232_1); injection ea_ with ea_ en_ ec_; subst ea_; subst ec_; clear en_))
                    repeat (go_quiet (first | (go_at_call 24; (with_reducible refine (synodref_SameBytes.calls k1 _ _ ((rd_T36 l0 x5_1).f1) _ _ ((rd_T36 l1 x5_1).f1) true _ ?side1 ?side2 ?side3 ?side4 A7.out).mono ?_); (case side1 => repeat (first | exact HR226_1.out | (with_reducible refine Kd.C_alloc ?_ _) | (with_reducible refine Kd.C_drewN ?_ _) | (with_reducible refine Kd.C_drew ?_))); (case side2 => exact HC226_1.out); (case side3 => repeat (first | exact HR227_1.out | (with_reducible refine Kd.C_alloc ?_ _) | (with_reducible refine Kd.C_drewN ?_ _) | (with_reducible refine Kd.C_drew ?_))); (case side4 => exact HC227_1.out); rintro e w' ⟨rfl, ⟨nd, rfl⟩⟩; (try first | exact ⟨rfl, _, World.drewN_drewN _ _ _⟩ | exact ⟨rfl, _, Eq.trans (World.drewN_drewN _ _ _) (congrArg (World.drewN _) (Nat.add_assoc _ _ _))⟩); have p229 : 0 ≤ (x5_1 : Int) := of_decide_eq_true (by first | (with_reducible assumption) | assumption); have q229 : x5_1 < (l0.length : Int) := of_decide_eq_true (by first | (with_reducible assumption) | assumption); obtain ⟨ad229, A229_1, c229_1, e229, hx229_0, hx229_1, hx229_2, hl229_1, hi229_1⟩ := at_T36 HR0.out x5_1 p229 q229; obtain rfl : ad226 = ad229 := (by injection e229); have HR229_1 := Aside0.mk hi229_1; have HC229_1 := Aside0.mk hl229_1; clear hi229_1 hl229_1; replace p229 := eq_true p229; replace q229 := eq_true q229; have ea_ := Option.some.inj (hx226_1.symm.trans hx229_1); injection ea_ with ea_ en_ ec_; subst ea_; subst ec_; clear en_; have p230 : 0 ≤ (x5_1 : Int) := of_decide_eq_true (by first | (with_reducible assumption) | assumption); have q230 : x5_1 < (l1.length : Int) := of_decide_eq_true (by first | (with_reducible assumption) | assumption); obtain ⟨ad230, A230_1, c230_1, e230, hx230_0, hx230_1, hx230_2, hl230_1, hi230_1⟩ := at_T36 HR1.out x5_1 p230 q230; obtain rfl : ad227 = ad230 := (by injection e230); have HR230_1 := Aside0.mk hi230_1; have HC230_1 := Aside0.mk hl230_1; clear hi230_1 hl230_1; replace p230 := eq_true p230; replace q230 := eq_true q230; have ea_ := Option.some.inj (hx227_1.symm.trans hx230_1); injection ea_ with ea_ en_ ec_; subst ea_; subst ec_; clear en_; have p231 : 0 ≤ (x5_1 : Int) := of_decide_eq_true (by first | (with_reducible assumption) | assumption); have q231 : x5_1 < (l0.length : Int) := of_decide_eq_true (by first | (with_reducible assumption) | assumption); obtain ⟨ad231, A231_1, c231_1, e231, hx231_0, hx231_1, hx231_2, hl231_1, hi231_1⟩ := at_T36 HR0.out x5_1 p231 q231; obtain rfl : ad226 = ad231 := (by injection e231); have HR231_1 := Aside0.mk hi231_1; have HC231_1 := Aside0.mk hl231_1; clear hi231_1 hl231_1; replace p231 := eq_true p231; replace q231 := eq_true q231; have ea_ := Option.some.inj (hx226_1.symm.trans hx231_1); injection ea_ with ea_ en_ ec_; subst ea_; subst ec_; clear en_; have p232 : 0 ≤ (x5_1 : Int) := of_decide_eq_true (by first | (with_reducible assumption) | assumption); have q232 : x5_1 < (l1.length : Int) := of_decide_eq_true (by first | (with_reducible assumption) | assumption); obtain ⟨ad232, A232_1, c232_1, e232, hx232_0, hx232_1, hx232_2, hl232_1, hi232_1⟩ := at_T36 HR1.out x5_1 p232 q232; obtain rfl : ad227 = ad232 := (by injection e232); have HR232_1 := Aside0.mk hi232_1; have HC232_1 := Aside0.mk hl232_1; clear hi232_1 hl232_1; replace p232 := eq_true p232; replace q232 := eq_true q232; have ea_ := Option.some.inj (hx227_1.symm.trans hx232_1); injection ea_ with ea_ en_ ec_; subst ea_; subst ec_; clear en_)); try go_wp2_with (first | (go_at_call 24; (with_reducible refine (synodref_SameBytes.calls k1 _ _ ((rd_T36 l0 x5_1).f1) _ _ ((rd_T36 l1 x5_1).f1) true _ ?side1 ?side2 ?side3 ?side4 A7.out).mono ?_); (case side1 => repeat (first | exact HR226_1.out | (with_reducible refine Kd.C_alloc ?_ _) | (with_reducible refine Kd.C_drewN ?_ _) | (with_reducible refine Kd.C_drew ?_))); (case side2 => exact HC226_1.out); (case side3 => repeat (first | exact HR227_1.out | (with_reducible refine Kd.C_alloc ?_ _) | (with_reducible refine Kd.C_drewN ?_ _) | (with_reducible refine Kd.C_drew ?_))); (case side4 => exact HC227_1.out); rintro e w' ⟨rfl, ⟨nd, rfl⟩⟩; (try first | exact ⟨rfl, _, World.drewN_drewN _ _ _⟩ | exact ⟨rfl, _, Eq.trans (World.drewN_drewN _ _ _) (congrArg (World.drewN _) (Nat.add_assoc _ _ _))⟩); have p229 : 0 ≤ (x5_1 : Int) := of_decide_eq_true (by first | (with_reducible assumption) | assumption); have q229 : x5_1 < (l0.length : Int) := of_decide_eq_true (by first | (with_reducible assumption) | assumption); obtain ⟨ad229, A229_1, c229_1, e229, hx229_0, hx229_1, hx229_2, hl229_1, hi229_1⟩ := at_T36 HR0.out x5_1 p229 q229; obtain rfl : ad226 = ad229 := (by injection e229); have HR229_1 := Aside0.mk hi229_1; have HC229_1 := Aside0.mk hl229_1; clear hi229_1 hl229_1; replace p229 := eq_true p229; replace q229 := eq_true q229; have ea_ := Option.some.inj (hx226_1.symm.trans hx229_1); injection ea_ with ea_ en_ ec_; subst ea_; subst ec_; clear en_; have p230 : 0 ≤ (x5_1 : Int) := of_decide_eq_true (by first | (with_reducible assumption) | assumption); have q230 : x5_1 < (l1.length : Int) := of_decide_eq_true (by first | (with_reducible assumption) | assumption); obtain ⟨ad230, A230_1, c230_1, e230, hx230_0, hx230_1, hx230_2, hl230_1, hi230_1⟩ := at_T36 HR1.out x5_1 p230 q230; obtain rfl : ad227 = ad230 := (by injection e230); have HR230_1 := Aside0.mk hi230_1; have HC230_1 := Aside0.mk hl230_1; clear hi230_1 hl230_1; replace p230 := eq_true p230; replace q230 := eq_true q230; have ea_ := Option.some.inj (hx227_1.symm.trans hx230_1); injection ea_ with ea_ en_ ec_; subst ea_; subst ec_; clear en_; have p231 : 0 ≤ (x5_1 : Int) := of_decide_eq_true (by first | (with_reducible assumption) | assumption); have q231 : x5_1 < (l0.length : Int) := of_decide_eq_true (by first | (with_reducible assumption) | assumption); obtain ⟨ad231, A231_1, c231_1, e231, hx231_0, hx231_1, hx231_2, hl231_1, hi231_1⟩ := at_T36 HR0.out x5_1 p231 q231; obtain rfl : ad226 = ad231 := (by injection e231); have HR231_1 := Aside0.mk hi231_1; have HC231_1 := Aside0.mk hl231_1; clear hi231_1 hl231_1; replace p231 := eq_true p231; replace q231 := eq_true q231; have ea_ := Option.some.inj (hx226_1.symm.trans hx231_1); injection ea_ with ea_ en_ ec_; subst ea_; subst ec_; clear en_; have p232 : 0 ≤ (x5_1 : Int) := of_decide_eq_true (by first | (with_reducible assumption) | assumption); have q232 : x5_1 < (l1.length : Int) := of_decide_eq_true (by first | (with_reducible assumption) | assumption); obtain ⟨ad232, A232_1, c232_1, e232, hx232_0, hx232_1, hx232_2, hl232_1, hi232_1⟩ := at_T36 HR1.out x5_1 p232 q232; obtain rfl : ad227 = ad232 := (by injection e232); have HR232_1 := Aside0.mk hi232_1; have HC232_1 := Aside0.mk hl232_1; clear hi232_1 hl232_1; replace p232 := eq_true p232; replace q232 := eq_true q232; have ea_ := Option.some.inj (hx227_1.symm.trans hx232_1); injection ea_ with ea_ en_ ec_; subst ea_; subst ec_; clear en_)))
                    go_ret
                    exact ⟨by first | rfl | (simp; done) | (simp [*]; done), by repeat (first | exact Drawn0.refl _ | apply Drawn0.step)⟩
                · rw [if_neg c9] at H
                  have c9b0 : (((rd_T36 l0 x5_1).f0).toList == ((rd_T36 l1 x5_1).f0).toList) = false := beq_eq_false_iff_ne.mpr c9
                  have c9b1 : (((rd_T36 l0 x5_1).f0).toList != ((rd_T36 l1 x5_1).f0).toList) = true := bne_iff_ne.mpr c9
                  obtain rfl := Option.some.inj H
                  have p226 : 0 ≤ (x5_1 : Int) := of_decide_eq_true (by first | (with_reducible assumption) | assumption)
                  have q226 : x5_1 < (l0.length : Int) := of_decide_eq_true (by first | (with_reducible assumption) | assumption)
                  obtain ⟨ad226, A226_1, c226_1, e226, hx226_0, hx226_1, hx226_2, hl226_1, hi226_1⟩ := at_T36 HR0.out x5_1 p226 q226
                  cases e226
                  have HR226_1 := Aside0.mk hi226_1
                  have HC226_1 := Aside0.mk hl226_1
                  clear hi226_1 hl226_1
                  replace p226 := eq_true p226
                  replace q226 := eq_true q226
                  have p227 : 0 ≤ (x5_1 : Int) := of_decide_eq_true (by first | (with_reducible assumption) | assumption)
                  have q227 : x5_1 < (l1.length : Int) := of_decide_eq_true (by first | (with_reducible assumption) | assumption)
                  obtain ⟨ad227, A227_1, c227_1, e227, hx227_0, hx227_1, hx227_2, hl227_1, hi227_1⟩ := at_T36 HR1.out x5_1 p227 q227
                  cases e227
                  have HR227_1 := Aside0.mk hi227_1
                  have HC227_1 := Aside0.mk hl227_1
                  clear hi227_1 hl227_1
                  replace p227 := eq_true p227
                  replace q227 := eq_true q227
                  go_wp2_with (first | (go_at_call 24; (with_reducible refine (synodref_SameBytes.calls k1 _ _ ((rd_T36 l0 x5_1).f1) _ _ ((rd_T36 l1 x5_1).f1) true _ ?side1 ?side2 ?side3 ?side4 A7.out).mono ?_); (case side1 => repeat (first | exact HR226_1.out | (with_reducible refine Kd.C_alloc ?_ _) | (with_reducible refine Kd.C_drewN ?_ _) | (with_reducible refine Kd.C_drew ?_))); (case side2 => exact HC226_1.out); (case side3 => repeat (first | exact HR227_1.out | (with_reducible refine Kd.C_alloc ?_ _) | (with_reducible refine Kd.C_drewN ?_ _) | (with_reducible refine Kd.C_drew ?_))); (case side4 => exact HC227_1.out); rintro e w' ⟨rfl, ⟨nd, rfl⟩⟩; (try first | exact ⟨rfl, _, World.drewN_drewN _ _ _⟩ | exact ⟨rfl, _, Eq.trans (World.drewN_drewN _ _ _) (congrArg (World.drewN _) (Nat.add_assoc _ _ _))⟩); have p229 : 0 ≤ (x5_1 : Int) := of_decide_eq_true (by first | (with_reducible assumption) | assumption); have q229 : x5_1 < (l0.length : Int) := of_decide_eq_true (by first | (with_reducible assumption) | assumption); obtain ⟨ad229, A229_1, c229_1, e229, hx229_0, hx229_1, hx229_2, hl229_1, hi229_1⟩ := at_T36 HR0.out x5_1 p229 q229; obtain rfl : ad226 = ad229 := (by injection e229); have HR229_1 := Aside0.mk hi229_1; have HC229_1 := Aside0.mk hl229_1; clear hi229_1 hl229_1; replace p229 := eq_true p229; replace q229 := eq_true q229; have ea_ := Option.some.inj (hx226_1.symm.trans hx229_1); injection ea_ with ea_ en_ ec_; subst ea_; subst ec_; clear en_; have p230 : 0 ≤ (x5_1 : Int) := of_decide_eq_true (by first | (with_reducible assumption) | assumption); have q230 : x5_1 < (l1.length : Int) := of_decide_eq_true (by first | (with_reducible assumption) | assumption); obtain ⟨ad230, A230_1, c230_1, e230, hx230_0, hx230_1, hx230_2, hl230_1, hi230_1⟩ := at_T36 HR1.out x5_1 p230 q230; obtain rfl : ad227 = ad230 := (by injection e230); have HR230_1 := Aside0.mk hi230_1; have HC230_1 := Aside0.mk hl230_1; clear hi230_1 hl230_1; replace p230 := eq_true p230; replace q230 := eq_true q230; have ea_ := Option.some.inj (hx227_1.symm.trans hx230_1); injection ea_ with ea_ en_ ec_; subst ea_; subst ec_; clear en_))
                  repeat (go_quiet (first | (go_at_call 24; (with_reducible refine (synodref_SameBytes.calls k1 _ _ ((rd_T36 l0 x5_1).f1) _ _ ((rd_T36 l1 x5_1).f1) true _ ?side1 ?side2 ?side3 ?side4 A7.out).mono ?_); (case side1 => repeat (first | exact HR226_1.out | (with_reducible refine Kd.C_alloc ?_ _) | (with_reducible refine Kd.C_drewN ?_ _) | (with_reducible refine Kd.C_drew ?_))); (case side2 => exact HC226_1.out); (case side3 => repeat (first | exact HR227_1.out | (with_reducible refine Kd.C_alloc ?_ _) | (with_reducible refine Kd.C_drewN ?_ _) | (with_reducible refine Kd.C_drew ?_))); (case side4 => exact HC227_1.out); rintro e w' ⟨rfl, ⟨nd, rfl⟩⟩; (try first | exact ⟨rfl, _, World.drewN_drewN _ _ _⟩ | exact ⟨rfl, _, Eq.trans (World.drewN_drewN _ _ _) (congrArg (World.drewN _) (Nat.add_assoc _ _ _))⟩); have p229 : 0 ≤ (x5_1 : Int) := of_decide_eq_true (by first | (with_reducible assumption) | assumption); have q229 : x5_1 < (l0.length : Int) := of_decide_eq_true (by first | (with_reducible assumption) | assumption); obtain ⟨ad229, A229_1, c229_1, e229, hx229_0, hx229_1, hx229_2, hl229_1, hi229_1⟩ := at_T36 HR0.out x5_1 p229 q229; obtain rfl : ad226 = ad229 := (by injection e229); have HR229_1 := Aside0.mk hi229_1; have HC229_1 := Aside0.mk hl229_1; clear hi229_1 hl229_1; replace p229 := eq_true p229; replace q229 := eq_true q229; have ea_ := Option.some.inj (hx226_1.symm.trans hx229_1); injection ea_ with ea_ en_ ec_; subst ea_; subst ec_; clear en_; have p230 : 0 ≤ (x5_1 : Int) := of_decide_eq_true (by first | (with_reducible assumption) | assumption); have q230 : x5_1 < (l1.length : Int) := of_decide_eq_true (by first | (with_reducible assumption) | assumption); obtain ⟨ad230, A230_1, c230_1, e230, hx230_0, hx230_1, hx230_2, hl230_1, hi230_1⟩ := at_T36 HR1.out x5_1 p230 q230; obtain rfl : ad227 = ad230 := (by injection e230); have HR230_1 := Aside0.mk hi230_1; have HC230_1 := Aside0.mk hl230_1; clear hi230_1 hl230_1; replace p230 := eq_true p230; replace q230 := eq_true q230; have ea_ := Option.some.inj (hx227_1.symm.trans hx230_1); injection ea_ with ea_ en_ ec_; subst ea_; subst ec_; clear en_)); try go_wp2_with (first | (go_at_call 24; (with_reducible refine (synodref_SameBytes.calls k1 _ _ ((rd_T36 l0 x5_1).f1) _ _ ((rd_T36 l1 x5_1).f1) true _ ?side1 ?side2 ?side3 ?side4 A7.out).mono ?_); (case side1 => repeat (first | exact HR226_1.out | (with_reducible refine Kd.C_alloc ?_ _) | (with_reducible refine Kd.C_drewN ?_ _) | (with_reducible refine Kd.C_drew ?_))); (case side2 => exact HC226_1.out); (case side3 => repeat (first | exact HR227_1.out | (with_reducible refine Kd.C_alloc ?_ _) | (with_reducible refine Kd.C_drewN ?_ _) | (with_reducible refine Kd.C_drew ?_))); (case side4 => exact HC227_1.out); rintro e w' ⟨rfl, ⟨nd, rfl⟩⟩; (try first | exact ⟨rfl, _, World.drewN_drewN _ _ _⟩ | exact ⟨rfl, _, Eq.trans (World.drewN_drewN _ _ _) (congrArg (World.drewN _) (Nat.add_assoc _ _ _))⟩); have p229 : 0 ≤ (x5_1 : Int) := of_decide_eq_true (by first | (with_reducible assumption) | assumption); have q229 : x5_1 < (l0.length : Int) := of_decide_eq_true (by first | (with_reducible assumption) | assumption); obtain ⟨ad229, A229_1, c229_1, e229, hx229_0, hx229_1, hx229_2, hl229_1, hi229_1⟩ := at_T36 HR0.out x5_1 p229 q229; obtain rfl : ad226 = ad229 := (by injection e229); have HR229_1 := Aside0.mk hi229_1; have HC229_1 := Aside0.mk hl229_1; clear hi229_1 hl229_1; replace p229 := eq_true p229; replace q229 := eq_true q229; have ea_ := Option.some.inj (hx226_1.symm.trans hx229_1); injection ea_ with ea_ en_ ec_; subst ea_; subst ec_; clear en_; have p230 : 0 ≤ (x5_1 : Int) := of_decide_eq_true (by first | (with_reducible assumption) | assumption); have q230 : x5_1 < (l1.length : Int) := of_decide_eq_true (by first | (with_reducible assumption) | assumption); obtain ⟨ad230, A230_1, c230_1, e230, hx230_0, hx230_1, hx230_2, hl230_1, hi230_1⟩ := at_T36 HR1.out x5_1 p230 q230; obtain rfl : ad227 = ad230 := (by injection e230); have HR230_1 := Aside0.mk hi230_1; have HC230_1 := Aside0.mk hl230_1; clear hi230_1 hl230_1; replace p230 := eq_true p230; replace q230 := eq_true q230; have ea_ := Option.some.inj (hx227_1.symm.trans hx230_1); injection ea_ with ea_ en_ ec_; subst ea_; subst ec_; clear en_)))
                  go_ret
                  exact ⟨by first | rfl | (simp; done) | (simp [*]; done), by repeat (first | exact Drawn0.refl _ | apply Drawn0.step)⟩
              · replace c8 := Bool.eq_false_iff.mpr c8
                subst c8
                have H1 : (some false) = some r := by rw [if_neg (show ¬ (false = true) by decide)] at H; exact H
                clear H
                have H := H1
                clear H1
                obtain rfl := Option.some.inj H
                have p226 : 0 ≤ (x5_1 : Int) := of_decide_eq_true (by first | (with_reducible assumption) | assumption)
                have q226 : x5_1 < (l0.length : Int) := of_decide_eq_true (by first | (with_reducible assumption) | assumption)
                obtain ⟨ad226, A226_1, c226_1, e226, hx226_0, hx226_1, hx226_2, hl226_1, hi226_1⟩ := at_T36 HR0.out x5_1 p226 q226
                cases e226
                have HR226_1 := Aside0.mk hi226_1
                have HC226_1 := Aside0.mk hl226_1
                clear hi226_1 hl226_1
                replace p226 := eq_true p226
                replace q226 := eq_true q226
                have p227 : 0 ≤ (x5_1 : Int) := of_decide_eq_true (by first | (with_reducible assumption) | assumption)
                have q227 : x5_1 < (l1.length : Int) := of_decide_eq_true (by first | (with_reducible assumption) | assumption)
                obtain ⟨ad227, A227_1, c227_1, e227, hx227_0, hx227_1, hx227_2, hl227_1, hi227_1⟩ := at_T36 HR1.out x5_1 p227 q227
                cases e227
                have HR227_1 := Aside0.mk hi227_1
                have HC227_1 := Aside0.mk hl227_1
                clear hi227_1 hl227_1
                replace p227 := eq_true p227
                replace q227 := eq_true q227
                go_wp2_with (first | (go_at_call 24; (with_reducible refine (synodref_SameBytes.calls k1 _ _ ((rd_T36 l0 x5_1).f1) _ _ ((rd_T36 l1 x5_1).f1) false _ ?side1 ?side2 ?side3 ?side4 A7.out).mono ?_); (case side1 => repeat (first | exact HR226_1.out | (with_reducible refine Kd.C_alloc ?_ _) | (with_reducible refine Kd.C_drewN ?_ _) | (with_reducible refine Kd.C_drew ?_))); (case side2 => exact HC226_1.out); (case side3 => repeat (first | exact HR227_1.out | (with_reducible refine Kd.C_alloc ?_ _) | (with_reducible refine Kd.C_drewN ?_ _) | (with_reducible refine Kd.C_drew ?_))); (case side4 => exact HC227_1.out); rintro e w' ⟨rfl, ⟨nd, rfl⟩⟩; (try first | exact ⟨rfl, _, World.drewN_drewN _ _ _⟩ | exact ⟨rfl, _, Eq.trans (World.drewN_drewN _ _ _) (congrArg (World.drewN _) (Nat.add_assoc _ _ _))⟩)))
                repeat (go_quiet (first | (go_at_call 24; (with_reducible refine (synodref_SameBytes.calls k1 _ _ ((rd_T36 l0 x5_1).f1) _ _ ((rd_T36 l1 x5_1).f1) false _ ?side1 ?side2 ?side3 ?side4 A7.out).mono ?_); (case side1 => repeat (first | exact HR226_1.out | (with_reducible refine Kd.C_alloc ?_ _) | (with_reducible refine Kd.C_drewN ?_ _) | (with_reducible refine Kd.C_drew ?_))); (case side2 => exact HC226_1.out); (case side3 => repeat (first | exact HR227_1.out | (with_reducible refine Kd.C_alloc ?_ _) | (with_reducible refine Kd.C_drewN ?_ _) | (with_reducible refine Kd.C_drew ?_))); (case side4 => exact HC227_1.out); rintro e w' ⟨rfl, ⟨nd, rfl⟩⟩; (try first | exact ⟨rfl, _, World.drewN_drewN _ _ _⟩ | exact ⟨rfl, _, Eq.trans (World.drewN_drewN _ _ _) (congrArg (World.drewN _) (Nat.add_assoc _ _ _))⟩))); try go_wp2_with (first | (go_at_call 24; (with_reducible refine (synodref_SameBytes.calls k1 _ _ ((rd_T36 l0 x5_1).f1) _ _ ((rd_T36 l1 x5_1).f1) false _ ?side1 ?side2 ?side3 ?side4 A7.out).mono ?_); (case side1 => repeat (first | exact HR226_1.out | (with_reducible refine Kd.C_alloc ?_ _) | (with_reducible refine Kd.C_drewN ?_ _) | (with_reducible refine Kd.C_drew ?_))); (case side2 => exact HC226_1.out); (case side3 => repeat (first | exact HR227_1.out | (with_reducible refine Kd.C_alloc ?_ _) | (with_reducible refine Kd.C_drewN ?_ _) | (with_reducible refine Kd.C_drew ?_))); (case side4 => exact HC227_1.out); rintro e w' ⟨rfl, ⟨nd, rfl⟩⟩; (try first | exact ⟨rfl, _, World.drewN_drewN _ _ _⟩ | exact ⟨rfl, _, Eq.trans (World.drewN_drewN _ _ _) (congrArg (World.drewN _) (Nat.add_assoc _ _ _))⟩))))
                go_ret
                exact ⟨by first | rfl | (simp; done) | (simp [*]; done), by repeat (first | exact Drawn0.refl _ | apply Drawn0.step)⟩
            · rw [if_neg c6] at H
              exact absurd H (by simp)
          · rw [if_neg c5] at H
            exact absurd H (by simp)
        · rw [if_neg c4] at H
          have c4b0 : decide (x5_1 < (l0.length : Int)) = false := decide_eq_false c4
          clear c4
          obtain rfl := Option.some.inj H
          go_wp2
          repeat (go_quiet (fail); try go_wp2)
          go_ret
          exact ⟨by first | rfl | (simp; done) | (simp [*]; done), by repeat (first | exact Drawn0.refl _ | apply Drawn0.step)⟩
  · rw [if_neg c3] at H
    have c3b0 : ((l0.length : Int) == (l1.length : Int)) = false := beq_eq_false_iff_ne.mpr c3
    have c3b1 : ((l0.length : Int) != (l1.length : Int)) = true := bne_iff_ne.mpr c3
    have c3b2 : (l0.length == l1.length) = false := by first | simpa using c3 | (simp at c3 ⊢; omega)
    obtain rfl := Option.some.inj H
    go_enter Try.func25, Try.ntmps25
    go_wp2
    repeat (go_quiet (fail); try go_wp2)
    go_ret
    exact ⟨by first | rfl | (simp; done) | (simp [*]; done), by repeat (first | exact Drawn0.refl _ | apply Drawn0.step)⟩

end Go.Proofs.Ytflajlnknimjaaa.PDiskLoads

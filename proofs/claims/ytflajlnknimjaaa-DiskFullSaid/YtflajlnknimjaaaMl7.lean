/- Merged: RfC. -/
import Derived.Test.YtflajlnknimjaaaMl6
set_option linter.unusedVariables false
set_option linter.unusedSimpArgs false
/- The reference's Cut. -/
namespace Go.Proofs.Ytflajlnknimjaaa.Dk
open Go.RowKit Go.Maps Go.Proofs.YtflajlnknimjaaaW.PrintWords Go.Proofs.YtflajlnknimjaaaW.PrintMore Go.Proofs.YtflajlnknimjaaaW.PrintLast Go.Proofs.Ytflajlnknimjaaa.Syn Go.Proofs.Ytflajlnknimjaaa.PDiskLoads
set_option linter.unusedVariables false
set_option linter.unusedSimpArgs false
attribute [local go_sem] max2_int min2_int max_two min_two

def rcutT : Bool × List (List Nat × List Nat) := (true, [([], []), ([0], [0]), ([1], [1]), ([2], [2]), ([], []), ([], []), ([5], [5]), ([6], [6]), ([7], [7]), ([], []), ([8, 9], [8, 9]), ([10], [10]), ([11], [11]), ([], []), ([12, 13], [12, 13]), ([14], [14]), ([3, 4, 0, 1, 2, 3, 4, 5, 6, 7, 8, 9, 10, 11, 12, 13, 14, 15], [3, 4]), ([16, 0, 1, 2, 3, 4, 5, 6, 7, 8, 9, 10, 11, 12, 13, 14, 15], [16]), ([17, 15, 15, 0, 1, 2, 3, 4, 5, 6, 7, 8, 9, 10, 11, 12, 13, 14, 15], [15, 17])])
def rcutTB : List Nat := [0, 1, 3, 7, 0, 0, 32, 96, 224, 0, 992, 2016, 4064, 0, 16352, 32736, 65535, 131071, 262143]
theorem rcutT_tab : rtab .any (opsOf Try.f51 10) = rcutT := by kernel_rfl
theorem rcutT_bits : waitsOk rcutT.2 rcutTB = true := by kernel_rfl
def rcutU : Bool × List (List Nat × List Nat) := (true, [([], []), ([0], [0]), ([1], [1]), ([2], [2]), ([], []), ([], []), ([5], [5]), ([6], [6]), ([7], [7]), ([], []), ([8, 9], [8, 9]), ([10], [10]), ([11], [11]), ([], []), ([12, 13], [12, 13]), ([3, 4, 0, 1, 2, 3, 4, 5, 6, 7, 8, 9, 10, 11, 12, 13, 14], [3, 4]), ([15, 0, 1, 2, 3, 4, 5, 6, 7, 8, 9, 10, 11, 12, 13, 14], [15]), ([16, 14, 0, 1, 2, 3, 4, 5, 6, 7, 8, 9, 10, 11, 12, 13, 14], [14, 16])])
def rcutUB : List Nat := [0, 1, 3, 7, 0, 0, 32, 96, 224, 0, 992, 2016, 4064, 0, 16352, 32767, 65535, 131071]
theorem rcutU_tab : rtab .any (opsOf Try.f51 11) = rcutU := by kernel_rfl
theorem rcutU_bits : waitsOk rcutU.2 rcutUB = true := by kernel_rfl
section
variable {F : Nat → Prop} {p : Nat} {w w1 : World} {v : Value} {d : St}
theorem RPost.of2 {r : Int} {fs : List Fl} {la : ByteArray} {d' : St} (h : RefIs w1 (Gr F w w1) p v (fs.map Fl.out) d'.armed d'.down la) (hc : Chg F w w1) (hl : la = d'.last) : RPost F p w (r, { d' with fs := fs }) (.returned (.int .i64 r)) w1 := by
  subst hl
  exact ⟨rfl, ⟨v, h⟩, hc⟩
set_option maxRecDepth 100000 in
set_option maxHeartbeats 1000000 in
theorem rcut_calls (nm : ByteArray) (n : Int) (h : RefAt w F p d) (ok : d.Ok) :
    Calls Try.prog 51 #[ptr p, .string nm, .int .i64 n] w (RPost F p w (d.cut nm n)) := by
  have h' := h
  obtain ⟨v, hI⟩ := h
  have b2 := sb_cell hI.blk 2
  simp at b2
  have HI := Lib.hid hI
  have HA := Lib.hid ok
  have HH := Lib.hid h'
  clear hI h'
  generalize hr : d.cut nm n = r
  unfold St.cut at hr
  by_cases hd : d.down = true
  · rw [if_pos hd] at hr
    rw [hd] at b2
    have HR := Lib.hid hr
    clear hr hd ok
    go_enter Try.func51, Try.ntmps51
    go_wp2
    go_ret
    rw [← HR.out]
    exact RPost.same HH.out 0
  rw [if_neg hd] at hr
  have hd' : d.down = false := by simpa using hd
  rw [hd'] at b2
  cases hp : pos nm d.fs with
  | none =>
    have hlk := pos_none.1 hp
    rw [hlk] at hr
    have HR := Lib.hid hr
    have HPs := Lib.hid hp
    clear hr hd hd' ok hp hlk
    go_enter Try.func51, Try.ntmps51
    go_wp2_with (go_at_call 37; refine (rat_none (by exact HI.out) (by exact HA.out) (by exact HPs.out)).mono ?_; rintro e w' ⟨rfl, rfl⟩)
    go_ret
    rw [← HR.out]
    exact RPost.same HH.out 0
  | some i =>
  obtain ⟨hi, hin⟩ := pos_some hp
  have hlk := pos_look ok.srt hp hi
  rw [hlk] at hr
  simp only at hr
  obtain ⟨f, hf⟩ : ∃ f, d.fs[i]? = some f := ⟨_, List.getElem?_eq_getElem hi⟩
  have hfe : d.fs[i] = f := by rw [List.getElem?_eq_getElem hi] at hf; exact Option.some.inj hf
  rw [hfe] at hr
  have HFI := Lib.hid hf
  have hdl : (f.dat.length : Int) ≤ 16777216 := by have h1 := total_mem (List.mem_of_getElem? hf); have := ok.tot; omega
  have HPs := Lib.hid hp
  have hil := pos_len hp
  have HIL := Lib.hid hil
  have hi0 : (0 : Int) ≤ (i : Int) := by omega
  have hill : ((i : Nat) : Int) < ((filesOf d).length : Int) := by omega
  have hfsl : ((filesOf d).length : Int) ≤ 1048576 := by have := files_short ok; omega
  obtain ⟨g, c, A4, c4, hv, hlc, hFg, hgp, hl4, hF4, x0, x1, x2, hfz⟩ := HI.out.at (file_at hf)
  have c0 := sb_cell HI.out.blk 0
  simp at c0
  rw [hv] at c0
  replace x1 : w.cell? ⟨g, i * 3 + 1, none⟩ = some (.slice A4 f.dat.length c4) := x1
  have HV := Lib.hid hv
  clear hv hlc hFg hgp hl4 hF4 x0 x2 hfz hi hin hlk hf hfe hp hil
  by_cases hbad : n < 0 ∨ (f.dat.length : Int) < n
  · rw [if_pos hbad] at hr
    have HR := Lib.hid hr
    by_cases h0 : n < 0
    · have t1 : decide (n < 0) = true := decide_eq_true h0
      clear hr hd hd' ok hbad
      go_enter Try.func51, Try.ntmps51
      go_wp2_with (go_at_call 37; refine (rat_some (by exact HI.out) (by exact HA.out) (by exact HPs.out)).mono ?_; rintro e w' ⟨rfl, rfl⟩)
      go_ret
      rw [← HR.out]
      exact RPost.same HH.out 0
    · have t1 : decide (n < 0) = false := decide_eq_false h0
      have t2 : decide ((f.dat.length : Int) < n) = true := decide_eq_true (by omega)
      clear hr hd hd' ok hbad
      go_enter Try.func51, Try.ntmps51
      go_wp2_with (go_at_call 37; refine (rat_some (by exact HI.out) (by exact HA.out) (by exact HPs.out)).mono ?_; rintro e w' ⟨rfl, rfl⟩)
      go_ret
      rw [← HR.out]
      exact RPost.same HH.out 0
  rw [if_neg hbad] at hr
  have h0 : 0 ≤ n := by omega
  have h1 : n ≤ (f.dat.length : Int) := by omega
  have t1 : decide (n < 0) = false := decide_eq_false (by omega)
  have t2 : decide ((f.dat.length : Int) < n) = false := decide_eq_false (by omega)
  clear hbad
  cases ht : (tick d).1 with
  | true =>
    rw [ht, if_pos rfl] at hr
    have HR := Lib.hid hr
    have HT := Lib.hid ht
    clear hr hd hd' ok ht
    go_enter Try.func51, Try.ntmps51
    go_wp2_with (first
      | (go_at_call 37; refine (rat_some (by exact HI.out) (by exact HA.out) (by exact HPs.out)).mono ?_; rintro e w' ⟨rfl, rfl⟩)
      | (go_at_call 38; refine (rtick_calls p _ _ d.last d.armed d.down d rfl rfl HA.out.armed (by exact HI.out.blk)).mono ?_; rintro e w1 ⟨rfl, hb1, hs1, hc1⟩; rw [HT.out]; have HX := Lib.hid hb1; clear hb1))
    go_ret
    rw [← HR.out]
    exact RPost.ticked (nd := 0) HI.out HX.out hc1
  | false =>
    rw [ht, if_neg (by simp)] at hr
    have HT := Lib.hid ht
    have HR := Lib.hid hr
    clear hr hd hd' ok ht
    go_enter Try.func51, Try.ntmps51
    go_upto_region 10 with (first
      | (go_at_call 37; refine (rat_some (by exact HI.out) (by exact HA.out) (by exact HPs.out)).mono ?_; rintro e w' ⟨rfl, rfl⟩)
      | (go_at_call 38; refine (rtick_calls p _ _ d.last d.armed d.down d rfl rfl HA.out.armed (by exact HI.out.blk)).mono ?_; rintro e w1 ⟨rfl, hb1, hs1, hc1⟩; rw [HT.out]; have HX := Lib.hid (HI.out.head hb1 hc1); have HC1 := Lib.hid hc1; clear hb1 hs1 hc1))
    clear x1 c0
    have hX6 := HX.out.below (below_drew (Below.refl _ _))
    obtain ⟨g, c, A4, c4, hv, hlc, hFg, hgp, hl4, hF4, x0, x1, x2, hfz⟩ := hX6.at (file_at HFI.out)
    rw [hv] at hX6
    have c0 := sb_cell hX6.blk 0
    simp at c0
    replace c0 : w1.drew.cell? ⟨p, 0, none⟩ = some (.slice (some ⟨g, 0, none⟩) (filesOf d).length c) := c0
    replace x1 : w1.drew.cell? ⟨g, i * 3 + 1, none⟩ = some (.slice A4 f.dat.length c4) := x1
    replace x2 : w1.drew.cell? ⟨g, i * 3 + 2, none⟩ = some (.int .i64 f.syn) := x2
    have HX6 := Lib.hid hX6
    have f2 := hfz 2
    have HFg := Lib.hid hFg
    have HC6 : Hid (Chg F w w1.drew) := Lib.hid ((HC1.out.mono (fun k hk => by rw [hk]; exact HI.out.fp)).same (Chg.drew _))
    have HGP := Lib.hid hgp
    obtain ⟨ys, hys⟩ : ∃ ys, ys = f.dat.take n.toNat := ⟨_, rfl⟩
    have hyl : ys.length = n.toNat := by rw [hys, List.length_take]; omega
    obtain ⟨i0, hi0', _⟩ := info_parts info5
    have hsl := cut_to (P := Try.prog) 34 5 .i64 Try.underlying34 hi0' A4 f.dat.length c4 n h0 h1 hl4
    rw [← hyl] at hsl
    have hC4 : Kd.C (Kd.int .u8) w1.drew A4 ys.length ys := by
      rw [hyl, hys]
      exact C_take (Kd.F_now hF4) (by show n.toNat ≤ f.dat.length; omega)
    have f1 := hfz 1
    have HYC : Hid (ys.length ≤ c4) := Lib.hid (by have : f.dat.length ≤ c4 := hl4; omega)
    have HYL : Hid (ys.length ≤ 1099511627776) := Lib.hid (by omega)
    have HYS := Lib.hid hys
    have HC4 := Lib.hid hC4
    clear hfz hX6 hl4 hF4 hlc x0 hys hyl hC4 t1 t2 hi0'
    refine start_ (n := 19) (S := fun w' => w'.cell? ⟨p, 0, none⟩ = some (.slice (some ⟨g, 0, none⟩) (filesOf d).length c) ∧ w'.cell? ⟨g, i * 3 + 1, none⟩ = some (.slice A4 f.dat.length c4)) (ds := [18]) #[false, false, false, false, false, false, false, false, false, false, false, false, false, false, false, false, false, false, false] (by kernel_rfl) rfl rfl ⟨c0, x1⟩ (fun hHeld => ?_)
    refine with_tabW rcutT_tab rcutT_bits (fun HT_ HW_ => ?_)
    generalize w1.drew = w6 at HX6 HC6 HC4 c0 x1 x2 f1 f2 hHeld ⊢
    refine pure_ (i := 0) (N := (some 34)) (v := ?_) (a' := ?_) #[true, false, false, false, false, false, false, false, false, false, false, false, false, false, false, false, false, false, false] rfl rfl (any_of HT_.out (by kernel_rfl)) (fun _ _ _ h => h) (Or.inl ⟨by rfl, ?_⟩) ?_ ?_
    rotate_left
    · intro w'
      go_simp
      with_reducible rfl
    rotate_left
    · simp only [Act.put, List.setIfInBounds_toArray, List.set_cons_zero, List.set_cons_succ, i64_w, i32_w]
      rfl
    refine pure_ (i := 1) (N := (some 35)) (v := ?_) (a' := ?_) #[true, true, false, false, false, false, false, false, false, false, false, false, false, false, false, false, false, false, false] rfl rfl (any_of HT_.out (by kernel_rfl)) (fun _ _ _ h => h) (Or.inl ⟨by rfl, ?_⟩) ?_ ?_
    rotate_left
    · intro w'
      go_simp
      with_reducible rfl
    rotate_left
    · simp only [Act.put, List.setIfInBounds_toArray, List.set_cons_zero, List.set_cons_succ, i64_w, i32_w]
      rfl
    refine pure_ (i := 2) (N := (some 36)) (v := ?_) (a' := ?_) #[true, true, true, false, false, false, false, false, false, false, false, false, false, false, false, false, false, false, false] rfl rfl (any_of HT_.out (by kernel_rfl)) (fun _ _ _ h => h) (Or.inl ⟨by rfl, ?_⟩) ?_ ?_
    rotate_left
    · intro w'
      go_simp
      with_reducible rfl
    rotate_left
    · simp only [Act.put, List.setIfInBounds_toArray, List.set_cons_zero, List.set_cons_succ, i64_w, i32_w]
      rfl
    refine pure_ (i := 4) (N := (some 38)) (v := ?_) (a' := ?_) #[true, true, true, false, true, false, false, false, false, false, false, false, false, false, false, false, false, false, false] rfl rfl (any_of HT_.out (by kernel_rfl)) (fun _ _ _ h => h) (Or.inl ⟨by rfl, ?_⟩) ?_ ?_
    rotate_left
    · intro w'
      go_simp
      with_reducible rfl
    rotate_left
    · simp only [Act.put, List.setIfInBounds_toArray, List.set_cons_zero, List.set_cons_succ, i64_w, i32_w]
      rfl
    refine pure_ (i := 5) (N := (some 39)) (v := ?_) (a' := ?_) #[true, true, true, false, true, true, false, false, false, false, false, false, false, false, false, false, false, false, false] rfl rfl (any_of HT_.out (by kernel_rfl)) (fun _ _ _ h => h) (Or.inl ⟨by rfl, ?_⟩) ?_ ?_
    rotate_left
    · intro w'
      go_simp
      with_reducible rfl
    rotate_left
    · simp only [Act.put, List.setIfInBounds_toArray, List.set_cons_zero, List.set_cons_succ, i64_w, i32_w]
      rfl
    refine pure_ (i := 6) (N := (some 40)) (v := ?_) (a' := ?_) #[true, true, true, false, true, true, true, false, false, false, false, false, false, false, false, false, false, false, false] rfl rfl (any_of HT_.out (by kernel_rfl)) (fun _ _ _ h => h) (Or.inl ⟨by rfl, ?_⟩) ?_ ?_
    rotate_left
    · intro w'
      go_simp
      with_reducible rfl
    rotate_left
    · simp only [Act.put, List.setIfInBounds_toArray, List.set_cons_zero, List.set_cons_succ, i64_w, i32_w]
      rfl
    refine pure_ (i := 7) (N := (some 41)) (v := ?_) (a' := ?_) #[true, true, true, false, true, true, true, true, false, false, false, false, false, false, false, false, false, false, false] rfl rfl (any_of HT_.out (by kernel_rfl)) (fun _ _ _ h => h) (Or.inl ⟨by rfl, ?_⟩) ?_ ?_
    rotate_left
    · intro w'
      go_simp
      with_reducible rfl
    rotate_left
    · simp only [Act.put, List.setIfInBounds_toArray, List.set_cons_zero, List.set_cons_succ, i64_w, i32_w]
      rfl
    refine pure_ (i := 9) (N := (some 43)) (v := ?_) (a' := ?_) #[true, true, true, false, true, true, true, true, false, true, false, false, false, false, false, false, false, false, false] rfl rfl (any_of HT_.out (by kernel_rfl)) (fun _ _ _ h => h) (Or.inl ⟨by rfl, ?_⟩) ?_ ?_
    rotate_left
    · intro w'
      go_simp
      with_reducible rfl
    rotate_left
    · simp only [Act.put, List.setIfInBounds_toArray, List.set_cons_zero, List.set_cons_succ, i64_w, i32_w]
      rfl
    refine pure_ (i := 13) (N := (some 47)) (v := ?_) (a' := ?_) #[true, true, true, false, true, true, true, true, false, true, false, false, false, true, false, false, false, false, false] rfl rfl (any_of HT_.out (by kernel_rfl)) (fun _ _ _ h => h) (Or.inl ⟨by rfl, ?_⟩) ?_ ?_
    rotate_left
    · intro w'
      go_simp
      with_reducible rfl
    rotate_left
    · simp only [Act.put, List.setIfInBounds_toArray, List.set_cons_zero, List.set_cons_succ, i64_w, i32_w]
      rfl
    refine take_ (i := 3) (N := (some 37)) (v := ?_) (a' := ?_) #[true, true, true, true, true, true, true, true, false, true, false, false, false, true, false, false, false, false, false] rfl rfl (take_ofW HT_.out HW_.out (by kernel_rfl)) (fun _ _ _ h => h) (Or.inl ⟨by rfl, ?_⟩) hHeld ?_ ?_
    rotate_left
    · rintro w' ⟨s0, s1⟩
      go_simp
      with_reducible rfl
    rotate_left
    · simp only [Act.put, List.setIfInBounds_toArray, List.set_cons_zero, List.set_cons_succ, i64_w, i32_w]
      rfl
    refine take_ (i := 8) (N := (some 42)) (v := ?_) (a' := ?_) #[true, true, true, true, true, true, true, true, true, true, false, false, false, true, false, false, false, false, false] rfl rfl (take_ofW HT_.out HW_.out (by kernel_rfl)) (fun _ _ _ h => h) (Or.inl ⟨by rfl, ?_⟩) hHeld ?_ ?_
    rotate_left
    · rintro w' ⟨s0, s1⟩
      go_simp
      with_reducible rfl
    rotate_left
    · simp only [Act.put, List.setIfInBounds_toArray, List.set_cons_zero, List.set_cons_succ, i64_w, i32_w]
      rfl
    refine pure_ (i := 10) (N := (some 44)) (v := ?_) (a' := ?_) #[true, true, true, true, true, true, true, true, true, true, true, false, false, true, false, false, false, false, false] rfl rfl (any_of HT_.out (by kernel_rfl)) (fun _ _ _ h => h) (Or.inl ⟨by rfl, ?_⟩) ?_ ?_
    rotate_left
    · intro w'
      go_simp
      with_reducible rfl
    rotate_left
    · simp only [Act.put, List.setIfInBounds_toArray, List.set_cons_zero, List.set_cons_succ, i64_w, i32_w]
      rfl
    refine pure_ (i := 11) (N := (some 45)) (v := ?_) (a' := ?_) #[true, true, true, true, true, true, true, true, true, true, true, true, false, true, false, false, false, false, false] rfl rfl (any_of HT_.out (by kernel_rfl)) (fun _ _ _ h => h) (Or.inl ⟨by rfl, ?_⟩) ?_ ?_
    rotate_left
    · intro w'
      go_simp
      with_reducible rfl
    rotate_left
    · simp only [Act.put, List.setIfInBounds_toArray, List.set_cons_zero, List.set_cons_succ, i64_w, i32_w]
      rfl
    refine take_ (i := 12) (N := (some 46)) (v := ?_) (a' := ?_) #[true, true, true, true, true, true, true, true, true, true, true, true, true, true, false, false, false, false, false] rfl rfl (take_ofW HT_.out HW_.out (by kernel_rfl)) (fun _ _ _ h => h) (Or.inl ⟨by rfl, ?_⟩) hHeld ?_ ?_
    rotate_left
    · rintro w' ⟨s0, s1⟩
      go_simp
      with_reducible rfl
    rotate_left
    · simp only [Act.put, List.setIfInBounds_toArray, List.set_cons_zero, List.set_cons_succ, i64_w, i32_w]
      rfl
    refine pure_ (i := 14) (N := (some 48)) (v := ?_) (a' := ?_) #[true, true, true, true, true, true, true, true, true, true, true, true, true, true, true, false, false, false, false] rfl rfl (any_of HT_.out (by kernel_rfl)) (fun _ _ _ h => h) (Or.inl ⟨by rfl, ?_⟩) ?_ ?_
    rotate_left
    · intro w'
      go_simp
      with_reducible rfl
    rotate_left
    · simp only [Act.put, List.setIfInBounds_toArray, List.set_cons_zero, List.set_cons_succ, i64_w, i32_w]
      rfl
    refine one_ (i := 15) (N := (some 49)) #[true, true, true, true, true, true, true, true, true, true, true, true, true, true, true, true, false, false, false] rfl rfl (one_of HT_.out (by kernel_rfl)) (by decide) (fun K hK => ?_)
    refine goes_ Try.func40 (by kernel_rfl) rfl #[.slice A4 ys.length c4] (by rfl) rfl rfl (by (try simp only [List.map_toArray, List.map_cons, List.map_nil]); rfl) ?_
    with_reducible refine (bytes_calls A4 c4 ys _ (by exact HC4.out) (by exact HYC.out) (by exact HYL.out)).mono ?_
    rintro e w7 ⟨v7, rfl, ho7, hb7⟩
    refine ⟨_, rfl, ?_⟩
    obtain ⟨A7, c7, e7, hc7, hF7⟩ := fresh_foot ho7
    subst e7
    have hg6 : g < w6.heap.size := HX6.out.lt g HFg.out
    have d0 := pw_cell_below hb7 c0
    have d1 := pw_cell_below hb7 x1
    have d2 := pw_cell_below hb7 x2
    have e1 : w7.frozen? ⟨g, i * 3 + 1, none⟩ = false := (hb7.frozen (p := ⟨g, i * 3 + 1, none⟩) hg6).trans f1
    have e2 : w7.frozen? ⟨g, i * 3 + 2, none⟩ = false := (hb7.frozen (p := ⟨g, i * 3 + 2, none⟩) hg6).trans f2
    have hX7 := (HX6.out.below hb7).wide (G := Gr F w6 w7) (fun _ h => .inl h) (Gr.lt HX6.out.lt hb7.size)
    have hF7' : Kd.F (Kd.int .u8) w7 (fun k => (Gr F w6 w7 k ∧ k ≠ p) ∧ k ≠ g) A7 ys.length ys := Kd.F_mono hF7 (fun k hk => ⟨⟨.inr hk, fun e => by have := HX6.out.lt p HX6.out.fp; have := hk.1; omega⟩, fun e => by have := hk.1; omega⟩)
    have hX8 := hX7.put1 (file_at HFI.out) hc7 hF7'
    have hc7' : Chg F w w7 := HC6.out.same (Chg.of_below hb7)
    have HX8 := Lib.hid hX8
    have HC7 := Lib.hid hc7'
    have HS67 := Lib.hid hb7.size
    clear hb7 ho7 hX7 hX8 hF7 hF7' hc7 hc7' hg6
    refine hK.out _ _ ⟨d0, d1⟩ (fun hHeld => ?_)
    clear hK K
    refine norm_ (a' := ?_) ?_ ?_
    rotate_left
    · show Act.put _ (some 49) _ = _
      simp only [Act.put, List.setIfInBounds_toArray, List.set_cons_zero, List.set_cons_succ, i64_w, i32_w]
      rfl
    refine pure_ (i := 16) (N := (some 50)) (v := ?_) (a' := ?_) #[true, true, true, true, true, true, true, true, true, true, true, true, true, true, true, true, true, false, false] rfl rfl (any_of HT_.out (by kernel_rfl)) (fun _ _ _ h => h) (Or.inl ⟨by rfl, ?_⟩) ?_ ?_
    rotate_left
    · intro w'
      go_simp
      with_reducible rfl
    rotate_left
    · simp only [Act.put, List.setIfInBounds_toArray, List.set_cons_zero, List.set_cons_succ, i64_w, i32_w]
      rfl
    refine pure_ (i := 17) (N := (some 51)) (v := ?_) (a' := ?_) #[true, true, true, true, true, true, true, true, true, true, true, true, true, true, true, true, true, true, false] rfl rfl (any_of HT_.out (by kernel_rfl)) (fun _ _ _ h => h) (Or.inl ⟨by rfl, ?_⟩) ?_ ?_
    rotate_left
    · intro w'
      go_simp
      with_reducible rfl
    rotate_left
    · simp only [Act.put, List.setIfInBounds_toArray, List.set_cons_zero, List.set_cons_succ, i64_w, i32_w]
      rfl
    refine last_ (i := 18) (N := none) #[true, true, true, true, true, true, true, true, true, true, true, true, true, true, true, true, true, true, true] rfl rfl (one_of HT_.out (by kernel_rfl)) (by decide) (fun K hK => ?_)
    refine skip_ (w1 := ?_) (by rfl) rfl ?_ ?_
    rotate_left
    · go_simp
      rfl
    refine hK.out _ _ ?_
    clear hK K
    refine done_ (done_of HT_.out (by kernel_rfl)) ?_
    go_upto_region 11 with fail
    have q0 := (cell_far (W := w7) (p := ⟨g, i * 3 + 1, none⟩) (a := ⟨p, 0, none⟩) (fun e => HGP.out e.symm) (.slice A7 ys.length c7)).trans d0
    have q2 := (cell_off w7 g (i * 3 + 1) (i * 3 + 2) (.slice A7 ys.length c7) (by omega)).trans d2
    have r2 : (w7.setCell ⟨g, i * 3 + 1, none⟩ (.slice A7 ys.length c7)).frozen? ⟨g, i * 3 + 2, none⟩ = false := by simpa using e2
    have HC8 : Hid (Chg F w (w7.setCell ⟨g, i * 3 + 1, none⟩ (.slice A7 ys.length c7)).drew) := Lib.hid ((HC7.out.same (Chg.setCell w7 (p := ⟨g, i * 3 + 1, none⟩) HFg.out _)).same (Chg.drew _))
    have HX9 := Lib.hid (HX8.out.below (below_drew (Below.refl _ _)))
    have q0' : (w7.setCell ⟨g, i * 3 + 1, none⟩ (.slice A7 ys.length c7)).drew.cell? ⟨p, 0, none⟩ = some (.slice (some ⟨g, 0, none⟩) (filesOf d).length c) := q0
    have q2' : (w7.setCell ⟨g, i * 3 + 1, none⟩ (.slice A7 ys.length c7)).drew.cell? ⟨g, i * 3 + 2, none⟩ = some (.int .i64 f.syn) := q2
    have r2' : (w7.setCell ⟨g, i * 3 + 1, none⟩ (.slice A7 ys.length c7)).drew.frozen? ⟨g, i * 3 + 2, none⟩ = false := r2
    have HG67 : Hid (∀ k, Gr F w6 w7 k → Gr F w (w7.setCell ⟨g, i * 3 + 1, none⟩ (.slice A7 ys.length c7)).drew k) := Lib.hid (fun k hk => hk.elim .inl (fun h => .inr ⟨Nat.le_trans HC6.out.size h.1, by show k < (w7.setCell _ _).heap.size; simpa [World.setCell] using h.2⟩))
    clear q0 q2 r2 HX8 d0 d1 d2 e1 e2 c0 x1 x2 f1 f2 hHeld
    obtain ⟨mn, hmn⟩ : ∃ mn : Int, (if n < (f.syn : Int) then n else (f.syn : Int)) = mn := ⟨_, rfl⟩
    have HMN := Lib.hid hmn
    refine start_ (n := 18) (S := fun w' => w'.cell? ⟨p, 0, none⟩ = some (.slice (some ⟨g, 0, none⟩) (filesOf d).length c) ∧ w'.cell? ⟨g, i * 3 + 2, none⟩ = some (.int .i64 f.syn)) (ds := [17]) #[false, false, false, false, false, false, false, false, false, false, false, false, false, false, false, false, false, false] (by kernel_rfl) rfl rfl ⟨q0', q2'⟩ (fun hHeld => ?_)
    refine with_tabW rcutU_tab rcutU_bits (fun HT_ HW_ => ?_)
    generalize (w7.setCell ⟨g, i * 3 + 1, none⟩ (.slice A7 ys.length c7)).drew = w9 at HX9 HC8 HG67 q0' q2' r2' hHeld ⊢
    refine pure_ (i := 0) (N := (some 52)) (v := ?_) (a' := ?_) #[true, false, false, false, false, false, false, false, false, false, false, false, false, false, false, false, false, false] rfl rfl (any_of HT_.out (by kernel_rfl)) (fun _ _ _ h => h) (Or.inl ⟨by rfl, ?_⟩) ?_ ?_
    rotate_left
    · intro w'
      go_simp
      with_reducible rfl
    rotate_left
    · simp only [Act.put, List.setIfInBounds_toArray, List.set_cons_zero, List.set_cons_succ, i64_w, i32_w]
      rfl
    refine pure_ (i := 1) (N := (some 53)) (v := ?_) (a' := ?_) #[true, true, false, false, false, false, false, false, false, false, false, false, false, false, false, false, false, false] rfl rfl (any_of HT_.out (by kernel_rfl)) (fun _ _ _ h => h) (Or.inl ⟨by rfl, ?_⟩) ?_ ?_
    rotate_left
    · intro w'
      go_simp
      with_reducible rfl
    rotate_left
    · simp only [Act.put, List.setIfInBounds_toArray, List.set_cons_zero, List.set_cons_succ, i64_w, i32_w]
      rfl
    refine pure_ (i := 2) (N := (some 54)) (v := ?_) (a' := ?_) #[true, true, true, false, false, false, false, false, false, false, false, false, false, false, false, false, false, false] rfl rfl (any_of HT_.out (by kernel_rfl)) (fun _ _ _ h => h) (Or.inl ⟨by rfl, ?_⟩) ?_ ?_
    rotate_left
    · intro w'
      go_simp
      with_reducible rfl
    rotate_left
    · simp only [Act.put, List.setIfInBounds_toArray, List.set_cons_zero, List.set_cons_succ, i64_w, i32_w]
      rfl
    refine pure_ (i := 4) (N := (some 56)) (v := ?_) (a' := ?_) #[true, true, true, false, true, false, false, false, false, false, false, false, false, false, false, false, false, false] rfl rfl (any_of HT_.out (by kernel_rfl)) (fun _ _ _ h => h) (Or.inl ⟨by rfl, ?_⟩) ?_ ?_
    rotate_left
    · intro w'
      go_simp
      with_reducible rfl
    rotate_left
    · simp only [Act.put, List.setIfInBounds_toArray, List.set_cons_zero, List.set_cons_succ, i64_w, i32_w]
      rfl
    refine pure_ (i := 5) (N := (some 57)) (v := ?_) (a' := ?_) #[true, true, true, false, true, true, false, false, false, false, false, false, false, false, false, false, false, false] rfl rfl (any_of HT_.out (by kernel_rfl)) (fun _ _ _ h => h) (Or.inl ⟨by rfl, ?_⟩) ?_ ?_
    rotate_left
    · intro w'
      go_simp
      with_reducible rfl
    rotate_left
    · simp only [Act.put, List.setIfInBounds_toArray, List.set_cons_zero, List.set_cons_succ, i64_w, i32_w]
      rfl
    refine pure_ (i := 6) (N := (some 58)) (v := ?_) (a' := ?_) #[true, true, true, false, true, true, true, false, false, false, false, false, false, false, false, false, false, false] rfl rfl (any_of HT_.out (by kernel_rfl)) (fun _ _ _ h => h) (Or.inl ⟨by rfl, ?_⟩) ?_ ?_
    rotate_left
    · intro w'
      go_simp
      with_reducible rfl
    rotate_left
    · simp only [Act.put, List.setIfInBounds_toArray, List.set_cons_zero, List.set_cons_succ, i64_w, i32_w]
      rfl
    refine pure_ (i := 7) (N := (some 59)) (v := ?_) (a' := ?_) #[true, true, true, false, true, true, true, true, false, false, false, false, false, false, false, false, false, false] rfl rfl (any_of HT_.out (by kernel_rfl)) (fun _ _ _ h => h) (Or.inl ⟨by rfl, ?_⟩) ?_ ?_
    rotate_left
    · intro w'
      go_simp
      with_reducible rfl
    rotate_left
    · simp only [Act.put, List.setIfInBounds_toArray, List.set_cons_zero, List.set_cons_succ, i64_w, i32_w]
      rfl
    refine pure_ (i := 9) (N := (some 61)) (v := ?_) (a' := ?_) #[true, true, true, false, true, true, true, true, false, true, false, false, false, false, false, false, false, false] rfl rfl (any_of HT_.out (by kernel_rfl)) (fun _ _ _ h => h) (Or.inl ⟨by rfl, ?_⟩) ?_ ?_
    rotate_left
    · intro w'
      go_simp
      with_reducible rfl
    rotate_left
    · simp only [Act.put, List.setIfInBounds_toArray, List.set_cons_zero, List.set_cons_succ, i64_w, i32_w]
      rfl
    refine pure_ (i := 13) (N := (some 65)) (v := ?_) (a' := ?_) #[true, true, true, false, true, true, true, true, false, true, false, false, false, true, false, false, false, false] rfl rfl (any_of HT_.out (by kernel_rfl)) (fun _ _ _ h => h) (Or.inl ⟨by rfl, ?_⟩) ?_ ?_
    rotate_left
    · intro w'
      go_simp
      with_reducible rfl
    rotate_left
    · simp only [Act.put, List.setIfInBounds_toArray, List.set_cons_zero, List.set_cons_succ, i64_w, i32_w]
      rfl
    refine take_ (i := 3) (N := (some 55)) (v := ?_) (a' := ?_) #[true, true, true, true, true, true, true, true, false, true, false, false, false, true, false, false, false, false] rfl rfl (take_ofW HT_.out HW_.out (by kernel_rfl)) (fun _ _ _ h => h) (Or.inl ⟨by rfl, ?_⟩) hHeld ?_ ?_
    rotate_left
    · rintro w' ⟨s0, s1⟩
      go_simp
      with_reducible rfl
    rotate_left
    · simp only [Act.put, List.setIfInBounds_toArray, List.set_cons_zero, List.set_cons_succ, i64_w, i32_w]
      rfl
    refine take_ (i := 8) (N := (some 60)) (v := ?_) (a' := ?_) #[true, true, true, true, true, true, true, true, true, true, false, false, false, true, false, false, false, false] rfl rfl (take_ofW HT_.out HW_.out (by kernel_rfl)) (fun _ _ _ h => h) (Or.inl ⟨by rfl, ?_⟩) hHeld ?_ ?_
    rotate_left
    · rintro w' ⟨s0, s1⟩
      go_simp
      with_reducible rfl
    rotate_left
    · simp only [Act.put, List.setIfInBounds_toArray, List.set_cons_zero, List.set_cons_succ, i64_w, i32_w]
      rfl
    refine pure_ (i := 10) (N := (some 62)) (v := ?_) (a' := ?_) #[true, true, true, true, true, true, true, true, true, true, true, false, false, true, false, false, false, false] rfl rfl (any_of HT_.out (by kernel_rfl)) (fun _ _ _ h => h) (Or.inl ⟨by rfl, ?_⟩) ?_ ?_
    rotate_left
    · intro w'
      go_simp
      with_reducible rfl
    rotate_left
    · simp only [Act.put, List.setIfInBounds_toArray, List.set_cons_zero, List.set_cons_succ, i64_w, i32_w]
      rfl
    refine pure_ (i := 11) (N := (some 63)) (v := ?_) (a' := ?_) #[true, true, true, true, true, true, true, true, true, true, true, true, false, true, false, false, false, false] rfl rfl (any_of HT_.out (by kernel_rfl)) (fun _ _ _ h => h) (Or.inl ⟨by rfl, ?_⟩) ?_ ?_
    rotate_left
    · intro w'
      go_simp
      with_reducible rfl
    rotate_left
    · simp only [Act.put, List.setIfInBounds_toArray, List.set_cons_zero, List.set_cons_succ, i64_w, i32_w]
      rfl
    refine take_ (i := 12) (N := (some 64)) (v := ?_) (a' := ?_) #[true, true, true, true, true, true, true, true, true, true, true, true, true, true, false, false, false, false] rfl rfl (take_ofW HT_.out HW_.out (by kernel_rfl)) (fun _ _ _ h => h) (Or.inl ⟨by rfl, ?_⟩) hHeld ?_ ?_
    rotate_left
    · rintro w' ⟨s0, s1⟩
      go_simp
      with_reducible rfl
    rotate_left
    · simp only [Act.put, List.setIfInBounds_toArray, List.set_cons_zero, List.set_cons_succ, i64_w, i32_w]
      rfl
    refine pure_ (i := 14) (N := (some 66)) (v := ?_) (a' := ?_) #[true, true, true, true, true, true, true, true, true, true, true, true, true, true, true, false, false, false] rfl rfl (any_of HT_.out (by kernel_rfl)) (fun _ _ _ h => h) (Or.inl ⟨by rfl, ?_⟩) ?_ ?_
    rotate_left
    · intro w'
      go_simp
      with_reducible rfl
    rotate_left
    · simp only [Act.put, List.setIfInBounds_toArray, List.set_cons_zero, List.set_cons_succ, i64_w, i32_w]
      rfl
    refine pure_ (i := 15) (N := (some 67)) (v := ?_) (a' := ?_) #[true, true, true, true, true, true, true, true, true, true, true, true, true, true, true, true, false, false] rfl rfl (any_of HT_.out (by kernel_rfl)) (fun _ _ _ h => h) (Or.inl ⟨by rfl, ?_⟩) ?_ ?_
    rotate_left
    · intro w'
      go_simp
      with_reducible rfl
    rotate_left
    · simp only [Act.put, List.setIfInBounds_toArray, List.set_cons_zero, List.set_cons_succ, i64_w, i32_w]
      rfl
    refine pure_ (i := 16) (N := (some 68)) (v := ?_) (a' := ?_) #[true, true, true, true, true, true, true, true, true, true, true, true, true, true, true, true, true, false] rfl rfl (any_of HT_.out (by kernel_rfl)) (fun _ _ _ h => h) (Or.inl ⟨by rfl, ?_⟩) ?_ ?_
    rotate_left
    · intro w'
      go_simp
      with_reducible rfl
    rotate_left
    · simp only [Act.put, List.setIfInBounds_toArray, List.set_cons_zero, List.set_cons_succ, i64_w, i32_w]
      rfl
    refine last_ (i := 17) (N := none) #[true, true, true, true, true, true, true, true, true, true, true, true, true, true, true, true, true, true] rfl rfl (one_of HT_.out (by kernel_rfl)) (by decide) (fun K hK => ?_)
    refine skip_ (w1 := ?_) (by rfl) rfl ?_ ?_
    rotate_left
    · go_simp
      rfl
    refine hK.out _ _ ?_
    clear hK K
    refine done_ (done_of HT_.out (by kernel_rfl)) ?_
    clear hmn
    go_wp2
    go_ret
    rw [← HR.out]
    have hli : ((filesOf d).set i { f.out with f1 := ys })[i]? = some { f.out with f1 := ys } := by rw [List.getElem?_set_self HIL.out]
    have hX9 := HX9.out
    have hlen : (filesOf d).length = ((filesOf d).set i { f.out with f1 := ys }).length := by rw [List.length_set]
    rw [hlen] at hX9
    have hR := hX9.put2 hli mn
    rw [List.set_set, filesOf, set_files (y := { f.out with f1 := ys, f2 := mn }) HA.out.srt HPs.out (fun x => { x with dat := x.dat.take n.toNat, syn := min x.syn n.toNat }) HFI.out (by
      have e1 : mn = ((min f.syn n.toNat : Nat) : Int) := by rw [← HMN.out]; split <;> omega
      rw [HYS.out, e1]
      rfl)] at hR
    have hcF := HC8.out.same (Chg.setCell w9 (p := ⟨g, i * 3 + 2, none⟩) HFg.out (.int .i64 mn))
    have hR2 := hR.wide (G := Gr F w (w9.setCell ⟨g, i * 3 + 2, none⟩ (.int .i64 mn))) (fun k hk => (HG67.out k hk).elim .inl (fun h => .inr ⟨h.1, by simpa [World.setCell] using h.2⟩)) (Gr.lt HI.out.lt hcF.size)
    exact RPost.of2 hR2 hcF (by simp [tick_last])
end
end Go.Proofs.Ytflajlnknimjaaa.Dk

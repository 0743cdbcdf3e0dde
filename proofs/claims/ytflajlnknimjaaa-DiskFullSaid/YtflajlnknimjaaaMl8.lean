/- Merged: RfA, Dk3P. -/
import Derived.Test.YtflajlnknimjaaaMl7
import Derived.Test.YtflajlnknimjaaaMl4
set_option linter.unusedVariables false
set_option linter.unusedSimpArgs false
/- The reference's Append. -/
namespace Go.Proofs.Ytflajlnknimjaaa.Dk
open Go.RowKit Go.Maps Go.Proofs.YtflajlnknimjaaaW.PrintWords Go.Proofs.YtflajlnknimjaaaW.PrintMore Go.Proofs.YtflajlnknimjaaaW.PrintLast Go.Proofs.Ytflajlnknimjaaa.Syn Go.Proofs.Ytflajlnknimjaaa.PDiskLoads
set_option linter.unusedVariables false
set_option linter.unusedSimpArgs false
attribute [local go_sem] max2_int min2_int max_two min_two

def rappT : Bool × List (List Nat × List Nat) := (true, [([], []), ([0], [0]), ([1], [1]), ([2], [2]), ([], []), ([], []), ([5], [5]), ([6], [6]), ([7], [7]), ([], []), ([8, 9], [8, 9]), ([10], [10]), ([11], [11]), ([12], [12]), ([], []), ([], []), ([15], [15]), ([16], [16]), ([14, 17], [14, 17]), ([13, 18, 13], [13, 18]), ([3, 4, 0, 1, 2, 3, 4, 5, 6, 7, 8, 9, 10, 11, 12, 13, 14, 15, 16, 17, 18, 19], [3, 4]), ([20, 0, 1, 2, 3, 4, 5, 6, 7, 8, 9, 10, 11, 12, 13, 14, 15, 16, 17, 18, 19], [20]), ([21, 19, 19, 0, 1, 2, 3, 4, 5, 6, 7, 8, 9, 10, 11, 12, 13, 14, 15, 16, 17, 18, 19], [19, 21])])
def rappTB : List Nat := [0, 1, 3, 7, 0, 0, 32, 96, 224, 0, 992, 2016, 4064, 8160, 0, 0, 32768, 98304, 245760, 524256, 1048575, 2097151, 4194303]
theorem rappT_tab : rtab .any (opsOf Try.f15 10) = rappT := by kernel_rfl
theorem rappT_bits : waitsOk rappT.2 rappTB = true := by kernel_rfl
def rappU : Bool × List (List Nat × List Nat) := (true, [([], []), ([0], [0]), ([1], [1]), ([2], [2]), ([], []), ([], []), ([5], [5]), ([6], [6]), ([7], [7]), ([], []), ([8, 9], [8, 9]), ([10], [10]), ([11], [11]), ([12], [12]), ([], []), ([13, 14, 13], [13, 14]), ([3, 4, 0, 1, 2, 3, 4, 5, 6, 7, 8, 9, 10, 11, 12, 13, 14, 15], [3, 4]), ([16, 0, 1, 2, 3, 4, 5, 6, 7, 8, 9, 10, 11, 12, 13, 14, 15], [16]), ([17, 15, 15, 0, 1, 2, 3, 4, 5, 6, 7, 8, 9, 10, 11, 12, 13, 14, 15], [15, 17])])
def rappUB : List Nat := [0, 1, 3, 7, 0, 0, 32, 96, 224, 0, 992, 2016, 4064, 8160, 0, 32736, 65535, 131071, 262143]
theorem rappU_tab : rtab .any (opsOf Try.f15 12) = rappU := by kernel_rfl
theorem rappU_bits : waitsOk rappU.2 rappUB = true := by kernel_rfl
section
variable {F : Nat → Prop} {p : Nat} {w w1 : World} {v : Value} {d : St}
set_option maxRecDepth 100000 in
set_option maxHeartbeats 2000000 in
theorem rappend_calls (nm : ByteArray) (A : Option Addr) (cp : Nat) (ys : List Int) (h : RefAt w F p d) (ok : d.Ok) (hs : Src F w A ys) (hy : ys.length ≤ 140737488351232) (hcp : ys.length ≤ cp) :
    Calls Try.prog 15 #[ptr p, .string nm, .slice A ys.length cp] w (RPost F p w (d.append nm ys)) := by
  have h' := h
  obtain ⟨v, hI⟩ := h
  have b2 := sb_cell hI.blk 2
  have b3 := sb_cell hI.blk 3
  have f3 := sb_free hI.blk 3
  simp at b2 b3
  have HI := Lib.hid hI
  have HA := Lib.hid ok
  have HH := Lib.hid h'
  have HS := Lib.hid hs
  have HCP := Lib.hid hcp
  clear hI h' hs
  generalize hr : d.append nm ys = r
  unfold St.append at hr
  by_cases hd : d.down = true
  · rw [if_pos hd] at hr
    rw [hd] at b2
    have HR := Lib.hid hr
    clear hr hd ok
    go_enter Try.func15, Try.ntmps15
    go_wp2
    go_ret
    rw [← HR.out]
    exact RPost.same HH.out 0
  rw [if_neg hd] at hr
  have hd' : d.down = false := by simpa using hd
  rw [hd'] at b2
  cases hp : pos nm d.fs with
  | none =>
    have hlk := pos_none.1 hp
    rw [hlk] at hr
    have HR := Lib.hid hr
    have HPs := Lib.hid hp
    clear hr hd hd' ok hp hlk
    go_enter Try.func15, Try.ntmps15
    go_wp2_with (go_at_call 37; refine (rat_none (by exact HI.out) (by exact HA.out) (by exact HPs.out)).mono ?_; rintro e w' ⟨rfl, rfl⟩)
    go_ret
    rw [← HR.out]
    exact RPost.same HH.out 0
  | some i =>
  obtain ⟨hi, hin⟩ := pos_some hp
  have hlk := pos_look ok.srt hp hi
  rw [hlk] at hr
  simp only at hr
  obtain ⟨f, hf⟩ : ∃ f, d.fs[i]? = some f := ⟨_, List.getElem?_eq_getElem hi⟩
  have HFI := Lib.hid hf
  have hdl : f.dat.length ≤ total d.fs := total_mem (List.mem_of_getElem? hf)
  have hdt := ok.tot
  have HPs := Lib.hid hp
  have hi0 : (0 : Int) ≤ (i : Int) := by omega
  have hill : ((i : Nat) : Int) < ((filesOf d).length : Int) := by have := pos_len hp; omega
  have hfsl : ((filesOf d).length : Int) ≤ 1048576 := by have := files_short ok; omega
  have hsz : sumD (filesOf d) = total d.fs := sumD_files d
  have HSZ := Lib.hid hsz
  have htn : (total d.fs : Int) ≤ 16777216 := by omega
  have hyn : (ys.length : Int) ≤ 140737488351232 := by omega
  have HDL : Hid (f.dat.length ≤ 1099511627776) := Lib.hid (by omega)
  have HDT := Lib.hid hdl
  have HYt := Lib.hid hdt
  clear hi hin hlk hf hp hsz hdl hdt
  by_cases hfull : 16777216 < ys.length + total d.fs
  · rw [if_pos hfull] at hr
    have HR := Lib.hid hr
    have t1 : decide ((16777216 : Int) - total d.fs < (ys.length : Int)) = true := decide_eq_true (by omega)
    clear hr hd hd' ok hfull
    go_enter Try.func15, Try.ntmps15
    go_wp2_with (first
      | (go_at_call 37; refine (rat_some (by exact HI.out) (by exact HA.out) (by exact HPs.out)).mono ?_; rintro e w' ⟨rfl, rfl⟩)
      | (go_at_call 17; refine (rsize_calls (by exact HI.out) (by exact (files_len HA.out).1) (by rw [HSZ.out]; have := HYt.out; omega)).mono ?_; rw [HSZ.out]; rintro e w' ⟨rfl, rfl⟩))
    go_ret
    rw [← HR.out]
    exact RPost.same HH.out 0
  rw [if_neg hfull] at hr
  have t1 : decide ((16777216 : Int) - total d.fs < (ys.length : Int)) = false := decide_eq_false (by omega)
  have HFull := Lib.hid hfull
  have HY : Hid (ys.length ≤ 140737488351232) := Lib.hid hy
  clear hfull hy
  have hbS : (w.setCell ⟨p, 3, none⟩ (.string nm)).heap[p]? = some (.cells #[v, .int .i64 d.armed, .bool d.down, .string nm] 29 (0, 0)) := by
    have h2 := sb_set HI.out.blk 3 (.string nm)
    simpa using h2
  have HRS := Lib.hid (HI.out.head hbS (Chg.setCell (F := (· = p)) w (p := ⟨p, 3, none⟩) rfl (.string nm)))
  clear hbS
  cases ht : (tick d).1 with
  | false =>
    rw [ht] at hr
    obtain ⟨ys2, hys2⟩ : ∃ ys2, ys2 = ys := ⟨_, rfl⟩
    have hr2 : ((0 : Int), { { (tick d).2 with last := nm } with fs := upd nm (fun x => { x with dat := x.dat ++ ys2 }) d.fs }) = r := by rw [← hr, hys2]; simp
    have HR := Lib.hid hr2
    have HT := Lib.hid ht
    have HY2 := Lib.hid hys2
    clear hr hr2 hd hd' ok ht hys2
    go_enter Try.func15, Try.ntmps15
    go_upto_region 12 with (first
      | (go_at_call 37; refine (rat_some (by exact HI.out) (by exact HA.out) (by exact HPs.out)).mono ?_; rintro e w' ⟨rfl, rfl⟩)
      | (go_at_call 17; refine (rsize_calls (by exact HI.out) (by exact (files_len HA.out).1) (by rw [HSZ.out]; have := HYt.out; omega)).mono ?_; rw [HSZ.out]; rintro e w' ⟨rfl, rfl⟩)
      | (go_at_call 38; refine (rtick_calls p _ _ nm d.armed d.down d rfl rfl HA.out.armed (by exact HRS.out.blk)).mono ?_; rintro e w1 ⟨rfl, hb1, hs1, hc1⟩; rw [HT.out]; have HX := Lib.hid (HRS.out.head hb1 hc1); have HC1 : Hid (Chg F w w1) := Lib.hid (((Chg.setCell (F := (· = p)) w (p := ⟨p, 3, none⟩) rfl (.string nm)).same hc1).mono (fun k hk => by rw [hk]; exact HI.out.fp)); clear hb1 hs1 hc1))
    have hX6 := HX.out.below (below_drew (Below.refl _ _))
    obtain ⟨g, c, A4, c4, hv, hlc, hFg, hgp, hl4, hF4, x0, x1, x2, hfz⟩ := hX6.at (file_at HFI.out)
    rw [hv] at hX6
    have c0 := sb_cell hX6.blk 0
    simp at c0
    replace c0 : w1.drew.cell? ⟨p, 0, none⟩ = some (.slice (some ⟨g, 0, none⟩) (filesOf d).length c) := c0
    replace x1 : w1.drew.cell? ⟨g, i * 3 + 1, none⟩ = some (.slice A4 f.dat.length c4) := x1
    have HX6 := Lib.hid hX6
    have HFg := Lib.hid hFg
    have HC6 : Hid (Chg F w w1.drew) := Lib.hid (HC1.out.same (Chg.drew _))
    have HGP := Lib.hid hgp
    have f1 := hfz 1
    have hC4 : Kd.C (Kd.int .u8) w1.drew A4 f.dat.length f.dat := Kd.F_now hF4
    have HC4 := Lib.hid hC4
    have HL4 : Hid (f.dat.length ≤ c4) := Lib.hid hl4
    clear hfz hX6 hl4 hF4 hlc x0 x2 hC4
    clear b2 b3 f3 t1
    refine start_ (n := 19) (S := fun w' => w'.cell? ⟨p, 0, none⟩ = some (.slice (some ⟨g, 0, none⟩) (filesOf d).length c) ∧ w'.cell? ⟨g, i * 3 + 1, none⟩ = some (.slice A4 f.dat.length c4)) (ds := [18]) #[false, false, false, false, false, false, false, false, false, false, false, false, false, false, false, false, false, false, false] (by kernel_rfl) rfl rfl ⟨c0, x1⟩ (fun hHeld => ?_)
    refine with_tabW rappU_tab rappU_bits (fun HT_ HW_ => ?_)
    generalize w1.drew = w6 at HX6 HC6 HC4 c0 x1 f1 hHeld ⊢
    refine pure_ (i := 0) (N := (some 51)) (v := ?_) (a' := ?_) #[true, false, false, false, false, false, false, false, false, false, false, false, false, false, false, false, false, false, false] rfl rfl (any_of HT_.out (by kernel_rfl)) (fun _ _ _ h => h) (Or.inl ⟨by rfl, ?_⟩) ?_ ?_
    rotate_left
    · intro w'
      go_simp
      with_reducible rfl
    rotate_left
    · simp only [Act.put, List.setIfInBounds_toArray, List.set_cons_zero, List.set_cons_succ, i64_w, i32_w]
      rfl
    refine pure_ (i := 1) (N := (some 52)) (v := ?_) (a' := ?_) #[true, true, false, false, false, false, false, false, false, false, false, false, false, false, false, false, false, false, false] rfl rfl (any_of HT_.out (by kernel_rfl)) (fun _ _ _ h => h) (Or.inl ⟨by rfl, ?_⟩) ?_ ?_
    rotate_left
    · intro w'
      go_simp
      with_reducible rfl
    rotate_left
    · simp only [Act.put, List.setIfInBounds_toArray, List.set_cons_zero, List.set_cons_succ, i64_w, i32_w]
      rfl
    refine pure_ (i := 2) (N := (some 53)) (v := ?_) (a' := ?_) #[true, true, true, false, false, false, false, false, false, false, false, false, false, false, false, false, false, false, false] rfl rfl (any_of HT_.out (by kernel_rfl)) (fun _ _ _ h => h) (Or.inl ⟨by rfl, ?_⟩) ?_ ?_
    rotate_left
    · intro w'
      go_simp
      with_reducible rfl
    rotate_left
    · simp only [Act.put, List.setIfInBounds_toArray, List.set_cons_zero, List.set_cons_succ, i64_w, i32_w]
      rfl
    refine pure_ (i := 4) (N := (some 55)) (v := ?_) (a' := ?_) #[true, true, true, false, true, false, false, false, false, false, false, false, false, false, false, false, false, false, false] rfl rfl (any_of HT_.out (by kernel_rfl)) (fun _ _ _ h => h) (Or.inl ⟨by rfl, ?_⟩) ?_ ?_
    rotate_left
    · intro w'
      go_simp
      with_reducible rfl
    rotate_left
    · simp only [Act.put, List.setIfInBounds_toArray, List.set_cons_zero, List.set_cons_succ, i64_w, i32_w]
      rfl
    refine pure_ (i := 5) (N := (some 56)) (v := ?_) (a' := ?_) #[true, true, true, false, true, true, false, false, false, false, false, false, false, false, false, false, false, false, false] rfl rfl (any_of HT_.out (by kernel_rfl)) (fun _ _ _ h => h) (Or.inl ⟨by rfl, ?_⟩) ?_ ?_
    rotate_left
    · intro w'
      go_simp
      with_reducible rfl
    rotate_left
    · simp only [Act.put, List.setIfInBounds_toArray, List.set_cons_zero, List.set_cons_succ, i64_w, i32_w]
      rfl
    refine pure_ (i := 6) (N := (some 57)) (v := ?_) (a' := ?_) #[true, true, true, false, true, true, true, false, false, false, false, false, false, false, false, false, false, false, false] rfl rfl (any_of HT_.out (by kernel_rfl)) (fun _ _ _ h => h) (Or.inl ⟨by rfl, ?_⟩) ?_ ?_
    rotate_left
    · intro w'
      go_simp
      with_reducible rfl
    rotate_left
    · simp only [Act.put, List.setIfInBounds_toArray, List.set_cons_zero, List.set_cons_succ, i64_w, i32_w]
      rfl
    refine pure_ (i := 7) (N := (some 58)) (v := ?_) (a' := ?_) #[true, true, true, false, true, true, true, true, false, false, false, false, false, false, false, false, false, false, false] rfl rfl (any_of HT_.out (by kernel_rfl)) (fun _ _ _ h => h) (Or.inl ⟨by rfl, ?_⟩) ?_ ?_
    rotate_left
    · intro w'
      go_simp
      with_reducible rfl
    rotate_left
    · simp only [Act.put, List.setIfInBounds_toArray, List.set_cons_zero, List.set_cons_succ, i64_w, i32_w]
      rfl
    refine pure_ (i := 9) (N := (some 60)) (v := ?_) (a' := ?_) #[true, true, true, false, true, true, true, true, false, true, false, false, false, false, false, false, false, false, false] rfl rfl (any_of HT_.out (by kernel_rfl)) (fun _ _ _ h => h) (Or.inl ⟨by rfl, ?_⟩) ?_ ?_
    rotate_left
    · intro w'
      go_simp
      with_reducible rfl
    rotate_left
    · simp only [Act.put, List.setIfInBounds_toArray, List.set_cons_zero, List.set_cons_succ, i64_w, i32_w]
      rfl
    refine pure_ (i := 14) (N := (some 65)) (v := ?_) (a' := ?_) #[true, true, true, false, true, true, true, true, false, true, false, false, false, false, true, false, false, false, false] rfl rfl (any_of HT_.out (by kernel_rfl)) (fun _ _ _ h => h) (Or.inl ⟨by rfl, ?_⟩) ?_ ?_
    rotate_left
    · intro w'
      go_simp
      with_reducible rfl
    rotate_left
    · simp only [Act.put, List.setIfInBounds_toArray, List.set_cons_zero, List.set_cons_succ, i64_w, i32_w]
      rfl
    refine take_ (i := 3) (N := (some 54)) (v := ?_) (a' := ?_) #[true, true, true, true, true, true, true, true, false, true, false, false, false, false, true, false, false, false, false] rfl rfl (take_ofW HT_.out HW_.out (by kernel_rfl)) (fun _ _ _ h => h) (Or.inl ⟨by rfl, ?_⟩) hHeld ?_ ?_
    rotate_left
    · rintro w' ⟨s0, s1⟩
      go_simp
      with_reducible rfl
    rotate_left
    · simp only [Act.put, List.setIfInBounds_toArray, List.set_cons_zero, List.set_cons_succ, i64_w, i32_w]
      rfl
    refine take_ (i := 8) (N := (some 59)) (v := ?_) (a' := ?_) #[true, true, true, true, true, true, true, true, true, true, false, false, false, false, true, false, false, false, false] rfl rfl (take_ofW HT_.out HW_.out (by kernel_rfl)) (fun _ _ _ h => h) (Or.inl ⟨by rfl, ?_⟩) hHeld ?_ ?_
    rotate_left
    · rintro w' ⟨s0, s1⟩
      go_simp
      with_reducible rfl
    rotate_left
    · simp only [Act.put, List.setIfInBounds_toArray, List.set_cons_zero, List.set_cons_succ, i64_w, i32_w]
      rfl
    refine pure_ (i := 10) (N := (some 61)) (v := ?_) (a' := ?_) #[true, true, true, true, true, true, true, true, true, true, true, false, false, false, true, false, false, false, false] rfl rfl (any_of HT_.out (by kernel_rfl)) (fun _ _ _ h => h) (Or.inl ⟨by rfl, ?_⟩) ?_ ?_
    rotate_left
    · intro w'
      go_simp
      with_reducible rfl
    rotate_left
    · simp only [Act.put, List.setIfInBounds_toArray, List.set_cons_zero, List.set_cons_succ, i64_w, i32_w]
      rfl
    refine pure_ (i := 11) (N := (some 62)) (v := ?_) (a' := ?_) #[true, true, true, true, true, true, true, true, true, true, true, true, false, false, true, false, false, false, false] rfl rfl (any_of HT_.out (by kernel_rfl)) (fun _ _ _ h => h) (Or.inl ⟨by rfl, ?_⟩) ?_ ?_
    rotate_left
    · intro w'
      go_simp
      with_reducible rfl
    rotate_left
    · simp only [Act.put, List.setIfInBounds_toArray, List.set_cons_zero, List.set_cons_succ, i64_w, i32_w]
      rfl
    refine take_ (i := 12) (N := (some 63)) (v := ?_) (a' := ?_) #[true, true, true, true, true, true, true, true, true, true, true, true, true, false, true, false, false, false, false] rfl rfl (take_ofW HT_.out HW_.out (by kernel_rfl)) (fun _ _ _ h => h) (Or.inl ⟨by rfl, ?_⟩) hHeld ?_ ?_
    rotate_left
    · rintro w' ⟨s0, s1⟩
      go_simp
      with_reducible rfl
    rotate_left
    · simp only [Act.put, List.setIfInBounds_toArray, List.set_cons_zero, List.set_cons_succ, i64_w, i32_w]
      rfl
    refine one_ (i := 13) (N := (some 64)) #[true, true, true, true, true, true, true, true, true, true, true, true, true, true, true, false, false, false, false] rfl rfl (one_of HT_.out (by kernel_rfl)) (by decide) (fun K hK => ?_)
    refine goes_ Try.func40 (by kernel_rfl) rfl #[.slice A4 f.dat.length c4] (by rfl) rfl rfl (by (try simp only [List.map_toArray, List.map_cons, List.map_nil]); rfl) ?_
    with_reducible refine (bytes_calls A4 c4 f.dat _ (by exact HC4.out) (by exact HL4.out) (by exact HDL.out)).mono ?_
    rintro e w7 ⟨v7, rfl, ho7, hb7⟩
    refine ⟨_, rfl, ?_⟩
    have d0 := pw_cell_below hb7 c0
    have d1 := pw_cell_below hb7 x1
    obtain ⟨A7, n7, c7, e7⟩ : ∃ A n c, v7 = .slice A n c := by
      obtain ⟨A, c, h⟩ := Kd.R_slice ho7
      exact ⟨A, _, c, h⟩
    have HO7 := Lib.hid ho7
    have HB7 := Lib.hid hb7
    have HC7 : Hid (Chg F w w7) := Lib.hid (HC6.out.same (Chg.of_below hb7))
    clear hb7 ho7
    refine hK.out _ _ ⟨d0, d1⟩ (fun hHeld => ?_)
    clear hK K
    refine norm_ (a' := ?_) ?_ ?_
    rotate_left
    · show Act.put _ (some 64) _ = _
      simp only [Act.put, List.setIfInBounds_toArray, List.set_cons_zero, List.set_cons_succ, i64_w, i32_w]
      rfl
    refine one_ (i := 15) (N := (some 66)) #[true, true, true, true, true, true, true, true, true, true, true, true, true, true, true, true, false, false, false] rfl rfl (one_of HT_.out (by kernel_rfl)) (by decide) (fun K hK => ?_)
    refine Kd.R_append_rows_step (Kd.int .u8) (w0 := w6) w6.heap.size (by rfl) (.tmp 64) (.tmp 65) 34 5 (.int .u8 0) 1 rfl Try.underlying34 info5 rfl (by decide) (by omega) v7 f.dat ys2 A ys.length cp (fun _ => True) (fun _ => False) rfl rfl HO7.out (by rw [HY2.out]; exact HS.out _ HC7.out) (fun _ _ h => h) (fun _ h => h.elim) (fun _ _ => trivial) HB7.out HB7.out.size (by have := HFull.out; have := HDT.out; omega) ?_
    intro v9 w9 ho9 hb9 _ _
    obtain ⟨A9, c9, e9, hc9, hF9⟩ := fresh_foot ho9
    subst e9
    have hg6 : g < w6.heap.size := HX6.out.lt g HFg.out
    have g0 := pw_cell_below hb9 c0
    have g1 := pw_cell_below hb9 x1
    have k1 : w9.frozen? ⟨g, i * 3 + 1, none⟩ = false := (hb9.frozen (p := ⟨g, i * 3 + 1, none⟩) hg6).trans f1
    have hX9 := (HX6.out.below hb9).wide (G := Gr F w6 w9) (fun _ h => .inl h) (Gr.lt HX6.out.lt hb9.size)
    have hX8 := hX9.put1 (file_at HFI.out) hc9 (Kd.F_mono hF9 (fun k hk => ⟨⟨.inr hk, fun e => by have := HX6.out.lt p HX6.out.fp; have := hk.1; omega⟩, fun e => by have := hk.1; omega⟩))
    have hc9' : Chg F w w9 := HC6.out.same (Chg.of_below hb9)
    have HX8 := Lib.hid hX8
    have HC9 := Lib.hid hc9'
    have HL9 := Lib.hid hc9
    clear hb9 ho9 hX9 hX8 hF9 hc9 hc9' hg6
    refine hK.out _ _ ⟨g0, g1⟩ (fun hHeld => ?_)
    clear hK K
    refine norm_ (a' := ?_) ?_ ?_
    rotate_left
    · show Act.put _ (some 66) _ = _
      simp only [Act.put, List.setIfInBounds_toArray, List.set_cons_zero, List.set_cons_succ, i64_w, i32_w]
      rfl
    refine pure_ (i := 16) (N := (some 67)) (v := ?_) (a' := ?_) #[true, true, true, true, true, true, true, true, true, true, true, true, true, true, true, true, true, false, false] rfl rfl (any_of HT_.out (by kernel_rfl)) (fun _ _ _ h => h) (Or.inl ⟨by rfl, ?_⟩) ?_ ?_
    rotate_left
    · intro w'
      go_simp
      with_reducible rfl
    rotate_left
    · simp only [Act.put, List.setIfInBounds_toArray, List.set_cons_zero, List.set_cons_succ, i64_w, i32_w]
      rfl
    refine pure_ (i := 17) (N := (some 68)) (v := ?_) (a' := ?_) #[true, true, true, true, true, true, true, true, true, true, true, true, true, true, true, true, true, true, false] rfl rfl (any_of HT_.out (by kernel_rfl)) (fun _ _ _ h => h) (Or.inl ⟨by rfl, ?_⟩) ?_ ?_
    rotate_left
    · intro w'
      go_simp
      with_reducible rfl
    rotate_left
    · simp only [Act.put, List.setIfInBounds_toArray, List.set_cons_zero, List.set_cons_succ, i64_w, i32_w]
      rfl
    refine last_ (i := 18) (N := none) #[true, true, true, true, true, true, true, true, true, true, true, true, true, true, true, true, true, true, true] rfl rfl (one_of HT_.out (by kernel_rfl)) (by decide) (fun K hK => ?_)
    refine skip_ (w1 := ?_) (by rfl) rfl ?_ ?_
    rotate_left
    · go_simp
      rfl
    refine hK.out _ _ ?_
    clear hK K
    refine done_ (done_of HT_.out (by kernel_rfl)) ?_
    go_wp2
    go_ret
    rw [← HR.out]
    have hcF := HC9.out.same (Chg.setCell w9 (p := ⟨g, i * 3 + 1, none⟩) HFg.out (.slice A9 (f.dat ++ ys2).length c9))
    have hR := HX8.out
    rw [filesOf, set_files (y := { f.out with f1 := f.dat ++ ys2 }) HA.out.srt HPs.out (fun x => { x with dat := x.dat ++ ys2 }) HFI.out rfl] at hR
    have hR2 := hR.wide (G := Gr F w (w9.setCell ⟨g, i * 3 + 1, none⟩ (.slice A9 (f.dat ++ ys2).length c9))) (fun k hk => hk.elim .inl (fun h => .inr ⟨Nat.le_trans HC6.out.size h.1, by simpa [World.setCell] using h.2⟩)) (Gr.lt HI.out.lt hcF.size)
    rw [List.length_append] at hR2 hcF
    exact RPost.of2 (d' := { (tick d).2 with last := nm }) hR2 hcF rfl
  | true =>
    rw [ht] at hr
    obtain ⟨ys2, hys2⟩ : ∃ ys2, ys2 = ys.take (ys.length / 2) := ⟨_, rfl⟩
    have hr2 : ((11 : Int), { { (tick d).2 with last := nm } with fs := upd nm (fun x => { x with dat := x.dat ++ ys2 }) d.fs }) = r := by rw [← hr, hys2]; simp
    obtain ⟨i0, hi0', _⟩ := info_parts info5
    have hsl := cut_to (P := Try.prog) 34 5 .i64 Try.underlying34 hi0' A ys.length cp ((ys.length : Int) / 2) (by omega) (by omega) hcp
    have hyl : ys2.length = ((ys.length : Int) / 2).toNat := by rw [hys2, List.length_take]; omega
    rw [← hyl] at hsl
    have hw2 : wrap64 ((ys.length : Int) / 2) = (ys.length : Int) / 2 := by unfold wrap64; omega
    have hCy : ∀ W, Chg F w W → Kd.C (Kd.int .u8) W A ys2.length ys2 := fun W hW => by
      have h1 := (HS.out.take (k := ys.length / 2) (by omega)) W hW
      rw [hys2]
      exact h1
    have HCy := Lib.hid hCy
    have HYl : Hid (ys2.length ≤ ys.length) := Lib.hid (by omega)
    have HR := Lib.hid hr2
    have HT := Lib.hid ht
    clear hr hr2 hd hd' ok ht hys2 hyl hi0' hCy
    go_enter Try.func15, Try.ntmps15
    go_upto_region 10 with (first
      | (go_at_call 37; refine (rat_some (by exact HI.out) (by exact HA.out) (by exact HPs.out)).mono ?_; rintro e w' ⟨rfl, rfl⟩)
      | (go_at_call 17; refine (rsize_calls (by exact HI.out) (by exact (files_len HA.out).1) (by rw [HSZ.out]; have := HYt.out; omega)).mono ?_; rw [HSZ.out]; rintro e w' ⟨rfl, rfl⟩)
      | (go_at_call 38; refine (rtick_calls p _ _ nm d.armed d.down d rfl rfl HA.out.armed (by exact HRS.out.blk)).mono ?_; rintro e w1 ⟨rfl, hb1, hs1, hc1⟩; rw [HT.out]; have HX := Lib.hid (HRS.out.head hb1 hc1); have HC1 : Hid (Chg F w w1) := Lib.hid (((Chg.setCell (F := (· = p)) w (p := ⟨p, 3, none⟩) rfl (.string nm)).same hc1).mono (fun k hk => by rw [hk]; exact HI.out.fp)); clear hb1 hs1 hc1))
    have hX6 := HX.out.below (below_drew (Below.refl _ _))
    obtain ⟨g, c, A4, c4, hv, hlc, hFg, hgp, hl4, hF4, x0, x1, x2, hfz⟩ := hX6.at (file_at HFI.out)
    rw [hv] at hX6
    have c0 := sb_cell hX6.blk 0
    simp at c0
    replace c0 : w1.drew.cell? ⟨p, 0, none⟩ = some (.slice (some ⟨g, 0, none⟩) (filesOf d).length c) := c0
    replace x1 : w1.drew.cell? ⟨g, i * 3 + 1, none⟩ = some (.slice A4 f.dat.length c4) := x1
    have HX6 := Lib.hid hX6
    have HFg := Lib.hid hFg
    have HC6 : Hid (Chg F w w1.drew) := Lib.hid (HC1.out.same (Chg.drew _))
    have HGP := Lib.hid hgp
    have f1 := hfz 1
    have hC4 : Kd.C (Kd.int .u8) w1.drew A4 f.dat.length f.dat := Kd.F_now hF4
    have HC4 := Lib.hid hC4
    have HL4 : Hid (f.dat.length ≤ c4) := Lib.hid hl4
    clear hfz hX6 hl4 hF4 hlc x0 x2 hC4
    clear b2 b3 f3 t1
    refine start_ (n := 23) (S := fun w' => w'.cell? ⟨p, 0, none⟩ = some (.slice (some ⟨g, 0, none⟩) (filesOf d).length c) ∧ w'.cell? ⟨g, i * 3 + 1, none⟩ = some (.slice A4 f.dat.length c4)) (ds := [22]) #[false, false, false, false, false, false, false, false, false, false, false, false, false, false, false, false, false, false, false, false, false, false, false] (by kernel_rfl) rfl rfl ⟨c0, x1⟩ (fun hHeld => ?_)
    refine with_tabW rappT_tab rappT_bits (fun HT_ HW_ => ?_)
    generalize w1.drew = w6 at HX6 HC6 HC4 c0 x1 f1 hHeld ⊢
    refine pure_ (i := 0) (N := (some 29)) (v := ?_) (a' := ?_) #[true, false, false, false, false, false, false, false, false, false, false, false, false, false, false, false, false, false, false, false, false, false, false] rfl rfl (any_of HT_.out (by kernel_rfl)) (fun _ _ _ h => h) (Or.inl ⟨by rfl, ?_⟩) ?_ ?_
    rotate_left
    · intro w'
      go_simp
      with_reducible rfl
    rotate_left
    · simp only [Act.put, List.setIfInBounds_toArray, List.set_cons_zero, List.set_cons_succ, i64_w, i32_w]
      rfl
    refine pure_ (i := 1) (N := (some 30)) (v := ?_) (a' := ?_) #[true, true, false, false, false, false, false, false, false, false, false, false, false, false, false, false, false, false, false, false, false, false, false] rfl rfl (any_of HT_.out (by kernel_rfl)) (fun _ _ _ h => h) (Or.inl ⟨by rfl, ?_⟩) ?_ ?_
    rotate_left
    · intro w'
      go_simp
      with_reducible rfl
    rotate_left
    · simp only [Act.put, List.setIfInBounds_toArray, List.set_cons_zero, List.set_cons_succ, i64_w, i32_w]
      rfl
    refine pure_ (i := 2) (N := (some 31)) (v := ?_) (a' := ?_) #[true, true, true, false, false, false, false, false, false, false, false, false, false, false, false, false, false, false, false, false, false, false, false] rfl rfl (any_of HT_.out (by kernel_rfl)) (fun _ _ _ h => h) (Or.inl ⟨by rfl, ?_⟩) ?_ ?_
    rotate_left
    · intro w'
      go_simp
      with_reducible rfl
    rotate_left
    · simp only [Act.put, List.setIfInBounds_toArray, List.set_cons_zero, List.set_cons_succ, i64_w, i32_w]
      rfl
    refine pure_ (i := 4) (N := (some 33)) (v := ?_) (a' := ?_) #[true, true, true, false, true, false, false, false, false, false, false, false, false, false, false, false, false, false, false, false, false, false, false] rfl rfl (any_of HT_.out (by kernel_rfl)) (fun _ _ _ h => h) (Or.inl ⟨by rfl, ?_⟩) ?_ ?_
    rotate_left
    · intro w'
      go_simp
      with_reducible rfl
    rotate_left
    · simp only [Act.put, List.setIfInBounds_toArray, List.set_cons_zero, List.set_cons_succ, i64_w, i32_w]
      rfl
    refine pure_ (i := 5) (N := (some 34)) (v := ?_) (a' := ?_) #[true, true, true, false, true, true, false, false, false, false, false, false, false, false, false, false, false, false, false, false, false, false, false] rfl rfl (any_of HT_.out (by kernel_rfl)) (fun _ _ _ h => h) (Or.inl ⟨by rfl, ?_⟩) ?_ ?_
    rotate_left
    · intro w'
      go_simp
      with_reducible rfl
    rotate_left
    · simp only [Act.put, List.setIfInBounds_toArray, List.set_cons_zero, List.set_cons_succ, i64_w, i32_w]
      rfl
    refine pure_ (i := 6) (N := (some 35)) (v := ?_) (a' := ?_) #[true, true, true, false, true, true, true, false, false, false, false, false, false, false, false, false, false, false, false, false, false, false, false] rfl rfl (any_of HT_.out (by kernel_rfl)) (fun _ _ _ h => h) (Or.inl ⟨by rfl, ?_⟩) ?_ ?_
    rotate_left
    · intro w'
      go_simp
      with_reducible rfl
    rotate_left
    · simp only [Act.put, List.setIfInBounds_toArray, List.set_cons_zero, List.set_cons_succ, i64_w, i32_w]
      rfl
    refine pure_ (i := 7) (N := (some 36)) (v := ?_) (a' := ?_) #[true, true, true, false, true, true, true, true, false, false, false, false, false, false, false, false, false, false, false, false, false, false, false] rfl rfl (any_of HT_.out (by kernel_rfl)) (fun _ _ _ h => h) (Or.inl ⟨by rfl, ?_⟩) ?_ ?_
    rotate_left
    · intro w'
      go_simp
      with_reducible rfl
    rotate_left
    · simp only [Act.put, List.setIfInBounds_toArray, List.set_cons_zero, List.set_cons_succ, i64_w, i32_w]
      rfl
    refine pure_ (i := 9) (N := (some 38)) (v := ?_) (a' := ?_) #[true, true, true, false, true, true, true, true, false, true, false, false, false, false, false, false, false, false, false, false, false, false, false] rfl rfl (any_of HT_.out (by kernel_rfl)) (fun _ _ _ h => h) (Or.inl ⟨by rfl, ?_⟩) ?_ ?_
    rotate_left
    · intro w'
      go_simp
      with_reducible rfl
    rotate_left
    · simp only [Act.put, List.setIfInBounds_toArray, List.set_cons_zero, List.set_cons_succ, i64_w, i32_w]
      rfl
    refine pure_ (i := 14) (N := (some 43)) (v := ?_) (a' := ?_) #[true, true, true, false, true, true, true, true, false, true, false, false, false, false, true, false, false, false, false, false, false, false, false] rfl rfl (any_of HT_.out (by kernel_rfl)) (fun _ _ _ h => h) (Or.inl ⟨by rfl, ?_⟩) ?_ ?_
    rotate_left
    · intro w'
      go_simp
      with_reducible rfl
    rotate_left
    · simp only [Act.put, List.setIfInBounds_toArray, List.set_cons_zero, List.set_cons_succ, i64_w, i32_w]
      rfl
    refine pure_ (i := 15) (N := (some 44)) (v := ?_) (a' := ?_) #[true, true, true, false, true, true, true, true, false, true, false, false, false, false, true, true, false, false, false, false, false, false, false] rfl rfl (any_of HT_.out (by kernel_rfl)) (fun _ _ _ h => h) (Or.inl ⟨by rfl, ?_⟩) ?_ ?_
    rotate_left
    · intro w'
      go_simp
      with_reducible rfl
    rotate_left
    · simp only [Act.put, List.setIfInBounds_toArray, List.set_cons_zero, List.set_cons_succ, i64_w, i32_w]
      rfl
    refine pure_ (i := 16) (N := (some 45)) (v := ?_) (a' := ?_) #[true, true, true, false, true, true, true, true, false, true, false, false, false, false, true, true, true, false, false, false, false, false, false] rfl rfl (any_of HT_.out (by kernel_rfl)) (fun _ _ _ h => h) (Or.inl ⟨by rfl, ?_⟩) ?_ ?_
    rotate_left
    · intro w'
      go_simp
      with_reducible rfl
    rotate_left
    · simp only [Act.put, List.setIfInBounds_toArray, List.set_cons_zero, List.set_cons_succ, i64_w, i32_w]
      rfl
    refine pure_ (i := 17) (N := (some 46)) (v := ?_) (a' := ?_) #[true, true, true, false, true, true, true, true, false, true, false, false, false, false, true, true, true, true, false, false, false, false, false] rfl rfl (any_of HT_.out (by kernel_rfl)) (fun _ _ _ h => h) (Or.inl ⟨by rfl, ?_⟩) ?_ ?_
    rotate_left
    · intro w'
      go_simp
      with_reducible rfl
    rotate_left
    · simp only [Act.put, List.setIfInBounds_toArray, List.set_cons_zero, List.set_cons_succ, i64_w, i32_w]
      rfl
    refine pure_ (i := 18) (N := (some 47)) (v := ?_) (a' := ?_) #[true, true, true, false, true, true, true, true, false, true, false, false, false, false, true, true, true, true, true, false, false, false, false] rfl rfl (any_of HT_.out (by kernel_rfl)) (fun _ _ _ h => h) (Or.inl ⟨by rfl, ?_⟩) ?_ ?_
    rotate_left
    · intro w'
      go_simp
      with_reducible rfl
    rotate_left
    · simp only [Act.put, List.setIfInBounds_toArray, List.set_cons_zero, List.set_cons_succ, i64_w, i32_w]
      rfl
    refine take_ (i := 3) (N := (some 32)) (v := ?_) (a' := ?_) #[true, true, true, true, true, true, true, true, false, true, false, false, false, false, true, true, true, true, true, false, false, false, false] rfl rfl (take_ofW HT_.out HW_.out (by kernel_rfl)) (fun _ _ _ h => h) (Or.inl ⟨by rfl, ?_⟩) hHeld ?_ ?_
    rotate_left
    · rintro w' ⟨s0, s1⟩
      go_simp
      with_reducible rfl
    rotate_left
    · simp only [Act.put, List.setIfInBounds_toArray, List.set_cons_zero, List.set_cons_succ, i64_w, i32_w]
      rfl
    refine take_ (i := 8) (N := (some 37)) (v := ?_) (a' := ?_) #[true, true, true, true, true, true, true, true, true, true, false, false, false, false, true, true, true, true, true, false, false, false, false] rfl rfl (take_ofW HT_.out HW_.out (by kernel_rfl)) (fun _ _ _ h => h) (Or.inl ⟨by rfl, ?_⟩) hHeld ?_ ?_
    rotate_left
    · rintro w' ⟨s0, s1⟩
      go_simp
      with_reducible rfl
    rotate_left
    · simp only [Act.put, List.setIfInBounds_toArray, List.set_cons_zero, List.set_cons_succ, i64_w, i32_w]
      rfl
    refine pure_ (i := 10) (N := (some 39)) (v := ?_) (a' := ?_) #[true, true, true, true, true, true, true, true, true, true, true, false, false, false, true, true, true, true, true, false, false, false, false] rfl rfl (any_of HT_.out (by kernel_rfl)) (fun _ _ _ h => h) (Or.inl ⟨by rfl, ?_⟩) ?_ ?_
    rotate_left
    · intro w'
      go_simp
      with_reducible rfl
    rotate_left
    · simp only [Act.put, List.setIfInBounds_toArray, List.set_cons_zero, List.set_cons_succ, i64_w, i32_w]
      rfl
    refine pure_ (i := 11) (N := (some 40)) (v := ?_) (a' := ?_) #[true, true, true, true, true, true, true, true, true, true, true, true, false, false, true, true, true, true, true, false, false, false, false] rfl rfl (any_of HT_.out (by kernel_rfl)) (fun _ _ _ h => h) (Or.inl ⟨by rfl, ?_⟩) ?_ ?_
    rotate_left
    · intro w'
      go_simp
      with_reducible rfl
    rotate_left
    · simp only [Act.put, List.setIfInBounds_toArray, List.set_cons_zero, List.set_cons_succ, i64_w, i32_w]
      rfl
    refine take_ (i := 12) (N := (some 41)) (v := ?_) (a' := ?_) #[true, true, true, true, true, true, true, true, true, true, true, true, true, false, true, true, true, true, true, false, false, false, false] rfl rfl (take_ofW HT_.out HW_.out (by kernel_rfl)) (fun _ _ _ h => h) (Or.inl ⟨by rfl, ?_⟩) hHeld ?_ ?_
    rotate_left
    · rintro w' ⟨s0, s1⟩
      go_simp
      with_reducible rfl
    rotate_left
    · simp only [Act.put, List.setIfInBounds_toArray, List.set_cons_zero, List.set_cons_succ, i64_w, i32_w]
      rfl
    refine one_ (i := 13) (N := (some 42)) #[true, true, true, true, true, true, true, true, true, true, true, true, true, true, true, true, true, true, true, false, false, false, false] rfl rfl (one_of HT_.out (by kernel_rfl)) (by decide) (fun K hK => ?_)
    refine goes_ Try.func40 (by kernel_rfl) rfl #[.slice A4 f.dat.length c4] (by rfl) rfl rfl (by (try simp only [List.map_toArray, List.map_cons, List.map_nil]); rfl) ?_
    with_reducible refine (bytes_calls A4 c4 f.dat _ (by exact HC4.out) (by exact HL4.out) (by exact HDL.out)).mono ?_
    rintro e w7 ⟨v7, rfl, ho7, hb7⟩
    refine ⟨_, rfl, ?_⟩
    have d0 := pw_cell_below hb7 c0
    have d1 := pw_cell_below hb7 x1
    obtain ⟨A7, n7, c7, e7⟩ : ∃ A n c, v7 = .slice A n c := by
      obtain ⟨A, c, h⟩ := Kd.R_slice ho7
      exact ⟨A, _, c, h⟩
    have HO7 := Lib.hid ho7
    have HB7 := Lib.hid hb7
    have HC7 : Hid (Chg F w w7) := Lib.hid (HC6.out.same (Chg.of_below hb7))
    clear hb7 ho7
    refine hK.out _ _ ⟨d0, d1⟩ (fun hHeld => ?_)
    clear hK K
    refine norm_ (a' := ?_) ?_ ?_
    rotate_left
    · show Act.put _ (some 42) _ = _
      simp only [Act.put, List.setIfInBounds_toArray, List.set_cons_zero, List.set_cons_succ, i64_w, i32_w]
      rfl
    refine one_ (i := 19) (N := (some 48)) #[true, true, true, true, true, true, true, true, true, true, true, true, true, true, true, true, true, true, true, true, false, false, false] rfl rfl (one_of HT_.out (by kernel_rfl)) (by decide) (fun K hK => ?_)
    refine Kd.R_append_rows_step (Kd.int .u8) (w0 := w6) w6.heap.size (by rfl) (.tmp 42) (.tmp 47) 34 5 (.int .u8 0) 1 rfl Try.underlying34 info5 rfl (by decide) (by omega) v7 f.dat ys2 A ys2.length cp (fun _ => True) (fun _ => False) rfl rfl HO7.out (HCy.out _ HC7.out) (fun _ _ h => h) (fun _ h => h.elim) (fun _ _ => trivial) HB7.out HB7.out.size (by have := HYl.out; have := HFull.out; have := HDT.out; omega) ?_
    intro v9 w9 ho9 hb9 _ _
    obtain ⟨A9, c9, e9, hc9, hF9⟩ := fresh_foot ho9
    subst e9
    have hg6 : g < w6.heap.size := HX6.out.lt g HFg.out
    have g0 := pw_cell_below hb9 c0
    have g1 := pw_cell_below hb9 x1
    have k1 : w9.frozen? ⟨g, i * 3 + 1, none⟩ = false := (hb9.frozen (p := ⟨g, i * 3 + 1, none⟩) hg6).trans f1
    have hX9 := (HX6.out.below hb9).wide (G := Gr F w6 w9) (fun _ h => .inl h) (Gr.lt HX6.out.lt hb9.size)
    have hX8 := hX9.put1 (file_at HFI.out) hc9 (Kd.F_mono hF9 (fun k hk => ⟨⟨.inr hk, fun e => by have := HX6.out.lt p HX6.out.fp; have := hk.1; omega⟩, fun e => by have := hk.1; omega⟩))
    have hc9' : Chg F w w9 := HC6.out.same (Chg.of_below hb9)
    have HX8 := Lib.hid hX8
    have HC9 := Lib.hid hc9'
    have HL9 := Lib.hid hc9
    clear hb9 ho9 hX9 hX8 hF9 hc9 hc9' hg6
    refine hK.out _ _ ⟨g0, g1⟩ (fun hHeld => ?_)
    clear hK K
    refine norm_ (a' := ?_) ?_ ?_
    rotate_left
    · show Act.put _ (some 48) _ = _
      simp only [Act.put, List.setIfInBounds_toArray, List.set_cons_zero, List.set_cons_succ, i64_w, i32_w]
      rfl
    refine pure_ (i := 20) (N := (some 49)) (v := ?_) (a' := ?_) #[true, true, true, true, true, true, true, true, true, true, true, true, true, true, true, true, true, true, true, true, true, false, false] rfl rfl (any_of HT_.out (by kernel_rfl)) (fun _ _ _ h => h) (Or.inl ⟨by rfl, ?_⟩) ?_ ?_
    rotate_left
    · intro w'
      go_simp
      with_reducible rfl
    rotate_left
    · simp only [Act.put, List.setIfInBounds_toArray, List.set_cons_zero, List.set_cons_succ, i64_w, i32_w]
      rfl
    refine pure_ (i := 21) (N := (some 50)) (v := ?_) (a' := ?_) #[true, true, true, true, true, true, true, true, true, true, true, true, true, true, true, true, true, true, true, true, true, true, false] rfl rfl (any_of HT_.out (by kernel_rfl)) (fun _ _ _ h => h) (Or.inl ⟨by rfl, ?_⟩) ?_ ?_
    rotate_left
    · intro w'
      go_simp
      with_reducible rfl
    rotate_left
    · simp only [Act.put, List.setIfInBounds_toArray, List.set_cons_zero, List.set_cons_succ, i64_w, i32_w]
      rfl
    refine last_ (i := 22) (N := none) #[true, true, true, true, true, true, true, true, true, true, true, true, true, true, true, true, true, true, true, true, true, true, true] rfl rfl (one_of HT_.out (by kernel_rfl)) (by decide) (fun K hK => ?_)
    refine skip_ (w1 := ?_) (by rfl) rfl ?_ ?_
    rotate_left
    · go_simp
      rfl
    refine hK.out _ _ ?_
    clear hK K
    refine done_ (done_of HT_.out (by kernel_rfl)) ?_
    go_wp2
    go_ret
    rw [← HR.out]
    have hcF := HC9.out.same (Chg.setCell w9 (p := ⟨g, i * 3 + 1, none⟩) HFg.out (.slice A9 (f.dat ++ ys2).length c9))
    have hR := HX8.out
    rw [filesOf, set_files (y := { f.out with f1 := f.dat ++ ys2 }) HA.out.srt HPs.out (fun x => { x with dat := x.dat ++ ys2 }) HFI.out rfl] at hR
    have hR2 := hR.wide (G := Gr F w (w9.setCell ⟨g, i * 3 + 1, none⟩ (.slice A9 (f.dat ++ ys2).length c9))) (fun k hk => hk.elim .inl (fun h => .inr ⟨Nat.le_trans HC6.out.size h.1, by simpa [World.setCell] using h.2⟩)) (Gr.lt HI.out.lt hcF.size)
    rw [List.length_append] at hR2 hcF
    exact RPost.of2 (d' := { (tick d).2 with last := nm }) hR2 hcF rfl
end
end Go.Proofs.Ytflajlnknimjaaa.Dk

/- What a crash leaves, in plain words: for DiskDurable. -/
namespace Go.Proofs.Ytflajlnknimjaaa.Dk
open Go.RowKit Go.Maps Go.Proofs.YtflajlnknimjaaaW.PrintWords Go.Proofs.YtflajlnknimjaaaW.PrintMore Go.Proofs.Ytflajlnknimjaaa.Syn Go.Proofs.Ytflajlnknimjaaa.PDiskLoads

theorem kept_in {last : ByteArray} {keep : Int} {x : Fl} (h : x.syn ≤ x.dat.length) : x.syn ≤ kept last keep x ∧ kept last keep x ≤ x.dat.length ∧ ((kept last keep x : Nat) : Int) - x.syn ≤ max keep 0 := by
  unfold kept
  split
  · omega
  · omega
theorem crash_fs (d : St) (keep : Int) : (d.crash keep).fs = d.fs.map fun x => { x with dat := x.dat.take (kept d.last keep x), syn := kept d.last keep x } := rfl
theorem crash_len (d : St) (keep : Int) : (filesOf (d.crash keep)).length = (filesOf d).length := by simp [filesOf, crash_fs]
/-- The i-th file, ahead of a crash and behind it. -/
theorem crash_at {d : St} (ok : d.Ok) (keep : Int) {i : Nat} (h : i < (filesOf d).length) (h' : i < (filesOf (d.crash keep)).length) :
    ∃ x ∈ d.fs, d.fs[i]? = some x ∧ (filesOf d)[i] = ⟨x.nm, x.dat, x.syn⟩ ∧ (filesOf (d.crash keep))[i] = ⟨x.nm, x.dat.take (kept d.last keep x), kept d.last keep x⟩ ∧ x.syn ≤ kept d.last keep x ∧ kept d.last keep x ≤ x.dat.length ∧ ((kept d.last keep x : Nat) : Int) - x.syn ≤ max keep 0 ∧ x.dat.length ≤ 16777216 := by
  have hi : i < d.fs.length := by simpa [filesOf] using h
  have hm := List.getElem_mem hi
  obtain ⟨k1, k2, k3⟩ := kept_in (last := d.last) (keep := keep) (ok.syn _ hm)
  refine ⟨d.fs[i], hm, List.getElem?_eq_getElem hi, ?_, ?_, k1, k2, k3, Nat.le_trans (total_mem hm) ok.tot⟩
  · simp [filesOf, Fl.out]
  · simp [filesOf, Fl.out, crash_fs]
def more (d : St) (keep : Int) (k : Nat) : Nat := (d.fs.take k).countP fun x => decide (x.syn < kept d.last keep x)
theorem more_succ {d : St} {keep : Int} {k : Nat} {x : Fl} (h : d.fs[k]? = some x) : more d keep (k + 1) = more d keep k + if x.syn < kept d.last keep x then 1 else 0 := by
  obtain ⟨hk, rfl⟩ := List.getElem?_eq_some_iff.1 h
  unfold more
  rw [List.take_succ_eq_append_getElem hk, List.countP_append]
  simp [List.countP_cons]
theorem more_le {d : St} (ok : d.Ok) (keep : Int) (k : Nat) : more d keep k ≤ 1 := by
  unfold more
  have key : ∀ l : List Fl, Srt Fl.nm l → l.countP (fun x => decide (x.syn < kept d.last keep x)) ≤ 1 := by
    intro l
    induction l with
    | nil => intro _; simp
    | cons y r ih =>
      intro hs
      have h' := List.pairwise_cons.1 hs
      rw [List.countP_cons]
      by_cases hy : y.nm = d.last
      · have hz : r.countP (fun x => decide (x.syn < kept d.last keep x)) = 0 := by
          rw [List.countP_eq_zero]
          intro z hz
          have hne : z.nm ≠ d.last := fun e => before_ne (h'.1 z hz) (hy.trans e.symm)
          simp [kept, hne]
        rw [hz]
        split <;> omega
      · have : ¬ y.syn < kept d.last keep y := by simp [kept, hy]
        simp only [this, decide_false]
        exact ih h'.2
  refine key _ (List.Pairwise.sublist (List.take_sublist _ _) ok.srt)
theorem crash_twice {d : St} (ok : d.Ok) (keep again : Int) : filesOf ((d.crash keep).crash again) = filesOf (d.crash keep) := by
  unfold filesOf
  rw [crash_fs (d.crash keep)]
  rw [List.map_map]
  refine List.map_congr_left fun y hy => ?_
  rw [crash_fs] at hy
  obtain ⟨x, hx, rfl⟩ := List.mem_map.1 hy
  obtain ⟨k1, k2, k3⟩ := kept_in (last := d.last) (keep := keep) (ok.syn _ hx)
  have hl : (x.dat.take (kept d.last keep x)).length = kept d.last keep x := by rw [List.length_take]; omega
  have e : kept (d.crash keep).last again { x with dat := x.dat.take (kept d.last keep x), syn := kept d.last keep x } = kept d.last keep x := by
    have h := kept_in (last := (d.crash keep).last) (keep := again) (x := { x with dat := x.dat.take (kept d.last keep x), syn := kept d.last keep x }) (by show kept d.last keep x ≤ (x.dat.take (kept d.last keep x)).length; omega)
    obtain ⟨h1, h2, _⟩ := h
    simp only at h1 h2
    omega
  simp only [Function.comp_apply, e]
  rw [List.take_of_length_le (by omega)]
end Go.Proofs.Ytflajlnknimjaaa.Dk

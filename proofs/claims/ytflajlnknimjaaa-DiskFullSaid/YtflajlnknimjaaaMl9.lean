/- Merged: RfK, RfL, RfQ, RfB. -/
import Derived.Test.YtflajlnknimjaaaMl8
import Derived.Deep.QuietTactic
import Derived.BigQuiet
set_option linter.unusedVariables false
set_option linter.unusedSimpArgs false
/- The reference's Crash. -/
namespace Go.Proofs.Ytflajlnknimjaaa.Dk
open Go.RowKit Go.Maps Go.Proofs.YtflajlnknimjaaaW.PrintWords Go.Proofs.YtflajlnknimjaaaW.PrintMore Go.Proofs.YtflajlnknimjaaaW.PrintLast Go.Proofs.Ytflajlnknimjaaa.Syn Go.Proofs.Ytflajlnknimjaaa.PDiskLoads
set_option linter.unusedVariables false
set_option linter.unusedSimpArgs false
attribute [local go_sem] max2_int min2_int max_two min_two

def rcraT : Bool × List (List Nat × List Nat) := (true, [([], []), ([0], [0]), ([1], [1]), ([2], [2]), ([], []), ([], []), ([5], [5]), ([6], [6]), ([7], [7]), ([], []), ([8, 9], [8, 9]), ([10], [10]), ([11], [11]), ([], []), ([12, 13], [12, 13]), ([14], [14]), ([3, 4, 0, 1, 2, 3, 4, 5, 6, 7, 8, 9, 10, 11, 12, 13, 14, 15], [3, 4]), ([16, 0, 1, 2, 3, 4, 5, 6, 7, 8, 9, 10, 11, 12, 13, 14, 15], [16]), ([17, 15, 15, 0, 1, 2, 3, 4, 5, 6, 7, 8, 9, 10, 11, 12, 13, 14, 15], [15, 17])])
def rcraTB : List Nat := [0, 1, 3, 7, 0, 0, 32, 96, 224, 0, 992, 2016, 4064, 0, 16352, 32736, 65535, 131071, 262143]
theorem rcraT_tab : rtab .any (opsOf Try.f54 6) = rcraT := by kernel_rfl
theorem rcraT_bits : waitsOk rcraT.2 rcraTB = true := by kernel_rfl
/-- The first k files crashed. -/
def crk (fs : List Fl) (g : Fl → Fl) (k : Nat) : List Fl := (fs.take k).map g ++ fs.drop k
theorem crk_len (fs : List Fl) (g : Fl → Fl) {k : Nat} (hk : k ≤ fs.length) : (crk fs g k).length = fs.length := by
  simp [crk]
  omega
theorem crk_at {fs : List Fl} {g : Fl → Fl} {k : Nat} (hk : k < fs.length) : (crk fs g k)[k]? = some fs[k] := by
  unfold crk
  rw [List.getElem?_append_right (by simp; omega)]
  simp [Nat.min_eq_left (Nat.le_of_lt hk), List.getElem?_drop, hk]
theorem crk_set {fs : List Fl} {g : Fl → Fl} {k : Nat} (hk : k < fs.length) : (crk fs g k).set k (g fs[k]) = crk fs g (k + 1) := by
  have hl : ((fs.take k).map g).length = k := by simp; omega
  unfold crk
  rw [List.set_append_right _ _ (by omega), hl, Nat.sub_self, List.drop_eq_getElem_cons hk, List.set_cons_zero, List.take_succ_eq_append_getElem hk, List.map_append, List.append_assoc]
  rfl
section
variable {F : Nat → Prop} {p : Nat} {w w1 : World} {v : Value} {d : St}
theorem RefIs.put2s {g c i n : Nat} {l : List SF} {f : SF} {ar : Nat} {dn : Bool} {la : ByteArray} (h : RefIs w F p (.slice (some ⟨g, 0, none⟩) n c) (l.set i f) ar dn la) (hi : i < l.length) (hn : n = l.length) (s : Int) :
    RefIs (w.setCell ⟨g, i * 3 + 2, none⟩ (.int .i64 s)) F p (.slice (some ⟨g, 0, none⟩) n c) (l.set i { f with f2 := s }) ar dn la := by
  have e : n = (l.set i f).length := by rw [List.length_set, hn]
  rw [e] at h
  have h1 := h.put2 (List.getElem?_set_self hi) s
  rw [List.set_set, ← e] at h1
  exact h1
set_option maxRecDepth 100000 in
set_option maxHeartbeats 2000000 in
theorem rcrash_calls (keep : Int) (h : RefAt w F p d) (ok : d.Ok) :
    Calls Try.prog 54 #[ptr p, .int .i64 keep] w fun e w' => e = .returned (.tuple #[]) ∧ RefAt w' (Gr F w w') p (d.crash keep) ∧ Chg F w w' := by
  obtain ⟨v, hI⟩ := h
  obtain ⟨A, c, hv, hAc, -⟩ := hI.reads
  have HI := Lib.hid hI
  have HA := Lib.hid ok
  have HV := Lib.hid hv
  have hfl : (filesOf d).length = d.fs.length := by simp [filesOf]
  have hcnt := ok.cnt
  obtain ⟨n, hn⟩ : ∃ n, n = d.fs.length := ⟨_, rfl⟩
  rw [hfl, ← hn] at hv
  have hn2 : (n : Int) ≤ 256 := by omega
  have HN := Lib.hid hn
  have HVn := Lib.hid hv
  obtain ⟨gg, hgg⟩ : ∃ gg : Fl → Fl, gg = fun x => { x with dat := x.dat.take (kept d.last keep x), syn := kept d.last keep x } := ⟨_, rfl⟩
  have HGG := Lib.hid hgg
  obtain ⟨L, hL⟩ : ∃ L, L = crk d.fs gg := ⟨_, rfl⟩
  have HL := Lib.hid hL
  have hI0 : RefIs w F p v ((L 0).map Fl.out) d.armed d.down d.last := by
    rw [hL]
    simpa [crk, filesOf] using hI
  have HI0 := Lib.hid hI0
  clear hI hv hAc hfl hcnt hn hgg hL hI0 ok
  go_enter Try.func54, Try.ntmps54
  go_wp2
  go_loopw [4] (fun v4 wr => ∃ (k : Nat) (G : Nat → Prop), k ≤ n ∧ v4 = .int .i64 k ∧ Hid (RefIs wr G p v ((L k).map Fl.out) d.armed d.down d.last) ∧ Hid (∀ k, G k → Gr F w wr k) ∧ Hid (Chg F w wr)) (fun v4 _ => n - (intOf v4).toNat)
  case atStart => exact ⟨0, F, Nat.zero_le _, rfl, HI0, Lib.hid (fun k hk => .inl hk), Lib.hid (Chg.refl _ _)⟩
  case round =>
    obtain ⟨k, G, hk, rfl, HR, HG, HC⟩ := hrel
    have b0 := sb_cell HR.out.blk 0
    have b3 := sb_cell HR.out.blk 3
    simp at b0 b3
    rw [HVn.out] at b0
    by_cases hlt : k < n
    · have hkl : k < d.fs.length := by rw [← HN.out]; exact hlt
      obtain ⟨f, hf⟩ : ∃ f, f = d.fs[k] := ⟨_, rfl⟩
      have hfm : f ∈ d.fs := by rw [hf]; exact List.getElem_mem hkl
      have hkin := kept_in (last := d.last) (keep := keep) (HA.out.syn f hfm)
      have hdl : f.dat.length ≤ 16777216 := Nat.le_trans (total_mem hfm) HA.out.tot
      have hLk : (L k)[k]? = some f := by rw [HL.out, hf]; exact crk_at hkl
      have hfo : ((L k).map Fl.out)[k]? = some f.out := by rw [List.getElem?_map, hLk]; rfl
      have hLs : ((L k).map Fl.out).set k ⟨f.nm, f.dat.take (kept d.last keep f), (kept d.last keep f : Nat)⟩ = (L (k + 1)).map Fl.out := by
        have h1 : (L k).set k (gg f) = L (k + 1) := by rw [HL.out, hf]; exact crk_set hkl
        rw [← h1, List.map_set]
        congr 1
        rw [HGG.out]
        rfl
      have hkd : (kept d.last keep f : Int) = if f.nm = d.last then (f.syn : Int) + (if (f.dat.length : Int) - f.syn < (if keep < 0 then 0 else keep) then (f.dat.length : Int) - f.syn else (if keep < 0 then 0 else keep)) else (f.syn : Int) := by
        have := HA.out.syn f hfm
        unfold kept
        by_cases e : f.nm = d.last
        · rw [if_pos e, if_pos e]
          split <;> split <;> omega
        · rw [if_neg e, if_neg e]
      have hsy := HA.out.syn f hfm
      obtain ⟨g, c5, A4, c4, hv5, hlc, hFg, hgp, hl4, hF4, x0, x1, x2, hfz⟩ := HR.out.at hfo
      rw [HVn.out] at hv5
      have hA : A = some ⟨g, 0, none⟩ ∧ c = c5 := by injection hv5 with e1 _ e2; exact ⟨e1, e2⟩
      obtain ⟨rfl, rfl⟩ := hA
      obtain ⟨kp, hkp⟩ : ∃ kp, kp = kept d.last keep f := ⟨_, rfl⟩
      rw [← hkp] at hkin hLs hkd
      clear hkp hf hfm hLk hv5
      obtain ⟨nm, dat, syn⟩ := f
      simp only at hkin hdl hLs hkd hsy
      have hlk2 : k < ((L k).map Fl.out).length := (List.getElem?_eq_some_iff.1 hfo).1
      have HLK2 := Lib.hid hlk2
      clear hlk2
      obtain ⟨ys, hys⟩ : ∃ ys, ys = dat.take kp := ⟨_, rfl⟩
      have hyl : ys.length = kp := by rw [hys, List.length_take]; omega
      rw [← hys] at hLs
      have hC4t : Kd.C (Kd.int .u8) wr A4 kp (dat.take kp) := C_take (Kd.F_now hF4) hkin.2.1
      rw [← hys] at hC4t
      obtain ⟨i0, hi0', _⟩ := info_parts info5
      have hsl := cut_to (P := Try.prog) 34 5 .i64 Try.underlying34 hi0' A4 dat.length c4 (kp : Int) (by omega) (by omega) hl4
      rw [Int.toNat_natCast] at hsl
      subst hyl
      have HSL := Lib.hid hsl
      have HC4 := Lib.hid hC4t
      clear hys hC4t hsl hi0'
      replace x0 : wr.cell? ⟨g, k * 3, none⟩ = some (.string nm) := x0
      replace x1 : wr.cell? ⟨g, k * 3 + 1, none⟩ = some (.slice A4 dat.length c4) := x1
      replace x2 : wr.cell? ⟨g, k * 3 + 2, none⟩ = some (.int .i64 syn) := x2
      have hl4' : dat.length ≤ c4 := hl4
      have HFO := Lib.hid hfo
      have HLS := Lib.hid hLs
      have HKD := Lib.hid hkd
      have HFg := Lib.hid hFg
      have HGP := Lib.hid hgp
      have HL4 := Lib.hid hl4'
      have f1 := hfz 1
      have f2 := hfz 2
      have HKI := Lib.hid hkin
      have hkp1 : (ys.length : Int) ≤ (dat.length : Int) := by omega
      have hsd : (syn : Int) ≤ (dat.length : Int) := by omega
      have hdn : (dat.length : Int) ≤ 16777216 := by omega
      have HSY := Lib.hid hsy
      have HHDL := Lib.hid hdl
      clear hfo hLs hkd hFg hgp hl4 hl4' hF4 hfz hkin hsy hdl hlc
      go_upto_region 4 with fail
      by_cases e : nm = d.last
      · have t1 : (nm.toList == d.last.toList) = true := by rw [tl_beq]; exact decide_eq_true e
        have hkd := HKD.out
        rw [if_pos e] at hkd
        clear e
        go_quiet (fail)
        obtain ⟨mx, hmx⟩ : ∃ mx : Int, (if keep < 0 then 0 else keep) = mx := ⟨_, rfl⟩
        rw [hmx] at hkd
        obtain ⟨mn, hmn⟩ : ∃ mn : Int, (if (dat.length : Int) - syn < mx then (dat.length : Int) - syn else mx) = mn := ⟨_, rfl⟩
        rw [hmn] at hkd
        have hks : (syn : Int) + mn = (ys.length : Int) := hkd.symm
        have hmn1 : -16777216 ≤ mn := by omega
        have hmn2 : mn ≤ 16777216 := by omega
        clear hkd t1 x0 b3
        go_upto_region 6 with fail
        clear hmx hmn hks hmn1 hmn2
        obtain ⟨w5, hw5⟩ : ∃ x, x = wr.drewN nq := ⟨_, rfl⟩
        have hb5 : Below wr.heap.size wr w5.drew := by rw [hw5]; exact below_drew (pw_below_drewN (Below.refl _ _) _)
        have hgw : g < wr.heap.size := HR.out.lt g HFg.out
        have c0 : w5.drew.cell? ⟨p, 0, none⟩ = some (.slice (some ⟨g, 0, none⟩) n c) := pw_cell_below hb5 b0
        have y1 : w5.drew.cell? ⟨g, k * 3 + 1, none⟩ = some (.slice A4 dat.length c4) := pw_cell_below hb5 x1
        have y2 := pw_cell_below hb5 x2
        have g1 : w5.drew.frozen? ⟨g, k * 3 + 1, none⟩ = false := (hb5.frozen (p := ⟨g, k * 3 + 1, none⟩) hgw).trans f1
        have g2 : w5.drew.frozen? ⟨g, k * 3 + 2, none⟩ = false := (hb5.frozen (p := ⟨g, k * 3 + 2, none⟩) hgw).trans f2
        have HX6 := Lib.hid (HR.out.below hb5)
        have HC6 : Hid (Chg F w w5.drew) := Lib.hid (HC.out.same (Chg.of_below hb5))
        have HC46 := Lib.hid (Kd.C_below HC4.out hb5)
        have HY2 := Lib.hid y2
        have HS5 : Hid (wr.heap.size ≤ w5.drew.heap.size) := Lib.hid hb5.size
        have hsl := HSL.out
        have HYL : Hid (ys.length ≤ c4) := Lib.hid (by have := HL4.out; omega)
        have HYL2 : Hid (ys.length ≤ 1099511627776) := Lib.hid (by omega)
        rw [← hw5]
        clear hw5 hb5 hgw b0 x1 x2 f1 f2 y2
        refine start_ (n := 19) (S := fun w' => w'.cell? ⟨p, 0, none⟩ = some (.slice (some ⟨g, 0, none⟩) n c) ∧ w'.cell? ⟨g, k * 3 + 1, none⟩ = some (.slice A4 dat.length c4)) (ds := [18]) #[false, false, false, false, false, false, false, false, false, false, false, false, false, false, false, false, false, false, false] (by kernel_rfl) rfl rfl ⟨c0, y1⟩ (fun hHeld => ?_)
        refine with_tabW rcraT_tab rcraT_bits (fun HT_ HW_ => ?_)
        generalize w5.drew = w6 at HX6 HC6 HC46 HY2 HS5 c0 y1 g1 g2 hHeld ⊢
        refine pure_ (i := 0) (N := (some 52)) (v := ?_) (a' := ?_) #[true, false, false, false, false, false, false, false, false, false, false, false, false, false, false, false, false, false, false] rfl rfl (any_of HT_.out (by kernel_rfl)) (fun _ _ _ h => h) (Or.inl ⟨by rfl, ?_⟩) ?_ ?_
        rotate_left
        · intro w'
          go_simp
          with_reducible rfl
        rotate_left
        · simp only [Act.put, List.setIfInBounds_toArray, List.set_cons_zero, List.set_cons_succ, i64_w, i32_w]
          rfl
        refine pure_ (i := 1) (N := (some 53)) (v := ?_) (a' := ?_) #[true, true, false, false, false, false, false, false, false, false, false, false, false, false, false, false, false, false, false] rfl rfl (any_of HT_.out (by kernel_rfl)) (fun _ _ _ h => h) (Or.inl ⟨by rfl, ?_⟩) ?_ ?_
        rotate_left
        · intro w'
          go_simp
          with_reducible rfl
        rotate_left
        · simp only [Act.put, List.setIfInBounds_toArray, List.set_cons_zero, List.set_cons_succ, i64_w, i32_w]
          rfl
        refine pure_ (i := 2) (N := (some 54)) (v := ?_) (a' := ?_) #[true, true, true, false, false, false, false, false, false, false, false, false, false, false, false, false, false, false, false] rfl rfl (any_of HT_.out (by kernel_rfl)) (fun _ _ _ h => h) (Or.inl ⟨by rfl, ?_⟩) ?_ ?_
        rotate_left
        · intro w'
          go_simp
          with_reducible rfl
        rotate_left
        · simp only [Act.put, List.setIfInBounds_toArray, List.set_cons_zero, List.set_cons_succ, i64_w, i32_w]
          rfl
        refine pure_ (i := 4) (N := (some 56)) (v := ?_) (a' := ?_) #[true, true, true, false, true, false, false, false, false, false, false, false, false, false, false, false, false, false, false] rfl rfl (any_of HT_.out (by kernel_rfl)) (fun _ _ _ h => h) (Or.inl ⟨by rfl, ?_⟩) ?_ ?_
        rotate_left
        · intro w'
          go_simp
          with_reducible rfl
        rotate_left
        · simp only [Act.put, List.setIfInBounds_toArray, List.set_cons_zero, List.set_cons_succ, i64_w, i32_w]
          rfl
        refine pure_ (i := 5) (N := (some 57)) (v := ?_) (a' := ?_) #[true, true, true, false, true, true, false, false, false, false, false, false, false, false, false, false, false, false, false] rfl rfl (any_of HT_.out (by kernel_rfl)) (fun _ _ _ h => h) (Or.inl ⟨by rfl, ?_⟩) ?_ ?_
        rotate_left
        · intro w'
          go_simp
          with_reducible rfl
        rotate_left
        · simp only [Act.put, List.setIfInBounds_toArray, List.set_cons_zero, List.set_cons_succ, i64_w, i32_w]
          rfl
        refine pure_ (i := 6) (N := (some 58)) (v := ?_) (a' := ?_) #[true, true, true, false, true, true, true, false, false, false, false, false, false, false, false, false, false, false, false] rfl rfl (any_of HT_.out (by kernel_rfl)) (fun _ _ _ h => h) (Or.inl ⟨by rfl, ?_⟩) ?_ ?_
        rotate_left
        · intro w'
          go_simp
          with_reducible rfl
        rotate_left
        · simp only [Act.put, List.setIfInBounds_toArray, List.set_cons_zero, List.set_cons_succ, i64_w, i32_w]
          rfl
        refine pure_ (i := 7) (N := (some 59)) (v := ?_) (a' := ?_) #[true, true, true, false, true, true, true, true, false, false, false, false, false, false, false, false, false, false, false] rfl rfl (any_of HT_.out (by kernel_rfl)) (fun _ _ _ h => h) (Or.inl ⟨by rfl, ?_⟩) ?_ ?_
        rotate_left
        · intro w'
          go_simp
          with_reducible rfl
        rotate_left
        · simp only [Act.put, List.setIfInBounds_toArray, List.set_cons_zero, List.set_cons_succ, i64_w, i32_w]
          rfl
        refine pure_ (i := 9) (N := (some 61)) (v := ?_) (a' := ?_) #[true, true, true, false, true, true, true, true, false, true, false, false, false, false, false, false, false, false, false] rfl rfl (any_of HT_.out (by kernel_rfl)) (fun _ _ _ h => h) (Or.inl ⟨by rfl, ?_⟩) ?_ ?_
        rotate_left
        · intro w'
          go_simp
          with_reducible rfl
        rotate_left
        · simp only [Act.put, List.setIfInBounds_toArray, List.set_cons_zero, List.set_cons_succ, i64_w, i32_w]
          rfl
        refine pure_ (i := 13) (N := (some 65)) (v := ?_) (a' := ?_) #[true, true, true, false, true, true, true, true, false, true, false, false, false, true, false, false, false, false, false] rfl rfl (any_of HT_.out (by kernel_rfl)) (fun _ _ _ h => h) (Or.inl ⟨by rfl, ?_⟩) ?_ ?_
        rotate_left
        · intro w'
          go_simp
          with_reducible rfl
        rotate_left
        · simp only [Act.put, List.setIfInBounds_toArray, List.set_cons_zero, List.set_cons_succ, i64_w, i32_w]
          rfl
        refine take_ (i := 3) (N := (some 55)) (v := ?_) (a' := ?_) #[true, true, true, true, true, true, true, true, false, true, false, false, false, true, false, false, false, false, false] rfl rfl (take_ofW HT_.out HW_.out (by kernel_rfl)) (fun _ _ _ h => h) (Or.inl ⟨by rfl, ?_⟩) hHeld ?_ ?_
        rotate_left
        · rintro w' ⟨s0, s1⟩
          go_simp
          with_reducible rfl
        rotate_left
        · simp only [Act.put, List.setIfInBounds_toArray, List.set_cons_zero, List.set_cons_succ, i64_w, i32_w]
          rfl
        refine take_ (i := 8) (N := (some 60)) (v := ?_) (a' := ?_) #[true, true, true, true, true, true, true, true, true, true, false, false, false, true, false, false, false, false, false] rfl rfl (take_ofW HT_.out HW_.out (by kernel_rfl)) (fun _ _ _ h => h) (Or.inl ⟨by rfl, ?_⟩) hHeld ?_ ?_
        rotate_left
        · rintro w' ⟨s0, s1⟩
          go_simp
          with_reducible rfl
        rotate_left
        · simp only [Act.put, List.setIfInBounds_toArray, List.set_cons_zero, List.set_cons_succ, i64_w, i32_w]
          rfl
        refine pure_ (i := 10) (N := (some 62)) (v := ?_) (a' := ?_) #[true, true, true, true, true, true, true, true, true, true, true, false, false, true, false, false, false, false, false] rfl rfl (any_of HT_.out (by kernel_rfl)) (fun _ _ _ h => h) (Or.inl ⟨by rfl, ?_⟩) ?_ ?_
        rotate_left
        · intro w'
          go_simp
          with_reducible rfl
        rotate_left
        · simp only [Act.put, List.setIfInBounds_toArray, List.set_cons_zero, List.set_cons_succ, i64_w, i32_w]
          rfl
        refine pure_ (i := 11) (N := (some 63)) (v := ?_) (a' := ?_) #[true, true, true, true, true, true, true, true, true, true, true, true, false, true, false, false, false, false, false] rfl rfl (any_of HT_.out (by kernel_rfl)) (fun _ _ _ h => h) (Or.inl ⟨by rfl, ?_⟩) ?_ ?_
        rotate_left
        · intro w'
          go_simp
          with_reducible rfl
        rotate_left
        · simp only [Act.put, List.setIfInBounds_toArray, List.set_cons_zero, List.set_cons_succ, i64_w, i32_w]
          rfl
        refine take_ (i := 12) (N := (some 64)) (v := ?_) (a' := ?_) #[true, true, true, true, true, true, true, true, true, true, true, true, true, true, false, false, false, false, false] rfl rfl (take_ofW HT_.out HW_.out (by kernel_rfl)) (fun _ _ _ h => h) (Or.inl ⟨by rfl, ?_⟩) hHeld ?_ ?_
        rotate_left
        · rintro w' ⟨s0, s1⟩
          go_simp
          with_reducible rfl
        rotate_left
        · simp only [Act.put, List.setIfInBounds_toArray, List.set_cons_zero, List.set_cons_succ, i64_w, i32_w]
          rfl
        refine pure_ (i := 14) (N := (some 66)) (v := ?_) (a' := ?_) #[true, true, true, true, true, true, true, true, true, true, true, true, true, true, true, false, false, false, false] rfl rfl (any_of HT_.out (by kernel_rfl)) (fun _ _ _ h => h) (Or.inl ⟨by rfl, ?_⟩) ?_ ?_
        rotate_left
        · intro w'
          go_simp
          with_reducible rfl
        rotate_left
        · simp only [Act.put, List.setIfInBounds_toArray, List.set_cons_zero, List.set_cons_succ, i64_w, i32_w]
          rfl
        refine one_ (i := 15) (N := (some 67)) #[true, true, true, true, true, true, true, true, true, true, true, true, true, true, true, true, false, false, false] rfl rfl (one_of HT_.out (by kernel_rfl)) (by decide) (fun K hK => ?_)
        refine goes_ Try.func40 (by kernel_rfl) rfl #[.slice A4 ys.length c4] (by rfl) rfl rfl (by (try simp only [List.map_toArray, List.map_cons, List.map_nil]); rfl) ?_
        with_reducible refine (bytes_calls A4 c4 ys _ (by exact HC46.out) (by exact HYL.out) (by exact HYL2.out)).mono ?_
        rintro e w7 ⟨v7, rfl, ho7, hb7⟩
        refine ⟨_, rfl, ?_⟩
        obtain ⟨A7, c7, e7, hc7, hF7⟩ := fresh_foot ho7
        subst e7
        have hg6 : g < w6.heap.size := HX6.out.lt g HFg.out
        have d0 := pw_cell_below hb7 c0
        have d1 := pw_cell_below hb7 y1
        have d2 := pw_cell_below hb7 HY2.out
        have e1 : w7.frozen? ⟨g, k * 3 + 1, none⟩ = false := (hb7.frozen (p := ⟨g, k * 3 + 1, none⟩) hg6).trans g1
        have e2 : w7.frozen? ⟨g, k * 3 + 2, none⟩ = false := (hb7.frozen (p := ⟨g, k * 3 + 2, none⟩) hg6).trans g2
        have hX7 := (HX6.out.below hb7).wide (G := Gr G w6 w7) (fun _ h => .inl h) (Gr.lt HX6.out.lt hb7.size)
        have hlen : n = ((L k).map Fl.out).length := by
          obtain ⟨_, _, h1, _, _⟩ := hX7.reads
          rw [HVn.out] at h1
          injection h1
        rw [HVn.out, hlen] at hX7
        have hX8 := hX7.put1 HFO.out hc7 (Kd.F_mono hF7 (fun k hk => ⟨⟨.inr hk, fun e => by have := HX6.out.lt p HX6.out.fp; have := hk.1; omega⟩, fun e => by have := hk.1; omega⟩))
        have hc7' : Chg F w w7 := HC6.out.same (Chg.of_below hb7)
        have HX8 := Lib.hid hX8
        have HC7 := Lib.hid hc7'
        have HS67 := Lib.hid hb7.size
        have HLEN := Lib.hid hlen
        clear hb7 ho7 hX7 hX8 hF7 hc7 hc7' hg6 hlen
        refine hK.out _ _ ⟨d0, d1⟩ (fun hHeld => ?_)
        clear hK K
        refine norm_ (a' := ?_) ?_ ?_
        rotate_left
        · show Act.put _ (some 67) _ = _
          simp only [Act.put, List.setIfInBounds_toArray, List.set_cons_zero, List.set_cons_succ, i64_w, i32_w]
          rfl
        refine pure_ (i := 16) (N := (some 68)) (v := ?_) (a' := ?_) #[true, true, true, true, true, true, true, true, true, true, true, true, true, true, true, true, true, false, false] rfl rfl (any_of HT_.out (by kernel_rfl)) (fun _ _ _ h => h) (Or.inl ⟨by rfl, ?_⟩) ?_ ?_
        rotate_left
        · intro w'
          go_simp
          with_reducible rfl
        rotate_left
        · simp only [Act.put, List.setIfInBounds_toArray, List.set_cons_zero, List.set_cons_succ, i64_w, i32_w]
          rfl
        refine pure_ (i := 17) (N := (some 69)) (v := ?_) (a' := ?_) #[true, true, true, true, true, true, true, true, true, true, true, true, true, true, true, true, true, true, false] rfl rfl (any_of HT_.out (by kernel_rfl)) (fun _ _ _ h => h) (Or.inl ⟨by rfl, ?_⟩) ?_ ?_
        rotate_left
        · intro w'
          go_simp
          with_reducible rfl
        rotate_left
        · simp only [Act.put, List.setIfInBounds_toArray, List.set_cons_zero, List.set_cons_succ, i64_w, i32_w]
          rfl
        refine last_ (i := 18) (N := none) #[true, true, true, true, true, true, true, true, true, true, true, true, true, true, true, true, true, true, true] rfl rfl (one_of HT_.out (by kernel_rfl)) (by decide) (fun K hK => ?_)
        refine skip_ (w1 := ?_) (by rfl) rfl ?_ ?_
        rotate_left
        · go_simp
          rfl
        refine hK.out _ _ ?_
        clear hK K
        refine done_ (done_of HT_.out (by kernel_rfl)) ?_
        have q0 := (cell_far (W := w7) (p := ⟨g, k * 3 + 1, none⟩) (a := ⟨p, 0, none⟩) (fun e => HGP.out e.symm) (.slice A7 ys.length c7)).trans d0
        have q2 := (cell_off w7 g (k * 3 + 1) (k * 3 + 2) (.slice A7 ys.length c7) (by omega)).trans d2
        have r2 : (w7.setCell ⟨g, k * 3 + 1, none⟩ (.slice A7 ys.length c7)).frozen? ⟨g, k * 3 + 2, none⟩ = false := by simpa using e2
        have HC8 : Hid (Chg F w (w7.setCell ⟨g, k * 3 + 1, none⟩ (.slice A7 ys.length c7))) := Lib.hid (HC7.out.trans (Chg.setCell (F := (· = g)) w7 (p := ⟨g, k * 3 + 1, none⟩) rfl _) (fun j hj => by
          rw [hj]
          rcases HG.out g HFg.out with h1 | h1
          · exact .inl h1
          · exact .inr h1.1))
        clear d0 d1 d2 e1 e2 c0 y1 g1 g2 hHeld hsl
        have hw1 : wrap64 ((k : Int) + 1) = (k : Int) + 1 := by unfold wrap64; omega
        go_wp2
        go_roundw
        case rel =>
          have h9 := HX8.out.put2s HLK2.out rfl (ys.length : Int)
          refine ⟨k + 1, Gr G w6 w7, by omega, by first | rfl | (rw [hw1]; rfl), Lib.hid ?_, Lib.hid ?_, Lib.hid ?_⟩
          · rw [HVn.out, HLEN.out, ← HLS.out]
            exact h9
          · rintro j (hj | hj)
            · rcases HG.out j hj with h1 | h1
              · exact .inl h1
              · exact .inr ⟨h1.1, by have := h1.2; have := HS5.out; have := HS67.out; simp [World.setCell]; omega⟩
            · exact .inr ⟨Nat.le_trans HC6.out.size hj.1, by simpa [World.setCell] using hj.2⟩
          · exact HC8.out.trans (Chg.setCell (F := (· = g)) _ (p := ⟨g, k * 3 + 2, none⟩) rfl _) (fun j hj => by
              rw [hj]
              rcases HG.out g HFg.out with h1 | h1
              · exact .inl h1
              · exact .inr h1.1)
        case measure =>
          first
            | (show n - ((k : Int) + 1).toNat < n - (k : Int).toNat; omega)
            | (show n - (intOf (.int .i64 (wrap64 ((k : Int) + 1)))).toNat < n - (intOf (.int .i64 (k : Int))).toNat; rw [hw1]; show n - ((k : Int) + 1).toNat < n - (k : Int).toNat; omega)
      · have t1 : (nm.toList == d.last.toList) = false := by rw [tl_beq]; exact decide_eq_false e
        have hkd := HKD.out
        rw [if_neg e] at hkd
        obtain rfl : syn = ys.length := by omega
        clear e hkd
        go_quiet (fail)
        clear t1 x0 b3
        go_upto_region 6 with fail
        obtain ⟨w5, hw5⟩ : ∃ x, x = wr.drewN nq := ⟨_, rfl⟩
        have hb5 : Below wr.heap.size wr w5.drew := by rw [hw5]; exact below_drew (pw_below_drewN (Below.refl _ _) _)
        have hgw : g < wr.heap.size := HR.out.lt g HFg.out
        have c0 : w5.drew.cell? ⟨p, 0, none⟩ = some (.slice (some ⟨g, 0, none⟩) n c) := pw_cell_below hb5 b0
        have y1 : w5.drew.cell? ⟨g, k * 3 + 1, none⟩ = some (.slice A4 dat.length c4) := pw_cell_below hb5 x1
        have y2 := pw_cell_below hb5 x2
        have g1 : w5.drew.frozen? ⟨g, k * 3 + 1, none⟩ = false := (hb5.frozen (p := ⟨g, k * 3 + 1, none⟩) hgw).trans f1
        have g2 : w5.drew.frozen? ⟨g, k * 3 + 2, none⟩ = false := (hb5.frozen (p := ⟨g, k * 3 + 2, none⟩) hgw).trans f2
        have HX6 := Lib.hid (HR.out.below hb5)
        have HC6 : Hid (Chg F w w5.drew) := Lib.hid (HC.out.same (Chg.of_below hb5))
        have HC46 := Lib.hid (Kd.C_below HC4.out hb5)
        have HY2 := Lib.hid y2
        have HS5 : Hid (wr.heap.size ≤ w5.drew.heap.size) := Lib.hid hb5.size
        have hsl := HSL.out
        have HYL : Hid (ys.length ≤ c4) := Lib.hid (by have := HL4.out; omega)
        have HYL2 : Hid (ys.length ≤ 1099511627776) := Lib.hid (by omega)
        rw [← hw5]
        clear hw5 hb5 hgw b0 x1 x2 f1 f2 y2
        refine start_ (n := 19) (S := fun w' => w'.cell? ⟨p, 0, none⟩ = some (.slice (some ⟨g, 0, none⟩) n c) ∧ w'.cell? ⟨g, k * 3 + 1, none⟩ = some (.slice A4 dat.length c4)) (ds := [18]) #[false, false, false, false, false, false, false, false, false, false, false, false, false, false, false, false, false, false, false] (by kernel_rfl) rfl rfl ⟨c0, y1⟩ (fun hHeld => ?_)
        refine with_tabW rcraT_tab rcraT_bits (fun HT_ HW_ => ?_)
        generalize w5.drew = w6 at HX6 HC6 HC46 HY2 HS5 c0 y1 g1 g2 hHeld ⊢
        refine pure_ (i := 0) (N := (some 52)) (v := ?_) (a' := ?_) #[true, false, false, false, false, false, false, false, false, false, false, false, false, false, false, false, false, false, false] rfl rfl (any_of HT_.out (by kernel_rfl)) (fun _ _ _ h => h) (Or.inl ⟨by rfl, ?_⟩) ?_ ?_
        rotate_left
        · intro w'
          go_simp
          with_reducible rfl
        rotate_left
        · simp only [Act.put, List.setIfInBounds_toArray, List.set_cons_zero, List.set_cons_succ, i64_w, i32_w]
          rfl
        refine pure_ (i := 1) (N := (some 53)) (v := ?_) (a' := ?_) #[true, true, false, false, false, false, false, false, false, false, false, false, false, false, false, false, false, false, false] rfl rfl (any_of HT_.out (by kernel_rfl)) (fun _ _ _ h => h) (Or.inl ⟨by rfl, ?_⟩) ?_ ?_
        rotate_left
        · intro w'
          go_simp
          with_reducible rfl
        rotate_left
        · simp only [Act.put, List.setIfInBounds_toArray, List.set_cons_zero, List.set_cons_succ, i64_w, i32_w]
          rfl
        refine pure_ (i := 2) (N := (some 54)) (v := ?_) (a' := ?_) #[true, true, true, false, false, false, false, false, false, false, false, false, false, false, false, false, false, false, false] rfl rfl (any_of HT_.out (by kernel_rfl)) (fun _ _ _ h => h) (Or.inl ⟨by rfl, ?_⟩) ?_ ?_
        rotate_left
        · intro w'
          go_simp
          with_reducible rfl
        rotate_left
        · simp only [Act.put, List.setIfInBounds_toArray, List.set_cons_zero, List.set_cons_succ, i64_w, i32_w]
          rfl
        refine pure_ (i := 4) (N := (some 56)) (v := ?_) (a' := ?_) #[true, true, true, false, true, false, false, false, false, false, false, false, false, false, false, false, false, false, false] rfl rfl (any_of HT_.out (by kernel_rfl)) (fun _ _ _ h => h) (Or.inl ⟨by rfl, ?_⟩) ?_ ?_
        rotate_left
        · intro w'
          go_simp
          with_reducible rfl
        rotate_left
        · simp only [Act.put, List.setIfInBounds_toArray, List.set_cons_zero, List.set_cons_succ, i64_w, i32_w]
          rfl
        refine pure_ (i := 5) (N := (some 57)) (v := ?_) (a' := ?_) #[true, true, true, false, true, true, false, false, false, false, false, false, false, false, false, false, false, false, false] rfl rfl (any_of HT_.out (by kernel_rfl)) (fun _ _ _ h => h) (Or.inl ⟨by rfl, ?_⟩) ?_ ?_
        rotate_left
        · intro w'
          go_simp
          with_reducible rfl
        rotate_left
        · simp only [Act.put, List.setIfInBounds_toArray, List.set_cons_zero, List.set_cons_succ, i64_w, i32_w]
          rfl
        refine pure_ (i := 6) (N := (some 58)) (v := ?_) (a' := ?_) #[true, true, true, false, true, true, true, false, false, false, false, false, false, false, false, false, false, false, false] rfl rfl (any_of HT_.out (by kernel_rfl)) (fun _ _ _ h => h) (Or.inl ⟨by rfl, ?_⟩) ?_ ?_
        rotate_left
        · intro w'
          go_simp
          with_reducible rfl
        rotate_left
        · simp only [Act.put, List.setIfInBounds_toArray, List.set_cons_zero, List.set_cons_succ, i64_w, i32_w]
          rfl
        refine pure_ (i := 7) (N := (some 59)) (v := ?_) (a' := ?_) #[true, true, true, false, true, true, true, true, false, false, false, false, false, false, false, false, false, false, false] rfl rfl (any_of HT_.out (by kernel_rfl)) (fun _ _ _ h => h) (Or.inl ⟨by rfl, ?_⟩) ?_ ?_
        rotate_left
        · intro w'
          go_simp
          with_reducible rfl
        rotate_left
        · simp only [Act.put, List.setIfInBounds_toArray, List.set_cons_zero, List.set_cons_succ, i64_w, i32_w]
          rfl
        refine pure_ (i := 9) (N := (some 61)) (v := ?_) (a' := ?_) #[true, true, true, false, true, true, true, true, false, true, false, false, false, false, false, false, false, false, false] rfl rfl (any_of HT_.out (by kernel_rfl)) (fun _ _ _ h => h) (Or.inl ⟨by rfl, ?_⟩) ?_ ?_
        rotate_left
        · intro w'
          go_simp
          with_reducible rfl
        rotate_left
        · simp only [Act.put, List.setIfInBounds_toArray, List.set_cons_zero, List.set_cons_succ, i64_w, i32_w]
          rfl
        refine pure_ (i := 13) (N := (some 65)) (v := ?_) (a' := ?_) #[true, true, true, false, true, true, true, true, false, true, false, false, false, true, false, false, false, false, false] rfl rfl (any_of HT_.out (by kernel_rfl)) (fun _ _ _ h => h) (Or.inl ⟨by rfl, ?_⟩) ?_ ?_
        rotate_left
        · intro w'
          go_simp
          with_reducible rfl
        rotate_left
        · simp only [Act.put, List.setIfInBounds_toArray, List.set_cons_zero, List.set_cons_succ, i64_w, i32_w]
          rfl
        refine take_ (i := 3) (N := (some 55)) (v := ?_) (a' := ?_) #[true, true, true, true, true, true, true, true, false, true, false, false, false, true, false, false, false, false, false] rfl rfl (take_ofW HT_.out HW_.out (by kernel_rfl)) (fun _ _ _ h => h) (Or.inl ⟨by rfl, ?_⟩) hHeld ?_ ?_
        rotate_left
        · rintro w' ⟨s0, s1⟩
          go_simp
          with_reducible rfl
        rotate_left
        · simp only [Act.put, List.setIfInBounds_toArray, List.set_cons_zero, List.set_cons_succ, i64_w, i32_w]
          rfl
        refine take_ (i := 8) (N := (some 60)) (v := ?_) (a' := ?_) #[true, true, true, true, true, true, true, true, true, true, false, false, false, true, false, false, false, false, false] rfl rfl (take_ofW HT_.out HW_.out (by kernel_rfl)) (fun _ _ _ h => h) (Or.inl ⟨by rfl, ?_⟩) hHeld ?_ ?_
        rotate_left
        · rintro w' ⟨s0, s1⟩
          go_simp
          with_reducible rfl
        rotate_left
        · simp only [Act.put, List.setIfInBounds_toArray, List.set_cons_zero, List.set_cons_succ, i64_w, i32_w]
          rfl
        refine pure_ (i := 10) (N := (some 62)) (v := ?_) (a' := ?_) #[true, true, true, true, true, true, true, true, true, true, true, false, false, true, false, false, false, false, false] rfl rfl (any_of HT_.out (by kernel_rfl)) (fun _ _ _ h => h) (Or.inl ⟨by rfl, ?_⟩) ?_ ?_
        rotate_left
        · intro w'
          go_simp
          with_reducible rfl
        rotate_left
        · simp only [Act.put, List.setIfInBounds_toArray, List.set_cons_zero, List.set_cons_succ, i64_w, i32_w]
          rfl
        refine pure_ (i := 11) (N := (some 63)) (v := ?_) (a' := ?_) #[true, true, true, true, true, true, true, true, true, true, true, true, false, true, false, false, false, false, false] rfl rfl (any_of HT_.out (by kernel_rfl)) (fun _ _ _ h => h) (Or.inl ⟨by rfl, ?_⟩) ?_ ?_
        rotate_left
        · intro w'
          go_simp
          with_reducible rfl
        rotate_left
        · simp only [Act.put, List.setIfInBounds_toArray, List.set_cons_zero, List.set_cons_succ, i64_w, i32_w]
          rfl
        refine take_ (i := 12) (N := (some 64)) (v := ?_) (a' := ?_) #[true, true, true, true, true, true, true, true, true, true, true, true, true, true, false, false, false, false, false] rfl rfl (take_ofW HT_.out HW_.out (by kernel_rfl)) (fun _ _ _ h => h) (Or.inl ⟨by rfl, ?_⟩) hHeld ?_ ?_
        rotate_left
        · rintro w' ⟨s0, s1⟩
          go_simp
          with_reducible rfl
        rotate_left
        · simp only [Act.put, List.setIfInBounds_toArray, List.set_cons_zero, List.set_cons_succ, i64_w, i32_w]
          rfl
        refine pure_ (i := 14) (N := (some 66)) (v := ?_) (a' := ?_) #[true, true, true, true, true, true, true, true, true, true, true, true, true, true, true, false, false, false, false] rfl rfl (any_of HT_.out (by kernel_rfl)) (fun _ _ _ h => h) (Or.inl ⟨by rfl, ?_⟩) ?_ ?_
        rotate_left
        · intro w'
          go_simp
          with_reducible rfl
        rotate_left
        · simp only [Act.put, List.setIfInBounds_toArray, List.set_cons_zero, List.set_cons_succ, i64_w, i32_w]
          rfl
        refine one_ (i := 15) (N := (some 67)) #[true, true, true, true, true, true, true, true, true, true, true, true, true, true, true, true, false, false, false] rfl rfl (one_of HT_.out (by kernel_rfl)) (by decide) (fun K hK => ?_)
        refine goes_ Try.func40 (by kernel_rfl) rfl #[.slice A4 ys.length c4] (by rfl) rfl rfl (by (try simp only [List.map_toArray, List.map_cons, List.map_nil]); rfl) ?_
        with_reducible refine (bytes_calls A4 c4 ys _ (by exact HC46.out) (by exact HYL.out) (by exact HYL2.out)).mono ?_
        rintro e w7 ⟨v7, rfl, ho7, hb7⟩
        refine ⟨_, rfl, ?_⟩
        obtain ⟨A7, c7, e7, hc7, hF7⟩ := fresh_foot ho7
        subst e7
        have hg6 : g < w6.heap.size := HX6.out.lt g HFg.out
        have d0 := pw_cell_below hb7 c0
        have d1 := pw_cell_below hb7 y1
        have d2 := pw_cell_below hb7 HY2.out
        have e1 : w7.frozen? ⟨g, k * 3 + 1, none⟩ = false := (hb7.frozen (p := ⟨g, k * 3 + 1, none⟩) hg6).trans g1
        have e2 : w7.frozen? ⟨g, k * 3 + 2, none⟩ = false := (hb7.frozen (p := ⟨g, k * 3 + 2, none⟩) hg6).trans g2
        have hX7 := (HX6.out.below hb7).wide (G := Gr G w6 w7) (fun _ h => .inl h) (Gr.lt HX6.out.lt hb7.size)
        have hlen : n = ((L k).map Fl.out).length := by
          obtain ⟨_, _, h1, _, _⟩ := hX7.reads
          rw [HVn.out] at h1
          injection h1
        rw [HVn.out, hlen] at hX7
        have hX8 := hX7.put1 HFO.out hc7 (Kd.F_mono hF7 (fun k hk => ⟨⟨.inr hk, fun e => by have := HX6.out.lt p HX6.out.fp; have := hk.1; omega⟩, fun e => by have := hk.1; omega⟩))
        have hc7' : Chg F w w7 := HC6.out.same (Chg.of_below hb7)
        have HX8 := Lib.hid hX8
        have HC7 := Lib.hid hc7'
        have HS67 := Lib.hid hb7.size
        have HLEN := Lib.hid hlen
        clear hb7 ho7 hX7 hX8 hF7 hc7 hc7' hg6 hlen
        refine hK.out _ _ ⟨d0, d1⟩ (fun hHeld => ?_)
        clear hK K
        refine norm_ (a' := ?_) ?_ ?_
        rotate_left
        · show Act.put _ (some 67) _ = _
          simp only [Act.put, List.setIfInBounds_toArray, List.set_cons_zero, List.set_cons_succ, i64_w, i32_w]
          rfl
        refine pure_ (i := 16) (N := (some 68)) (v := ?_) (a' := ?_) #[true, true, true, true, true, true, true, true, true, true, true, true, true, true, true, true, true, false, false] rfl rfl (any_of HT_.out (by kernel_rfl)) (fun _ _ _ h => h) (Or.inl ⟨by rfl, ?_⟩) ?_ ?_
        rotate_left
        · intro w'
          go_simp
          with_reducible rfl
        rotate_left
        · simp only [Act.put, List.setIfInBounds_toArray, List.set_cons_zero, List.set_cons_succ, i64_w, i32_w]
          rfl
        refine pure_ (i := 17) (N := (some 69)) (v := ?_) (a' := ?_) #[true, true, true, true, true, true, true, true, true, true, true, true, true, true, true, true, true, true, false] rfl rfl (any_of HT_.out (by kernel_rfl)) (fun _ _ _ h => h) (Or.inl ⟨by rfl, ?_⟩) ?_ ?_
        rotate_left
        · intro w'
          go_simp
          with_reducible rfl
        rotate_left
        · simp only [Act.put, List.setIfInBounds_toArray, List.set_cons_zero, List.set_cons_succ, i64_w, i32_w]
          rfl
        refine last_ (i := 18) (N := none) #[true, true, true, true, true, true, true, true, true, true, true, true, true, true, true, true, true, true, true] rfl rfl (one_of HT_.out (by kernel_rfl)) (by decide) (fun K hK => ?_)
        refine skip_ (w1 := ?_) (by rfl) rfl ?_ ?_
        rotate_left
        · go_simp
          rfl
        refine hK.out _ _ ?_
        clear hK K
        refine done_ (done_of HT_.out (by kernel_rfl)) ?_
        have q0 := (cell_far (W := w7) (p := ⟨g, k * 3 + 1, none⟩) (a := ⟨p, 0, none⟩) (fun e => HGP.out e.symm) (.slice A7 ys.length c7)).trans d0
        have q2 := (cell_off w7 g (k * 3 + 1) (k * 3 + 2) (.slice A7 ys.length c7) (by omega)).trans d2
        have r2 : (w7.setCell ⟨g, k * 3 + 1, none⟩ (.slice A7 ys.length c7)).frozen? ⟨g, k * 3 + 2, none⟩ = false := by simpa using e2
        have HC8 : Hid (Chg F w (w7.setCell ⟨g, k * 3 + 1, none⟩ (.slice A7 ys.length c7))) := Lib.hid (HC7.out.trans (Chg.setCell (F := (· = g)) w7 (p := ⟨g, k * 3 + 1, none⟩) rfl _) (fun j hj => by
          rw [hj]
          rcases HG.out g HFg.out with h1 | h1
          · exact .inl h1
          · exact .inr h1.1))
        clear d0 d1 d2 e1 e2 c0 y1 g1 g2 hHeld hsl
        have hw1 : wrap64 ((k : Int) + 1) = (k : Int) + 1 := by unfold wrap64; omega
        go_wp2
        go_roundw
        case rel =>
          have h9 := HX8.out.put2s HLK2.out rfl (ys.length : Int)
          refine ⟨k + 1, Gr G w6 w7, by omega, by first | rfl | (rw [hw1]; rfl), Lib.hid ?_, Lib.hid ?_, Lib.hid ?_⟩
          · rw [HVn.out, HLEN.out, ← HLS.out]
            exact h9
          · rintro j (hj | hj)
            · rcases HG.out j hj with h1 | h1
              · exact .inl h1
              · exact .inr ⟨h1.1, by have := h1.2; have := HS5.out; have := HS67.out; simp [World.setCell]; omega⟩
            · exact .inr ⟨Nat.le_trans HC6.out.size hj.1, by simpa [World.setCell] using hj.2⟩
          · exact HC8.out.trans (Chg.setCell (F := (· = g)) _ (p := ⟨g, k * 3 + 2, none⟩) rfl _) (fun j hj => by
              rw [hj]
              rcases HG.out g HFg.out with h1 | h1
              · exact .inl h1
              · exact .inr h1.1)
        case measure =>
          first
            | (show n - ((k : Int) + 1).toNat < n - (k : Int).toNat; omega)
            | (show n - (intOf (.int .i64 (wrap64 ((k : Int) + 1)))).toNat < n - (intOf (.int .i64 (k : Int))).toNat; rw [hw1]; show n - ((k : Int) + 1).toNat < n - (k : Int).toNat; omega)
    · have hkn : k = n := by omega
      subst hkn
      have f1 := sb_free HR.out.blk 1
      have f2 := sb_free HR.out.blk 2
      have f3 := sb_free HR.out.blk 3
      have b1 := sb_cell HR.out.blk 1
      have b2 := sb_cell HR.out.blk 2
      simp at b1 b2
      go_wp2
      go_end0
      have h1 := sb_set (sb_set (sb_set HR.out.blk 1 (.int .i64 0)) 2 (.bool false)) 3 (.string ⟨#[]⟩)
      have hc3 : Chg (· = p) wr (((wr.setCell ⟨p, 1, none⟩ (.int .i64 0)).setCell ⟨p, 2, none⟩ (.bool false)).setCell ⟨p, 3, none⟩ (.string ⟨#[]⟩)) := ((Chg.setCell (F := (· = p)) wr (p := ⟨p, 1, none⟩) rfl _).same (Chg.setCell (F := (· = p)) _ (p := ⟨p, 2, none⟩) rfl _)).same (Chg.setCell (F := (· = p)) _ (p := ⟨p, 3, none⟩) rfl _)
      have hcF := HC.out.same (hc3.mono (fun j hj => by rw [hj]; exact HI.out.fp))
      have hR := HR.out.head (ar' := 0) (dn' := false) (la' := nil_) (by simpa [nil_] using h1) hc3
      have hLn : (L k).map Fl.out = filesOf (d.crash keep) := by
        rw [HL.out, HN.out]
        unfold crk filesOf
        rw [List.take_length, List.drop_length, List.append_nil, HGG.out]
        rfl
      rw [hLn] at hR
      exact ⟨rfl, ⟨v, hR.wide (fun j hj => (HG.out j hj).elim .inl (fun h => .inr ⟨h.1, by simpa [World.setCell] using h.2⟩)) (Gr.lt HI.out.lt hcF.size)⟩, hcF⟩
end
end Go.Proofs.Ytflajlnknimjaaa.Dk

/- The reference's Read, List; SameTexts; the reference's disk among many things. -/
namespace Go.Proofs.Ytflajlnknimjaaa.Dk
open Go.RowKit Go.Maps Go.Proofs.YtflajlnknimjaaaW.PrintWords Go.Proofs.YtflajlnknimjaaaW.PrintMore Go.Proofs.Ytflajlnknimjaaa.Syn Go.Proofs.Ytflajlnknimjaaa.PDiskLoads
set_option linter.unusedVariables false
set_option linter.unusedSimpArgs false
section
variable {F : Nat → Prop} {p : Nat} {w w1 : World} {v : Value} {d : St}
set_option maxRecDepth 100000 in
set_option maxHeartbeats 1000000 in
theorem rread_calls (nm : ByteArray) (h : RefAt w F p d) (ok : d.Ok) :
    Calls Try.prog 56 #[ptr p, .string nm] w fun e w' => ∃ v, e = .returned (.tuple #[v, .int .i64 (d.read nm).2]) ∧ Fresh w' w.heap.size v (d.read nm).1 ∧ Below w.heap.size w w' := by
  obtain ⟨v, hI⟩ := h
  unfold St.read
  cases hp : pos nm d.fs with
  | none =>
    have hlk := pos_none.1 hp
    rw [hlk]
    have HI := Lib.hid hI
    have HA := Lib.hid ok
    have HPs := Lib.hid hp
    clear hI ok hp hlk
    go_enter Try.func56, Try.ntmps56
    go_wp2_with (go_at_call 37; refine (rat_none (by exact HI.out) (by exact HA.out) (by exact HPs.out)).mono ?_; rintro e w' ⟨rfl, rfl⟩)
    go_ret2
    exact ⟨_, rfl, Kd.R_nil _ _ _ _ _, Below.refl _ _⟩
  | some i =>
    obtain ⟨hi, hin⟩ := pos_some hp
    have hlk := pos_look ok.srt hp hi
    rw [hlk]
    obtain ⟨f, hf⟩ : ∃ f, d.fs[i]? = some f := ⟨_, List.getElem?_eq_getElem hi⟩
    have hfe : d.fs[i] = f := by rw [List.getElem?_eq_getElem hi] at hf; exact Option.some.inj hf
    rw [hfe]
    have hdl : f.dat.length ≤ 16777216 := Nat.le_trans (total_mem (List.mem_of_getElem? hf)) ok.tot
    obtain ⟨g, c, A4, c4, hv, hlc, hFg, hgp, hl4, hF4, x0, x1, x2, hfz⟩ := hI.at (file_at hf)
    have c0 := sb_cell hI.blk 0
    simp at c0
    rw [hv] at c0
    replace x1 : w.cell? ⟨g, i * 3 + 1, none⟩ = some (.slice A4 f.dat.length c4) := x1
    have HC4 := Lib.hid (Kd.F_now hF4)
    have HL4 : Hid (f.dat.length ≤ c4) := Lib.hid hl4
    have HDL : Hid (f.dat.length ≤ 1099511627776) := Lib.hid (by omega)
    have hill : ((i : Nat) : Int) < ((filesOf d).length : Int) := by have := pos_len hp; omega
    have hfsl : ((filesOf d).length : Int) ≤ 1048576 := by have := files_short ok; omega
    have hi0 : (0 : Int) ≤ (i : Int) := by omega
    have HI := Lib.hid hI
    have HA := Lib.hid ok
    have HPs := Lib.hid hp
    clear hI ok hp hlk hi hin hf hfe hdl hv hlc hFg hgp hl4 hF4 x0 x2 hfz
    go_enter Try.func56, Try.ntmps56
    go_wp2_with (first
      | (go_at_call 37; refine (rat_some (by exact HI.out) (by exact HA.out) (by exact HPs.out)).mono ?_; rintro e w' ⟨rfl, rfl⟩)
      | (go_at_call 40; refine (bytes_calls A4 c4 f.dat _ (by exact HC4.out) (by exact HL4.out) (by exact HDL.out)).mono ?_; rintro e w7 ⟨v7, rfl, ho7, hb7⟩))
    go_ret2
    exact ⟨v7, rfl, ho7, hb7⟩
set_option maxRecDepth 100000 in
set_option maxHeartbeats 1000000 in
theorem rlist_calls (h : RefAt w F p d) (ok : d.Ok) :
    Calls Try.prog 58 #[ptr p] w fun e w' => ∃ v, e = .returned v ∧ Kd.R Kd.string 9 w' w.heap.size (fun _ => True) v (names d) ∧ Below w.heap.size w w' := by
  obtain ⟨v, hI⟩ := h
  obtain ⟨A, c, hv, hAc, hC⟩ := hI.reads
  have b0 := sb_cell hI.blk 0
  simp at b0
  rw [hv] at b0
  obtain ⟨l, hl⟩ : ∃ l, l = filesOf d := ⟨_, rfl⟩
  have hnm : names d = l.map (fun x => x.f0) := by rw [hl]; simp [names, filesOf, Fl.out]
  have hll : l.length ≤ 1048576 := by rw [hl]; exact files_short ok
  rw [← hl] at b0 hC
  rw [hnm]
  have HC := Lib.hid hC
  have HLL := Lib.hid hll
  have hll2 : (l.length : Int) ≤ 1048576 := by omega
  clear hI hv hAc hC hl hnm hll ok
  go_enter Try.func58, Try.ntmps58
  go_wp2
  go_loopw [3, 4] (fun v3 v4 wr => ∃ k : Nat, k ≤ l.length ∧ v4 = .int .i64 k ∧ Hid (Kd.R Kd.string 9 wr w.heap.size (fun _ => True) v3 ((l.map (fun x => x.f0)).take k)) ∧ Hid (Below w.heap.size w wr)) (fun _ v4 _ => l.length - (intOf v4).toNat)
  case atStart => exact ⟨0, Nat.zero_le _, rfl, Lib.hid (Kd.R_nil _ _ _ _ _), Lib.hid (Below.refl _ _)⟩
  case round =>
    obtain ⟨k, hk, rfl, HR, HB⟩ := hrel
    have c0 := pw_cell_below HB.out b0
    by_cases hlt : k < l.length
    · obtain ⟨ad, A4, c4, rfl, x0, -, -, -, -⟩ := files_at (Kd.C_below HC.out HB.out) hlt
      obtain ⟨nk, hnk⟩ : ∃ nk, l[k].f0 = nk := ⟨_, rfl⟩
      rw [hnk] at x0
      have HNK := Lib.hid hnk
      have HLT := Lib.hid hlt
      clear hnk
      have hw1 : wrap64 ((k : Int) + 1) = (k : Int) + 1 := by unfold wrap64; omega
      go_wp2_with ((with_reducible refine gate_builtin (b := .append) (xs := #[.tmp 14, .tmp 23]) rfl ?_); at_builtin; go_must (refine Kd.R_append Kd.string (w0 := w) w.heap.size rfl (.tmp 14) (.tmp 23) 22 9 (.string ⟨#[]⟩) 16 rfl Try.underlying22 info9 rfl (by decide) (by omega) u3 ((l.map (fun x => x.f0)).take k) nk [.string nk] (fun _ => True) (fun _ => False) rfl rfl ?aP (fun _ hk => hk.elim) ?aF ?aO ?aB ?aS ?aL ?_); (case aP => exact rfl); (case aF => exact (fun _ _ => trivial)); (case aO => exact HR.out); (case aB => exact HB.out); (case aS => exact HB.out.size); (case aL => have := HLL.out; have := HLT.out; simp only [List.length_take, List.length_map]; omega); intro v24 w24 ho hb hg hat; have HO := Lib.hid ho; have HB2 := Lib.hid hb; clear ho hb hg hat)
      go_roundw
      case rel =>
        refine ⟨k + 1, by have := HLT.out; omega, by first | rfl | (rw [hw1]; rfl), ?_, HB2⟩
        have h1 := HO.out
        rw [← HNK.out] at h1
        have h2 : (l.map (fun x => x.f0)).take (k + 1) = (l.map (fun x => x.f0)).take k ++ [(l[k]'(HLT.out)).f0] := by
          rw [List.take_succ_eq_append_getElem (by rw [List.length_map]; exact HLT.out), List.getElem_map]
        rw [h2]
        exact Lib.hid h1
      case measure =>
        have := HLT.out
        first
          | (show l.length - ((k : Int) + 1).toNat < l.length - (k : Int).toNat; omega)
          | (show l.length - (intOf (.int .i64 (wrap64 ((k : Int) + 1)))).toNat < l.length - (intOf (.int .i64 (k : Int))).toNat; rw [hw1]; show l.length - ((k : Int) + 1).toNat < l.length - (k : Int).toNat; omega)
    · have hkn : k = l.length := by omega
      subst hkn
      go_wp2
      go_ret
      have h1 := HR.out
      rw [List.take_of_length_le (by rw [List.length_map]; exact Nat.le_refl _)] at h1
      exact ⟨_, rfl, h1, HB.out⟩
end
end Go.Proofs.Ytflajlnknimjaaa.Dk

/- The reference's disk among many things; SameTexts, Lent, Kept. -/
namespace Go.Proofs.Ytflajlnknimjaaa.Dk
open Go.RowKit Go.Maps Go.Proofs.YtflajlnknimjaaaW.PrintWords Go.Proofs.YtflajlnknimjaaaW.PrintMore Go.Proofs.Ytflajlnknimjaaa.Syn Go.Proofs.Ytflajlnknimjaaa.PDiskLoads
set_option linter.unusedVariables false
set_option linter.unusedSimpArgs false
section
variable {B i : Nat} {w0 w : World} {D : List Thing} {p : Nat} {d : St}
theorem Many.rpost (hM : Many B w0 w D) (hi : D[i]? = some (REF p d)) {f : Nat} {args : Array Value} {r : Int × St} (hr : r.2.Ok)
    (hc : ∀ F, RefAt w F p d → d.Ok → (∀ k, F k → B ≤ k) → (∀ (j : Nat) (u : Thing), j ≠ i → D[j]? = some u → ∃ G : Nat → Prop, u.P w G ∧ ∀ k, G k → k < w.heap.size ∧ ¬ F k) → Calls Try.prog f args w (RPost F p w r)) : Calls Try.prog f args w fun e w' => e = .returned (.int .i64 r.1) ∧ Many B w0 w' (D.set i (REF p r.2)) := by
  obtain ⟨F, ⟨hd, ok⟩, hF, hO, hst⟩ := hM.get hi
  refine (hc F hd ok (fun k hk => (hF k hk).1) hO).mono ?_
  rintro e w' ⟨he, h1, h2⟩
  exact ⟨he, hst h2 ⟨h1, hr⟩⟩
theorem Many.rok (hM : Many B w0 w D) (hi : D[i]? = some (REF p d)) : d.Ok := by
  obtain ⟨F, ⟨hd, ok⟩, hF, hO, hst⟩ := hM.get hi
  exact ok
theorem mr_create (hM : Many B w0 w D) (hi : D[i]? = some (REF p d)) (nm : ByteArray) (hn : nm.size ≤ 140737488351232) :
    Calls Try.prog 13 #[ptr p, .string nm] w fun e w' => e = .returned (.int .i64 (d.create nm).1) ∧ Many B w0 w' (D.set i (REF p (d.create nm).2)) :=
  hM.rpost hi (create_ok (hM.rok hi) nm) fun F hd ok _ _ => rcreate_calls nm hd ok hn
theorem mr_sync (hM : Many B w0 w D) (hi : D[i]? = some (REF p d)) (nm : ByteArray) :
    Calls Try.prog 50 #[ptr p, .string nm] w fun e w' => e = .returned (.int .i64 (d.sync nm).1) ∧ Many B w0 w' (D.set i (REF p (d.sync nm).2)) :=
  hM.rpost hi (sync_ok (hM.rok hi) nm) fun F hd ok _ _ => rsync_calls nm hd ok
theorem mr_cut (hM : Many B w0 w D) (hi : D[i]? = some (REF p d)) (nm : ByteArray) (n : Int) :
    Calls Try.prog 51 #[ptr p, .string nm, .int .i64 n] w fun e w' => e = .returned (.int .i64 (d.cut nm n).1) ∧ Many B w0 w' (D.set i (REF p (d.cut nm n).2)) :=
  hM.rpost hi (cut_ok (hM.rok hi) nm n) fun F hd ok _ _ => rcut_calls nm n hd ok
theorem mr_rename (hM : Many B w0 w D) (hi : D[i]? = some (REF p d)) (a b : ByteArray) (hb : b.size ≤ 140737488351232) :
    Calls Try.prog 52 #[ptr p, .string a, .string b] w fun e w' => e = .returned (.int .i64 (d.rename a b).1) ∧ Many B w0 w' (D.set i (REF p (d.rename a b).2)) :=
  hM.rpost hi (rename_ok (hM.rok hi) a b) fun F hd ok _ _ => rrename_calls a b hd ok hb
theorem mr_remove (hM : Many B w0 w D) (hi : D[i]? = some (REF p d)) (nm : ByteArray) :
    Calls Try.prog 53 #[ptr p, .string nm] w fun e w' => e = .returned (.int .i64 (d.remove nm).1) ∧ Many B w0 w' (D.set i (REF p (d.remove nm).2)) :=
  hM.rpost hi (remove_ok (hM.rok hi) nm) fun F hd ok _ _ => rremove_calls nm hd ok
theorem mr_append (hM : Many B w0 w D) (hi : D[i]? = some (REF p d)) (nm : ByteArray) (A : Option Addr) (cp : Nat) (ys : List Int) (hs : ∀ F : Nat → Prop, (∀ k, F k → B ≤ k) → (∀ (j : Nat) (u : Thing), j ≠ i → D[j]? = some u → ∃ G : Nat → Prop, u.P w G ∧ ∀ k, G k → k < w.heap.size ∧ ¬ F k) → Src F w A ys) (hy : ys.length ≤ 140737488351232) (hcp : ys.length ≤ cp) :
    Calls Try.prog 15 #[ptr p, .string nm, .slice A ys.length cp] w fun e w' => e = .returned (.int .i64 (d.append nm ys).1) ∧ Many B w0 w' (D.set i (REF p (d.append nm ys).2)) :=
  hM.rpost hi (append_ok (hM.rok hi) nm ys) fun F hd ok hF hO => rappend_calls nm A cp ys hd ok (hs F hF hO) hy hcp
theorem mr_crash (hM : Many B w0 w D) (hi : D[i]? = some (REF p d)) (n : Int) :
    Calls Try.prog 54 #[ptr p, .int .i64 n] w fun e w' => e = .returned (.tuple #[]) ∧ Many B w0 w' (D.set i (REF p (d.crash n))) := by
  obtain ⟨F, ⟨hd, ok⟩, hF, hO, hst⟩ := hM.get hi
  refine (rcrash_calls n hd ok).mono ?_
  rintro e w' ⟨he, h1, h2⟩
  exact ⟨he, hst h2 ⟨h1, crash_ok ok n⟩⟩
theorem mr_read (hM : Many B w0 w D) (hi : D[i]? = some (REF p d)) (nm : ByteArray) :
    Calls Try.prog 56 #[ptr p, .string nm] w fun e w' => ∃ v, e = .returned (.tuple #[v, .int .i64 (d.read nm).2]) ∧ Many B w0 w' (D ++ [BYTES v (d.read nm).1]) := by
  obtain ⟨F, ⟨hd, ok⟩, hF, hO, hst⟩ := hM.get hi
  refine (rread_calls nm hd ok).mono ?_
  rintro e w' ⟨v, he, h1, h2⟩
  exact ⟨v, he, hM.add h2 (R_new h1)⟩
theorem mr_list (hM : Many B w0 w D) (hi : D[i]? = some (REF p d)) :
    Calls Try.prog 58 #[ptr p] w fun e w' => ∃ v, e = .returned v ∧ Many B w0 w' (D ++ [TEXTS v (names d)]) := by
  obtain ⟨F, ⟨hd, ok⟩, hF, hO, hst⟩ := hM.get hi
  refine (rlist_calls hd ok).mono ?_
  rintro e w' ⟨v, he, h1, h2⟩
  exact ⟨v, he, hM.add h2 (R_new h1)⟩
theorem mr_size (hM : Many B w0 w D) (hi : D[i]? = some (REF p d)) :
    Calls Try.prog 17 #[ptr p] w fun e w' => e = .returned (.int .i64 (total d.fs)) ∧ w = w' := by
  obtain ⟨F, ⟨⟨v, hd⟩, ok⟩, hF, hO, hst⟩ := hM.get hi
  refine (rsize_calls hd (files_len ok).1 (by rw [sumD_files]; have := ok.tot; omega)).mono ?_
  rintro e w' ⟨he, rfl⟩
  rw [sumD_files] at he
  exact ⟨he, rfl⟩
/-- The struct and its files, as they are read. -/
theorem Many.rcells (hM : Many B w0 w D) (hi : D[i]? = some (REF p d)) : ∃ A c, w.heap[p]? = some (.cells #[.slice A (filesOf d).length c, .int .i64 d.armed, .bool d.down, .string d.last] 29 (0, 0)) ∧ (filesOf d).length ≤ c ∧ kF.C w A (filesOf d).length (filesOf d) := by
  obtain ⟨F, ⟨⟨v, hd⟩, ok⟩, hF, hO, hst⟩ := hM.get hi
  obtain ⟨A, c, rfl, h1, h2⟩ := hd.reads
  exact ⟨A, c, hd.blk, h1, h2⟩
theorem mr_arm (hM : Many B w0 w D) (hi : D[i]? = some (REF p d)) (n : Int) (hn : n ≤ 9223372036854775807) {x : Int} (hx : x = ((n.toNat : Nat) : Int)) : Many B w0 (w.setCell ⟨p, 1, none⟩ (.int .i64 x)) (D.set i (REF p (d.arm n))) := by
  obtain ⟨F, ⟨⟨v, hd⟩, ok⟩, hF, hO, hst⟩ := hM.get hi
  have hc := Chg.setCell (F := (· = p)) w (p := ⟨p, 1, none⟩) rfl (.int .i64 x)
  have hcF : Chg F w (w.setCell ⟨p, 1, none⟩ (.int .i64 x)) := hc.mono (fun k hk => by rw [hk]; exact hd.fp)
  have hR := hd.head (ar' := n.toNat) (dn' := d.down) (la' := d.last) (by
    have h1 := sb_set hd.blk 1 (.int .i64 x)
    rw [hx] at h1 ⊢
    simpa using h1) hc
  exact hst hcF ⟨⟨v, hR.wide (fun _ h => .inl h) (Gr.lt hd.lt hcF.size)⟩, arm_ok ok hn⟩
theorem zero_ref (hM : Many B w0 w D) : Many B w0 (w.alloc (.cells #[.slice none 0 0, .int .i64 0, .bool false, .string ⟨#[]⟩] 29)) (D ++ [REF w.heap.size St.new]) := by
  refine hM.add (below_alloc (Below.refl _ _) _) ⟨⟨.slice none 0 0, ?_⟩, new_ok⟩
  exact ⟨sb_new _ _, ⟨Nat.le_refl _, by simp⟩, Kd.N_nil _ _ _ _ _, fun k hk => hk.2⟩
end

/-! two rows of strings, the same -/
set_option maxHeartbeats 1000000 in
set_option maxRecDepth 100000 in
theorem sameTexts_calls {w : World} {A A' : Option Addr} {c c' : Nat} {l : List ByteArray} (h1 : Kd.C Kd.string w A l.length l) (h2 : Kd.C Kd.string w A' l.length l) :
    Calls Try.prog 57 #[.slice A l.length c, .slice A' l.length c'] w fun e w' => e = .returned (.bool true) ∧ Below w.heap.size w w' := by
  have H1 := Lib.hid h1
  have H2 := Lib.hid h2
  have hll : (l.length : Int) ≤ 9223372036854775807 := by have := h1.2.1; omega
  clear h1 h2
  go_enter Try.func57, Try.ntmps57
  go_wp2
  go_loopw [5] (fun v5 wr => ∃ k n : Nat, k ≤ l.length ∧ v5 = .int .i64 k ∧ wr = w.drewN n) (fun v5 _ => l.length - (intOf v5).toNat)
  case atStart => exact ⟨0, 0, Nat.zero_le _, rfl, rfl⟩
  case round =>
    obtain ⟨k, n, hk, rfl, rfl⟩ := hrel
    by_cases hlt : k < l.length
    · obtain ⟨ad, rfl, x0⟩ := str_at H1.out k hlt
      obtain ⟨ad', rfl, y0⟩ := str_at H2.out k hlt
      obtain ⟨s, hs⟩ : ∃ s, s = l[k] := ⟨_, rfl⟩
      rw [← hs] at x0 y0
      have hw1 : wrap64 ((k : Int) + 1) = (k : Int) + 1 := by unfold wrap64; omega
      clear hs
      go_upto_region 6 with fail
      go_quiet (fail)
      go_wp2
      go_roundw
      case rel => exact ⟨k + 1, _, by omega, by first | rfl | (rw [hw1]; rfl), rfl⟩
      case measure =>
        first
          | (show l.length - ((k : Int) + 1).toNat < l.length - (k : Int).toNat; omega)
          | (show l.length - (intOf (.int .i64 (wrap64 ((k : Int) + 1)))).toNat < l.length - (intOf (.int .i64 (k : Int))).toNat; rw [hw1]; show l.length - ((k : Int) + 1).toNat < l.length - (k : Int).toNat; omega)
    · have hkn : k = l.length := by omega
      subst hkn
      go_wp2
      go_ret
      exact ⟨rfl, pw_below_drewN (Below.refl _ _) _⟩
end Go.Proofs.Ytflajlnknimjaaa.Dk

/- Lent, Kept; bytes that are written over. -/
namespace Go.Proofs.Ytflajlnknimjaaa.Dk
open Go.RowKit Go.Maps Go.Proofs.YtflajlnknimjaaaW.PrintWords Go.Proofs.YtflajlnknimjaaaW.PrintMore Go.Proofs.Ytflajlnknimjaaa.Syn Go.Proofs.Ytflajlnknimjaaa.PDiskLoads
set_option linter.unusedVariables false
set_option linter.unusedSimpArgs false
/-- What was lent: bytes, and one byte behind them. -/
def LentAt (w : World) (F : Nat → Prop) (g c : Nat) (ys : List Int) : Prop := F g ∧ ∃ cur, w.heap[g]? = some (.cells cur 5 (0, 0)) ∧ ys.length + 1 ≤ c ∧ c ≤ cur.size ∧ c ≤ maxLen ∧ cur.toList.take (ys.length + 1) = nums .u8 (ys ++ [201])
def LENT (g c : Nat) (ys : List Int) : Thing where
  P := fun w F => LentAt w F g c ys
  stay := fun _ _ he ⟨h0, cur, h1, h2⟩ => ⟨h0, cur, (he g h0).trans h1, h2⟩
/-- Bytes that nobody asks for any more. -/
def BUF (A : Option Addr) (n : Nat) : Thing where
  P := fun w F => n = 0 ∨ ∃ g cur, A = some ⟨g, 0, none⟩ ∧ F g ∧ w.heap[g]? = some (.cells cur 5 (0, 0)) ∧ n ≤ cur.size
  stay := fun _ _ he h => h.imp id (fun ⟨g, cur, h0, h1, h2, h3⟩ => ⟨g, cur, h0, h1, (he g h1).trans h2, h3⟩)
section
variable {B i : Nat} {w0 w : World} {D : List Thing}
theorem LentAt.cell {F : Nat → Prop} {g c : Nat} {ys : List Int} (h : LentAt w F g c ys) {j : Nat} {x : Int} (hj : (ys ++ [201])[j]? = some x) : w.cell? ⟨g, j, none⟩ = some (.int .u8 x) := by
  obtain ⟨_, cur, h1, h2, h3, h4, h5⟩ := h
  rw [sb_cell h1]
  have hjl : j < ys.length + 1 := by have := (List.getElem?_eq_some_iff.1 hj).1; simpa using this
  rw [← Array.getElem?_toList]
  have h6 : (cur.toList.take (ys.length + 1))[j]? = (nums .u8 (ys ++ [201]))[j]? := by rw [h5]
  rw [List.getElem?_take_of_lt hjl] at h6
  rw [h6]
  simp only [nums, List.getElem?_map, hj]
  rfl
theorem LentAt.reads {F : Nat → Prop} {g c : Nat} {ys : List Int} (h : LentAt w F g c ys) : Kd.C (Kd.int .u8) w (some ⟨g, 0, none⟩) ys.length ys := by
  have h' := h
  obtain ⟨_, cur, h1, h2, h3, h4, h5⟩ := h
  refine ⟨rfl, by unfold maxLen at h4; omega, fun _ => ⟨_, rfl, fun j x hj => ⟨[.int .u8 x], rfl, rfl, fun q u hu => ?_⟩⟩⟩
  have hq : q = 0 := by
    have := (List.getElem?_eq_some_iff.1 hu).1
    simpa using this
  subst hq
  have hu' : u = .int .u8 x := by simpa using hu.symm
  subst hu'
  rw [add_plain]
  have e2 : j * (Kd.int .u8).sz + 0 = j := by show j * 1 + 0 = j; omega
  rw [e2]
  exact h'.cell (by rw [List.getElem?_append_left (List.getElem?_eq_some_iff.1 hj).1]; exact hj)
theorem bytes_big (A : Option Addr) (c : Nat) (ys : List Int) (w : World) (hx : Kd.C (Kd.int .u8) w A ys.length ys) (hc : ys.length ≤ c) (hy : ys.length ≤ 140737488351232) :
    Calls Try.prog 40 #[.slice A ys.length c] w fun e w' => ∃ v, e = .returned v ∧ Fresh w' w.heap.size v ys ∧ Below w.heap.size w w' :=
  synodref_Bytes.calls A c ys ys w hx hc (by
    unfold synodref_Bytes.f
    simp only [Option.bind_some, List.length_nil, List.nil_append]
    rw [if_pos (by omega)])
set_option maxHeartbeats 1000000 in
set_option maxRecDepth 100000 in
theorem lent_calls (A : Option Addr) (c : Nat) (ys : List Int) (w : World) (hx : Kd.C (Kd.int .u8) w A ys.length ys) (hc : ys.length ≤ c) (hy : ys.length ≤ 140737488351232) :
    Calls Try.prog 48 #[.slice A ys.length c] w fun e w' => ∃ g c', e = .returned (.slice (some ⟨g, 0, none⟩) ys.length c') ∧ LentAt w' (fun k => w.heap.size ≤ k ∧ k < w'.heap.size) g c' ys ∧ Below w.heap.size w w' := by
  have HX := Lib.hid hx
  have HC := Lib.hid hc
  have HY := Lib.hid hy
  have hyn : (ys.length : Int) ≤ 140737488351232 := by omega
  clear hx hc hy
  go_enter Try.func48, Try.ntmps48
  go_upto_region 2 with (first
    | (go_at_call 40; refine (bytes_big A c ys _ (by exact HX.out) (by exact HC.out) (by exact HY.out)).mono ?_; rintro e w5 ⟨v5, rfl, ho5, hb5⟩; have HO5 := Lib.hid ho5; have HB5 := Lib.hid hb5; clear ho5 hb5)
    | ((with_reducible refine gate_builtin (b := .append) (xs := #[.tmp 5, .tmp 6]) rfl ?_); at_builtin; go_must (refine Kd.R_append (Kd.int .u8) (w0 := w) w.heap.size rfl (.tmp 5) (.tmp 6) 34 5 (.int .u8 0) 1 rfl Try.underlying34 info5 rfl (by decide) (by omega) v5 ys 201 [.int .u8 201] (fun _ => True) (fun _ => False) rfl rfl ?aP (fun _ hk => hk.elim) ?aF ?aO ?aB ?aS ?aL ?_); (case aP => exact rfl); (case aF => exact (fun _ _ => trivial)); (case aO => exact HO5.out); (case aB => exact HB5.out); (case aS => exact HB5.out.size); (case aL => have := HY.out; omega); intro v7 w7 ho hb hg hat; have HO7 := Lib.hid ho; have HB7 := Lib.hid hb; clear ho hb hg hat))
  have hown := Kd.own_of_R HO7.out
  obtain ⟨hl, hrow⟩ := hown
  rcases hrow with ⟨_, h0⟩ | ⟨g, cap, cur, hv, hbg, hblk, hcap, hcm, hcs, htk⟩
  · simp at h0
  · have hn : (ys ++ [(201 : Int)]).length = ys.length + 1 := by simp
    rw [hn] at hv hcap htk
    subst hv
    have hL : LentAt w7 (fun k => w.heap.size ≤ k ∧ k < w7.heap.size) g cap ys := ⟨⟨hbg, blk_lt hblk⟩, cur, hblk, hcap, by omega, hcm, by rw [Nat.mul_one] at htk; simpa [encs, nums] using htk⟩
    obtain ⟨i0, hi0, _⟩ := info_parts info5
    have hcapn : ys.length ≤ cap := by omega
    have HL := Lib.hid hL
    clear hL hl hbg hblk hcap hcs htk hi0 hcm hn
    go_wp2
    go_ret
    exact ⟨g, cap, rfl, HL.out, HB7.out⟩
set_option maxHeartbeats 1000000 in
set_option maxRecDepth 100000 in
theorem kept_calls {F : Nat → Prop} {g c : Nat} {ys : List Int} (h : LentAt w F g c ys) {A : Option Addr} {cc : Nat} (hx : Kd.C (Kd.int .u8) w A ys.length ys) (hc : ys.length ≤ cc) (hy : ys.length ≤ 140737488351232) :
    Calls Try.prog 49 #[.slice (some ⟨g, 0, none⟩) ys.length c, .slice A ys.length cc] w fun e w' => e = .returned (.bool true) ∧ Below w.heap.size w w' := by
  have x0 := h.cell (j := ys.length) (x := 201) (by rw [List.getElem?_append_right (Nat.le_refl _)]; simp)
  have hr := h.reads
  have hc1 : ys.length + 1 ≤ c := by obtain ⟨_, _, _, h1, _⟩ := h; exact h1
  have hcn : ((ys.length : Nat) : Int) + 1 ≤ (c : Int) := by omega
  have hyn : (ys.length : Int) ≤ 140737488351232 := by omega
  have HR := Lib.hid hr
  have HX := Lib.hid hx
  have HC := Lib.hid hc
  have HC1 : Hid (ys.length ≤ c) := Lib.hid (by omega)
  have HY := Lib.hid hy
  have hw1 : wrap64 ((ys.length : Int) + 1) = (ys.length : Int) + 1 := by unfold wrap64; omega
  obtain ⟨i0, hi0, _⟩ := info_parts info5
  clear h hr hx hc hy hi0
  go_enter Try.func49, Try.ntmps49
  go_wp2_with (go_at_call 24; refine (synodref_SameBytes.calls (ys.length + 1) _ c ys A cc ys true _ (by exact HR.out) (by exact HC1.out) (by exact HX.out) (by exact HC.out) (by rw [sameBytes_f _ _ _ (by have := HY.out; omega) (by omega)]; exact congrArg some (decide_eq_true rfl))).mono ?_; rintro e w' ⟨rfl, ⟨nd, rfl⟩⟩)
  go_ret
  exact ⟨rfl, pw_below_drewN (Below.refl _ _) _⟩
end
end Go.Proofs.Ytflajlnknimjaaa.Dk

/- Files of the disk. -/
import Derived.Test.YtflajlnknimjaaaDkL
import Derived.Test.YtflajlnknimjaaaWTab
import Derived.Test.YtflajlnknimjaaaWApart
namespace Go.Proofs.Ytflajlnknimjaaa.Dk
open Go.RowKit Go.Maps Go.Proofs.YtflajlnknimjaaaW.PrintWords Go.Proofs.YtflajlnknimjaaaW.PrintMore Go.Proofs.YtflajlnknimjaaaW.PrintLast Go.Proofs.Ytflajlnknimjaaa.Syn Go.Proofs.Ytflajlnknimjaaa.PDiskLoads

abbrev SF := S36
abbrev kF : Kd SF := k36
def Fl.out (f : Fl) : SF := ⟨f.nm, f.dat, f.syn⟩
def filesOf (d : St) : List SF := d.fs.map Fl.out
def FileC.out (c : FileC) : SF := c.abs.out
/-- Files in memory that is new since base. -/
abbrev FilesR (w' : World) (base : Nat) (v : Value) (l : List SF) : Prop := kF.R 36 w' base (fun _ => True) v l

theorem apart_blk {w : World} {b b' e e' s s' n n' : Nat} {v v' : Value} {xs xs' : List Value} (h : w.ownsRow b e s v n xs) (h' : w.ownsRow b' e' s' v' n' xs') (hne : e ≠ e') : ∀ k, some k = v.ownBlock → some k ≠ v'.ownBlock := by
  intro k hk hk'
  obtain ⟨c, h1⟩ := own_typed h k hk.symm
  obtain ⟨c', h2⟩ := own_typed h' k hk'.symm
  rw [h1] at h2
  injection h2 with h2
  injection h2 with _ h2
  exact hne h2
theorem okName_size {s : ByteArray} (h : okName s = true) : s.size ≤ 32 := by
  simp [okName] at h
  omega

def filesT : Bool × List (List Nat × List Nat) := (true, [([], []), ([], []), ([], []), ([2], [2]), ([3], [3]), ([4], [4]), ([5], [5]), ([], []), ([7], [7]), ([8], [8]), ([9], [9]), ([1, 6, 10], [1, 6, 10]), ([11], [11]), ([0, 12, 6], [0, 12]), ([13, 13, 0, 1, 2, 3, 4, 5, 6, 7, 8, 9, 10, 11, 12, 13], [0, 13])])
def filesTB : List Nat := [0, 0, 0, 4, 12, 28, 60, 0, 128, 384, 896, 2046, 4094, 8191, 16383]
theorem filesT_tab : rtab .any (opsOf Try.f21 6) = filesT := by kernel_rfl
theorem filesT_bits : waitsOk filesT.2 filesTB = true := by kernel_rfl

theorem str_at {w : World} {A : Option Addr} {n : Nat} {xs : List ByteArray} (h : Kd.C Kd.string w A n xs) (k : Nat) (hk : k < xs.length) : ∃ ad, A = some ad ∧ w.cell? (ad.add k) = some (.string xs[k]) := by
  have hn := h.1
  obtain ⟨ad, c, e, _, hK, hc⟩ := Kd.C_get h (default : ByteArray) (k : Int) (by omega) (by omega)
  refine ⟨ad, e, ?_⟩
  have hK' : c = [.string (xs.getD k default)] := hK
  subst hK'
  have := hc 0 _ rfl
  simpa [Kd.string, Kd.scalar, hk] using this

set_option maxHeartbeats 1000000 in
set_option maxRecDepth 100000 in
theorem files_calls {F : Nat → Prop} {p : Nat} {w : World} {d : St} (h : DiskAt w F p d) (ok : d.Ok) :
    Calls Try.prog 21 #[.pointer (some ⟨p, 0, none⟩)] w fun e w' => ∃ v, e = .returned v ∧ FilesR w' w.heap.size v (filesOf d) ∧ Below w.heap.size w w' := by
  have hlist := list_calls h ok
  obtain ⟨m, L, hI, hL⟩ := h
  have hfs : filesOf d = L.map FileC.out := by rw [filesOf, ← hL, List.map_map]; rfl
  have hnm : names d = L.map FileC.nm := by rw [names, ← hL, List.map_map]; rfl
  have hsrt := srt_abs hL ok.srt
  have hcnt : L.length ≤ 256 := by have := ok.cnt; rw [← hL, List.length_map] at this; exact this
  have hsz : ∀ c ∈ L, c.nm.size ≤ 32 := fun c hc => okName_size (ok.named c.abs (by rw [← hL]; exact List.mem_map_of_mem hc))
  have hdl : ∀ c ∈ L, c.bs.length ≤ 140737488351232 := fun c hc => by
    have h1 := sumC_take hsrt hc
    have h2 := ok.tot
    rw [← sumC_abs hL] at h2
    omega
  rw [hfs]
  rw [hnm] at hlist
  have HI := Lib.hid hI
  have HS := Lib.hid hsrt
  have HC := Lib.hid hcnt
  have HZ := Lib.hid hsz
  have HD := Lib.hid hdl
  have HLI := Lib.hid hlist
  clear hI hL ok hfs hnm hsrt hcnt hsz hdl hlist
  go_enter Try.func21, Try.ntmps21
  go_wp2_with (go_at_call 18; refine (HLI.out).mono ?_; rintro e w1 ⟨v, rfl, hv, hb⟩; obtain ⟨A, cp, rfl, -, hrd⟩ := Kd.R_reads hv; have HR := Lib.hid hrd; have HB := Lib.hid hb; clear hv hrd hb)
  go_loopw [3, 10] (fun v3 v10 wr => ∃ k : Nat, k ≤ L.length ∧ v10 = .int .i64 k ∧ Hid (FilesR wr w1.heap.size v3 ((L.map FileC.out).take k)) ∧ Hid (Below w1.heap.size w1 wr)) (fun _ v10 _ => L.length - (intOf v10).toNat)
  case atStart => exact ⟨0, Nat.zero_le _, rfl, Lib.hid (Kd.R_nil _ _ _ _ _), Lib.hid (Below.refl _ _)⟩
  case round =>
    obtain ⟨k, hk, rfl, HO, HB2⟩ := hrel
    by_cases hlt : k < L.length
    · have hcm : L[k] ∈ L := List.getElem_mem hlt
      obtain ⟨c, hcd⟩ : ∃ c, c = L[k] := ⟨_, rfl⟩
      rw [← hcd] at hcm
      have hch : Chg (fun k => w.heap.size ≤ k) w wr := ((Chg.of_below HB.out).trans (Chg.of_below (HB2.out)) (fun _ h => .inl h))
      have hI2 := HI.out.chg hch (fun k hk h => by have := HI.out.lt k hk; omega)
      have b0 := sb_cell hI2.blk 0
      simp at b0
      have hl := hI2.map.look (nm := c.nm) (by have := HZ.out c hcm; unfold maxLen; omega)
      rw [HS.out.look hcm rfl] at hl
      simp only [ptrOf] at hl
      have hf := hI2.files c hcm
      have c0 := sb_cell hf.1 0
      have c1 := sb_cell hf.1 1
      simp at c0 c1
      obtain ⟨A', cap, hv, _, _⟩ := hf.2.2.1.form
      have hd := hf.2.2.1
      rw [hv] at c0 hd
      have hfw := HI.out.files c hcm
      have c0w := sb_cell hfw.1 0
      have c1w := sb_cell hfw.1 1
      simp [hv] at c0w c1w
      have HCW := Lib.hid (And.intro c0w c1w)
      clear c0w c1w hfw
      have hdr := hd.reads
      obtain ⟨ad, rfl, hat⟩ := str_at HR.out k (by rw [List.length_map]; exact hlt)
      replace hat := (HB2.out.cell (World.block_lt_of_cell? w1 _ hat)).trans hat
      simp only [List.getElem_map, ← hcd] at hat
      have HDR := Lib.hid hdr
      have HCM := Lib.hid hcm
      have HCH := Lib.hid hch
      have HCD := Lib.hid hcd
      clear hI2 hf hd hv hdr hcm hch hcd
      go_wp2
      have HOd := Lib.hid (Kd.R_drew HO.out)
      have HB2d := Lib.hid (below_drew1 HB2.out)
      have HDRd := Lib.hid (Kd.C_drew HDR.out)
      have c0d : wr.drew.cell? ⟨c.blk, 0, none⟩ = some (.slice A' c.bs.length cap) := c0
      have c1d : wr.drew.cell? ⟨c.blk, 1, none⟩ = some (.int .i64 c.syn) := c1
      clear HDR c0 c1 hat hl b0 HCH
      refine start_ (n := 15) (S := fun w' => w'.cell? ⟨c.blk, 0, none⟩ = some (.slice A' c.bs.length cap) ∧ w'.cell? ⟨c.blk, 1, none⟩ = some (.int .i64 c.syn)) (ds := []) #[false, false, false, false, false, false, false, false, false, false, false, false, false, false, false] (by kernel_rfl) rfl rfl ⟨c0d, c1d⟩ (fun hHeld => ?_)
      refine with_tabW filesT_tab filesT_bits (fun HT_ HW_ => ?_)
      generalize wr.drew = w6 at HOd HB2d HDRd c0d c1d hHeld ⊢
      refine pure_ (i := 0) (N := (some 20)) (v := ?_) (a' := ?_) #[true, false, false, false, false, false, false, false, false, false, false, false, false, false, false] rfl rfl (any_of HT_.out (by kernel_rfl)) (fun _ _ _ h => h) (Or.inl ⟨by rfl, ?_⟩) ?_ ?_
      rotate_left
      · intro w'
        go_simp
        with_reducible rfl
      rotate_left
      · simp only [Act.put, List.setIfInBounds_toArray, List.set_cons_zero, List.set_cons_succ, i64_w, i32_w]
        rfl
      refine pure_ (i := 1) (N := (some 21)) (v := ?_) (a' := ?_) #[true, true, false, false, false, false, false, false, false, false, false, false, false, false, false] rfl rfl (any_of HT_.out (by kernel_rfl)) (fun _ _ _ h => h) (Or.inl ⟨by rfl, ?_⟩) ?_ ?_
      rotate_left
      · intro w'
        go_simp
        with_reducible rfl
      rotate_left
      · simp only [Act.put, List.setIfInBounds_toArray, List.set_cons_zero, List.set_cons_succ, i64_w, i32_w]
        rfl
      refine pure_ (i := 2) (N := (some 22)) (v := ?_) (a' := ?_) #[true, true, true, false, false, false, false, false, false, false, false, false, false, false, false] rfl rfl (any_of HT_.out (by kernel_rfl)) (fun _ _ _ h => h) (Or.inl ⟨by rfl, ?_⟩) ?_ ?_
      rotate_left
      · intro w'
        go_simp
        with_reducible rfl
      rotate_left
      · simp only [Act.put, List.setIfInBounds_toArray, List.set_cons_zero, List.set_cons_succ, i64_w, i32_w]
        rfl
      refine pure_ (i := 3) (N := (some 23)) (v := ?_) (a' := ?_) #[true, true, true, true, false, false, false, false, false, false, false, false, false, false, false] rfl rfl (any_of HT_.out (by kernel_rfl)) (fun _ _ _ h => h) (Or.inl ⟨by rfl, ?_⟩) ?_ ?_
      rotate_left
      · intro w'
        go_simp
        with_reducible rfl
      rotate_left
      · simp only [Act.put, List.setIfInBounds_toArray, List.set_cons_zero, List.set_cons_succ, i64_w, i32_w]
        rfl
      refine pure_ (i := 4) (N := (some 24)) (v := ?_) (a' := ?_) #[true, true, true, true, true, false, false, false, false, false, false, false, false, false, false] rfl rfl (any_of HT_.out (by kernel_rfl)) (fun _ _ _ h => h) (Or.inl ⟨by rfl, ?_⟩) ?_ ?_
      rotate_left
      · intro w'
        go_simp
        with_reducible rfl
      rotate_left
      · simp only [Act.put, List.setIfInBounds_toArray, List.set_cons_zero, List.set_cons_succ, i64_w, i32_w]
        rfl
      refine pure_ (i := 7) (N := (some 27)) (v := ?_) (a' := ?_) #[true, true, true, true, true, false, false, true, false, false, false, false, false, false, false] rfl rfl (any_of HT_.out (by kernel_rfl)) (fun _ _ _ h => h) (Or.inl ⟨by rfl, ?_⟩) ?_ ?_
      rotate_left
      · intro w'
        go_simp
        with_reducible rfl
      rotate_left
      · simp only [Act.put, List.setIfInBounds_toArray, List.set_cons_zero, List.set_cons_succ, i64_w, i32_w]
        rfl
      refine pure_ (i := 8) (N := (some 28)) (v := ?_) (a' := ?_) #[true, true, true, true, true, false, false, true, true, false, false, false, false, false, false] rfl rfl (any_of HT_.out (by kernel_rfl)) (fun _ _ _ h => h) (Or.inl ⟨by rfl, ?_⟩) ?_ ?_
      rotate_left
      · intro w'
        go_simp
        with_reducible rfl
      rotate_left
      · simp only [Act.put, List.setIfInBounds_toArray, List.set_cons_zero, List.set_cons_succ, i64_w, i32_w]
        rfl
      refine pure_ (i := 9) (N := (some 29)) (v := ?_) (a' := ?_) #[true, true, true, true, true, false, false, true, true, true, false, false, false, false, false] rfl rfl (any_of HT_.out (by kernel_rfl)) (fun _ _ _ h => h) (Or.inl ⟨by rfl, ?_⟩) ?_ ?_
      rotate_left
      · intro w'
        go_simp
        with_reducible rfl
      rotate_left
      · simp only [Act.put, List.setIfInBounds_toArray, List.set_cons_zero, List.set_cons_succ, i64_w, i32_w]
        rfl
      refine take_ (i := 5) (N := (some 25)) (v := ?_) (a' := ?_) #[true, true, true, true, true, true, false, true, true, true, false, false, false, false, false] rfl rfl (take_ofW HT_.out HW_.out (by kernel_rfl)) (fun _ _ _ h => h) (Or.inl ⟨by rfl, ?_⟩) hHeld ?_ ?_
      rotate_left
      · rintro w' ⟨s0, s1⟩
        go_simp
        with_reducible rfl
      rotate_left
      · simp only [Act.put, List.setIfInBounds_toArray, List.set_cons_zero, List.set_cons_succ, i64_w, i32_w]
        rfl
      refine take_ (i := 10) (N := (some 30)) (v := ?_) (a' := ?_) #[true, true, true, true, true, true, false, true, true, true, true, false, false, false, false] rfl rfl (take_ofW HT_.out HW_.out (by kernel_rfl)) (fun _ _ _ h => h) (Or.inl ⟨by rfl, ?_⟩) hHeld ?_ ?_
      rotate_left
      · rintro w' ⟨s0, s1⟩
        go_simp
        with_reducible rfl
      rotate_left
      · simp only [Act.put, List.setIfInBounds_toArray, List.set_cons_zero, List.set_cons_succ, i64_w, i32_w]
        rfl
      refine one_ (i := 6) (N := (some 26)) #[true, true, true, true, true, true, true, true, true, true, true, false, false, false, false] rfl rfl (one_of HT_.out (by kernel_rfl)) (by decide) (fun K hK => ?_)
      refine goes_ Try.func43 (by kernel_rfl) rfl #[.slice A' c.bs.length cap] (by rfl) rfl rfl (by (try simp only [List.map_toArray, List.map_cons, List.map_nil]); rfl) ?_
      with_reducible refine (fresh_calls _ _ c.bs _ (by exact HDRd.out) (by exact HD.out c HCM.out)).mono ?_
      rintro e w7 ⟨v7, rfl, ho7, hb7⟩
      refine ⟨_, rfl, ?_⟩
      have c0' := (hb7.cell (World.block_lt_of_cell? w6 _ c0d)).trans c0d
      have c1' := (hb7.cell (World.block_lt_of_cell? w6 _ c1d)).trans c1d
      have HO7 := Lib.hid (Kd.R_below HOd.out hb7)
      have HB7 := Lib.hid (below_step HB2d.out hb7)
      obtain ⟨A7, c7, e7⟩ := Kd.R_slice ho7
      subst e7
      have HF7 := Lib.hid ho7
      clear hb7 ho7
      refine hK.out _ _ ⟨c0', c1'⟩ (fun hHeld => ?_)
      clear hK K
      refine norm_ (a' := ?_) ?_ ?_
      rotate_left
      · show Act.put _ (some 26) _ = _
        simp only [Act.put, List.setIfInBounds_toArray, List.set_cons_zero, List.set_cons_succ, i64_w, i32_w]
        rfl
      refine pure_ (i := 11) (N := (some 31)) (v := ?_) (a' := ?_) #[true, true, true, true, true, true, true, true, true, true, true, true, false, false, false] rfl rfl (any_of HT_.out (by kernel_rfl)) (fun _ _ _ h => h) (Or.inl ⟨by rfl, ?_⟩) ?_ ?_
      rotate_left
      · intro w'
        go_simp
        with_reducible rfl
      rotate_left
      · simp only [Act.put, List.setIfInBounds_toArray, List.set_cons_zero, List.set_cons_succ, i64_w, i32_w]
        rfl
      refine one_ (i := 12) (N := (some 32)) #[true, true, true, true, true, true, true, true, true, true, true, true, true, false, false] rfl rfl (one_of HT_.out (by kernel_rfl)) (by decide) (fun K hK => ?_)
      refine value_ (w1 := ?_) (v := ?_) (by rfl) rfl ?_ ?_
      rotate_left 2
      · go_simp
        constructor
        · rfl
        · rfl
      refine hK.out _ _ ⟨(World.cell?_alloc_lt _ _ _ (World.block_lt_of_cell? _ _ c0')).trans c0', (World.cell?_alloc_lt _ _ _ (World.block_lt_of_cell? _ _ c1')).trans c1'⟩ (fun hHeld => ?_)
      clear hK K
      refine norm_ (a' := ?_) ?_ ?_
      rotate_left
      · show Act.put _ (some 32) _ = _
        simp only [Act.put, List.setIfInBounds_toArray, List.set_cons_zero, List.set_cons_succ, i64_w, i32_w]
        rfl
      refine one_ (i := 13) (N := (some 33)) #[true, true, true, true, true, true, true, true, true, true, true, true, true, true, false] rfl rfl (one_of HT_.out (by kernel_rfl)) (by decide) (fun K hK => ?_)
      refine Kd.R_append_step kF (w0 := w1) w1.heap.size (by rfl) (.tmp 20) (.tmp 32) 27 36 (.agg #[(.string ⟨#[]⟩), (.slice none 0 0), (.int .i64 0)]) 48 rfl Try.underlying27 info36 rfl (by decide) (by omega) u3 ((L.map FileC.out).take k) c.out [.string c.nm, .slice A7 c.bs.length c7, .int .i64 c.syn] (fun _ => True) (fun k_ => some k_ = (.slice A7 c.bs.length c7 : Value).ownBlock) rfl rfl ?aP ?aK (fun _ _ => trivial) (by exact HO7.out) (by exact HB7.out) (by exact HB7.out.size) ?aL ?_
      (case aP => exact k36_mkM _ _ _ c.out (Kd.R_tight rfl (Kd.R_lower HF7.out HB2d.out.size)))
      (case aK =>
        obtain ⟨_, hx7⟩ := Kd.R_own HF7.out
        obtain ⟨_, hy7⟩ := Kd.R_own HO7.out
        exact fun k_ hk_ => ⟨trivial, apart_blk hx7 hy7 (by decide) k_ hk_⟩)
      (case aL => have := HC.out; simp only [List.length_take, List.length_map]; omega)
      intro v13 w13 ho13 hb13 _ _
      have HB13 := Lib.hid (below_step HB.out hb13)
      have HBX := Lib.hid hb13
      have HO13 := Lib.hid ho13
      have c0'' := (HB13.out.cell (World.block_lt_of_cell? w _ HCW.out.1)).trans HCW.out.1
      have c1'' := (HB13.out.cell (World.block_lt_of_cell? w _ HCW.out.2)).trans HCW.out.2
      clear hb13 ho13
      refine hK.out _ _ ⟨c0'', c1''⟩ (fun hHeld => ?_)
      clear hK K
      refine norm_ (a' := ?_) ?_ ?_
      rotate_left
      · show Act.put _ (some 33) _ = _
        simp only [Act.put, List.setIfInBounds_toArray, List.set_cons_zero, List.set_cons_succ, i64_w, i32_w]
        rfl
      refine pure_ (i := 14) (N := (some 3)) (v := ?_) (a' := ?_) #[true, true, true, true, true, true, true, true, true, true, true, true, true, true, true] rfl rfl (any_of HT_.out (by kernel_rfl)) (fun _ _ _ h => h) (Or.inl ⟨by rfl, ?_⟩) ?_ ?_
      rotate_left
      · intro w'
        go_simp
        with_reducible rfl
      rotate_left
      · simp only [Act.put, List.setIfInBounds_toArray, List.set_cons_zero, List.set_cons_succ, i64_w, i32_w]
        rfl
      refine done_ (done_of HT_.out (by kernel_rfl)) ?_
      have hk2 : wrap64 ((k : Int) + 1) = (k : Int) + 1 := by have := HC.out; unfold wrap64; omega
      go_wp2
      go_roundw
      case rel =>
        refine ⟨k + 1, by omega, by rw [hk2]; rfl, ?_, HBX⟩
        have := HO13.out
        rw [List.take_succ_eq_append_getElem (by rw [List.length_map]; omega), List.getElem_map, ← HCD.out]
        exact Lib.hid this
      case measure =>
        show L.length - (intOf (.int .i64 (wrap64 ((k : Int) + 1)))).toNat < L.length - (intOf (.int .i64 (k : Int))).toNat
        rw [hk2]
        show L.length - ((k : Int) + 1).toNat < L.length - (k : Int).toNat
        omega
    · have hkn : k = L.length := by omega
      subst hkn
      go_wp2
      go_ret
      refine ⟨_, rfl, Kd.R_lower ?_ HB.out.size, below_step HB.out HB2.out⟩
      have := HO.out
      rwa [List.take_of_length_le (by rw [List.length_map]; exact Nat.le_refl _)] at this
end Go.Proofs.Ytflajlnknimjaaa.Dk

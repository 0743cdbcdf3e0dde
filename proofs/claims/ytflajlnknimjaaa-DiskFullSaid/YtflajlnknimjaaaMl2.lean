/- Merged: DkW4, DkW5, DkG, DkW6. -/
import Derived.Test.YtflajlnknimjaaaMl1
import Derived.Sort.KeysCollected
import Derived.Deep.LoopGhost
import Derived.Deep.QuietTactic
import Derived.BigQuiet
set_option linter.unusedVariables false
set_option linter.unusedSimpArgs false
/- Cut of the disk. -/
namespace Go.Proofs.Ytflajlnknimjaaa.Dk
open Go.RowKit Go.Maps Go.Proofs.YtflajlnknimjaaaW.PrintWords Go.Proofs.YtflajlnknimjaaaW.PrintMore Go.Proofs.Ytflajlnknimjaaa.Syn
attribute [local go_sem] max2_int min2_int max_two min_two

theorem nums_take (k : IntKind) (xs : List Int) (n : Nat) : nums k (xs.take n) = (nums k xs).take n := by simp [nums, List.map_take]
theorem own_slice (A : Option Addr) (n n' c c' : Nat) : (Value.slice A n c).ownBlock = (Value.slice A n' c').ownBlock := by cases A <;> rfl
theorem DRow.cut {w : World} {A : Option Addr} {n cap : Nat} {bs : List Int} (h : DRow w (.slice A n cap) bs) {k : Nat} (hk : k ≤ bs.length) : DRow w (.slice A k cap) (bs.take k) := by
  rcases h with ⟨hv, rfl⟩ | ⟨g, cap', cur, hv, h1, h2, h3, h4, h5⟩
  · have hk0 : k = 0 := by simpa using hk
    subst hk0
    cases hv
    exact .inl ⟨rfl, rfl⟩
  · injection hv with e1 e2 e3
    subst e1 e3
    refine .inr ⟨g, cap, cur, ?_, h1, ?_, h3, h4, ?_⟩
    · rw [List.length_take, Nat.min_eq_left hk]
    · rw [List.length_take]; omega
    · rw [nums_take, ← h5, List.length_take, List.take_take]

theorem cut_end {F : Nat → Prop} {p m : Nat} {w w1 : World} {L : List FileC} {d : St} {c : FileC} {nm : ByteArray} {n : Int} {A : Option Addr} {cap : Nat} {r : Int × St} {s : Int} (HI : DiskIs w F p m L d.last d.armed d.down) (HL : L.map FileC.abs = d.fs) (hsL : Srt FileC.nm L)
    (hc1 : Chg (· = p) w w1) (HI1 : DiskIs w1 F p m L d.last (tick d).2.armed (tick d).2.down) (hcm : c ∈ L) (hcn : c.nm = nm) (hv : c.dat = .slice A c.bs.length cap) (hk : n.toNat ≤ c.bs.length) (hs : s = ((min c.syn n.toNat : Nat) : Int))
    (HR : (0, { (tick d).2 with fs := upd nm (fun x => { x with dat := x.dat.take n.toNat, syn := min x.syn n.toNat }) d.fs }) = r) :
    Post F p w r (.returned (.int .i64 0)) ((w1.setCell ⟨c.blk, 0, none⟩ (.slice A n.toNat cap)).setCell ⟨c.blk, 1, none⟩ (.int .i64 s)) := by
  subst hs
  have HF1 := HI1.files c hcm
  have hc : Chg F w w1 := hc1.mono (fun k hk => by rw [hk]; exact HI.fp)
  have hc2 : Chg F w1 ((w1.setCell ⟨c.blk, 0, none⟩ (.slice A n.toNat cap)).setCell ⟨c.blk, 1, none⟩ (.int .i64 ((min c.syn n.toNat : Nat) : Int))) := (Chg.setCell w1 (p := ⟨c.blk, 0, none⟩) HF1.2.1 _).same (Chg.setCell _ (p := ⟨c.blk, 1, none⟩) HF1.2.1 _)
  have hcc := hc.same hc2
  have hh : ∀ k, k ≠ c.blk → ((w1.setCell ⟨c.blk, 0, none⟩ (.slice A n.toNat cap)).setCell ⟨c.blk, 1, none⟩ (.int .i64 ((min c.syn n.toNat : Nat) : Int))).heap[k]? = w1.heap[k]? := fun k hk => (Below.heap_setCell _ _ _ _ hk).trans (Below.heap_setCell _ _ _ _ hk)
  have hd := HF1.2.2.1
  rw [hv] at hd
  rw [← HR]
  refine ⟨rfl, ⟨m, updC c.nm { c with dat := .slice A n.toNat cap, bs := c.bs.take n.toNat, syn := min c.syn n.toNat } L, ?_, ?_⟩, hcc⟩
  · simp only [tick_last]
    refine (HI1.upd hsL hcm (c' := { c with dat := .slice A n.toNat cap, bs := c.bs.take n.toNat, syn := min c.syn n.toNat }) (G := F) rfl rfl ⟨?_, HF1.2.1, (hd.cut hk).heap (fun g hg => hh g ?_), fun g hg => HF1.2.2.2 g ?_⟩ (fun k _ hk _ => hh k hk) (fun g hg => .inl ?_) (fun _ h => h) (fun k hk => Nat.lt_of_lt_of_le (HI.lt k hk) hcc.size)).wide (fun _ h => .inl h) (Gr.lt HI.lt hcc.size)
    · have := sb_set (sb_set HF1.1 0 (.slice A n.toNat cap)) 1 (.int .i64 ((min c.syn n.toNat : Nat) : Int))
      simpa using this
    · obtain ⟨cur, hcur⟩ := (hd.cut hk).blk hg
      exact ne_of_type hcur HF1.1 (by decide)
    · rw [hv, own_slice A _ n.toNat _ cap]; exact hg
    · rw [hv, own_slice A _ n.toNat _ cap]; exact hg
  · rw [updC_abs hsL hcm (fun x => { x with dat := x.dat.take n.toNat, syn := min x.syn n.toNat }) rfl, HL, hcn]

set_option maxRecDepth 100000 in
set_option maxHeartbeats 400000 in
theorem cut_calls {F : Nat → Prop} {p : Nat} {w : World} {d : St} (nm : ByteArray) (n : Int) (h : DiskAt w F p d) (ok : d.Ok) (hn : nm.size ≤ 140737488351232) :
    Calls Try.prog 44 #[.pointer (some ⟨p, 0, none⟩), .string nm, .int .i64 n] w (Post F p w (d.cut nm n)) := by
  have hn1 : nm.size ≤ maxLen := by unfold maxLen; omega
  have H := Lib.hid h
  obtain ⟨m, L, hI, hL⟩ := h
  have b0 := sb_cell hI.blk 0
  have b3 := sb_cell hI.blk 3
  simp at b0 b3
  have hl := hI.map.look hn1
  have hla := look_abs hL nm
  have HI := Lib.hid hI
  generalize hr : d.cut nm n = r
  unfold St.cut at hr
  have HL := Lib.hid hL
  have HA := Lib.hid ok
  clear hI hL
  cases hd : d.down with
  | true =>
    rw [if_pos hd] at hr
    rw [hd] at b3
    have HR := Lib.hid hr
    cases hk : look FileC.nm nm L with
    | none =>
      rw [hk] at hl
      simp only [ptrOf] at hl
      clear hk hla hr hd ok
      go_enter Try.func44, Try.ntmps44
      go_wp2
      go_ret
      rw [← HR.out]
      exact Post.same H.out rfl 0
    | some c =>
      rw [hk] at hl
      simp only [ptrOf] at hl
      clear hk hla hr hd ok
      go_enter Try.func44, Try.ntmps44
      go_wp2
      go_ret
      rw [← HR.out]
      exact Post.same H.out rfl 0
  | false =>
  rw [if_neg (by rw [hd]; simp), hla] at hr
  rw [hd] at b3
  cases hk : look FileC.nm nm L with
  | none =>
    rw [hk] at hl hr
    simp only [ptrOf] at hl
    have HR := Lib.hid hr
    clear hk hla hd hr ok
    go_enter Try.func44, Try.ntmps44
    go_wp2
    go_ret
    rw [← HR.out]
    exact Post.same H.out rfl 0
  | some c =>
    rw [hk] at hl hr
    simp only [ptrOf] at hl
    simp only [Option.map_some] at hr
    have hr2 : (if n < 0 ∨ (c.bs.length : Int) < n then ((1 : Int), d) else if (tick d).1 = true then (11, (tick d).2)
      else (0, { (tick d).2 with fs := upd nm (fun x => { x with dat := x.dat.take n.toNat, syn := min x.syn n.toNat }) d.fs })) = r := hr
    clear hr
    obtain ⟨hcm, hcn⟩ := look_some hk
    have hfc := HI.out.files c hcm
    have hsL := srt_abs HL.out ok.srt
    obtain ⟨A, cap, hv, hcap, hcm2⟩ := hfc.2.2.1.form
    have q0 := sb_cell hfc.1 0
    have q1 := sb_cell hfc.1 1
    simp at q0 q1
    rw [hv] at q0
    have HV := Lib.hid hv
    have HN := Lib.hid hcn
    by_cases hn0 : n < 0
    · rw [if_pos (.inl hn0)] at hr2
      have HR := Lib.hid hr2
      have hb : decide (n < 0) = true := by simpa using hn0
      clear hk hla hd hr2 ok hfc hv hcn hcm hsL hn0
      go_enter Try.func44, Try.ntmps44
      go_wp2
      go_ret
      rw [← HR.out]
      exact Post.same H.out rfl 0
    have hb0 : decide (n < 0) = false := by simpa using hn0
    by_cases hn2 : (c.bs.length : Int) < n
    · rw [if_pos (.inr hn2)] at hr2
      have HR := Lib.hid hr2
      have hb : decide ((c.bs.length : Int) < n) = true := by simpa using hn2
      clear hk hla hd hr2 ok hfc hv hcn hcm hsL hn0 hn2
      go_enter Try.func44, Try.ntmps44
      go_wp2
      go_ret
      rw [← HR.out]
      exact Post.same H.out rfl 0
    have hb1 : decide ((c.bs.length : Int) < n) = false := by simpa using hn2
    rw [if_neg (by omega)] at hr2
    obtain ⟨i0, hi, _⟩ := info_parts PDiskLoads.info5
    have hsl := cut_to (P := Try.prog) 34 5 .i64 Try.underlying34 hi A c.bs.length cap n (by omega) (by omega) hcap
    have hn3 : n.toNat ≤ c.bs.length := by omega
    have hmn : mn (c.syn : Int) n = ((min c.syn n.toNat : Nat) : Int) := by unfold mn; split <;> omega
    have HMN := Lib.hid hmn
    have HN3 := Lib.hid hn3
    have HN0 := Lib.hid (show 0 ≤ n by omega)
    cases ht : (tick d).1 with
    | true =>
      rw [if_pos ht] at hr2
      have HT := Lib.hid ht
      have HR := Lib.hid hr2
      clear hk hla hd ht ok hv hfc hcn hcm hsL hr2 hn0 hn2 hi hsl hmn hn3
      go_enter Try.func44, Try.ntmps44
      go_wp2_with (go_at_call 35; refine (tick_calls p m _ d.last d.armed d.down d rfl rfl HA.out.armed (by exact HI.out.blk)).mono ?_; rintro e w1 ⟨rfl, hb1, hs1, hc1⟩; rw [HT.out]; have HX := Lib.hid hb1; have HS := Lib.hid hs1; clear hb1 hs1)
      go_ret
      rw [← HR.out]
      exact Post.ticked (nd := 0) HI.out HL.out HX.out HS.out hc1
    | false =>
      rw [if_neg (by rw [ht]; simp)] at hr2
      have HT := Lib.hid ht
      have HF := Lib.hid hfc
      have HR := Lib.hid hr2
      clear hk hla hd ht ok hv hfc hcn hr2 hn0 hn2 hi hmn hn3
      go_enter Try.func44, Try.ntmps44
      go_wp2_with (go_at_call 35; refine (tick_calls p m _ d.last d.armed d.down d rfl rfl HA.out.armed (by exact HI.out.blk)).mono ?_; rintro e w1 ⟨rfl, hb1, hs1, hc1⟩; rw [HT.out]; have hI1 := HI.out.head hb1 hc1 hs1; have hf1 := hI1.files c hcm; have c0 := sb_cell hf1.1 0; have c1 := sb_cell hf1.1 1; have f0 := sb_free hf1.1 0; have f1 := sb_free hf1.1 1; simp at c0 c1; rw [HV.out] at c0; have HI1 := Lib.hid hI1; have HF1 := Lib.hid hf1; have HS := Lib.hid hs1; clear hb1 hs1 hI1 hf1)
      all_goals go_ret
      · exact cut_end HI.out HL.out hsL hc1 HI1.out hcm HN.out HV.out HN3.out (by have := HN0.out; omega) HR.out
      · exact cut_end HI.out HL.out hsL hc1 HI1.out hcm HN.out HV.out HN3.out (by have := HN0.out; omega) HR.out
end Go.Proofs.Ytflajlnknimjaaa.Dk

/- Remove, Rename, Arm, New of the disk. -/
namespace Go.Proofs.Ytflajlnknimjaaa.Dk
open Go.RowKit Go.Maps Go.Proofs.YtflajlnknimjaaaW.PrintWords Go.Proofs.YtflajlnknimjaaaW.PrintMore Go.Proofs.Ytflajlnknimjaaa.Syn
attribute [local go_sem] max2_int min2_int max_two min_two

section
variable {F G : Nat → Prop} {p m : Nat} {w w' : World} {L L' : List FileC} {la : ByteArray} {ar : Nat} {dn : Bool}
/-- The map alone has turned: some of the files are left, perhaps under other names. -/
theorem DiskIs.turned (h : DiskIs w F p m L la ar dn) (hm : MapAt w' m L') (ht : w.mapTurned w' m) (hsub : ∀ c ∈ L', ∃ c0 ∈ L, c.blk = c0.blk ∧ c.dat = c0.dat ∧ c.bs = c0.bs ∧ c.syn = c0.syn) (hsep : L'.Pairwise Sep) : DiskIs w' F p m L' la ar dn := by
  obtain ⟨hs, hk⟩ := turned_heap ht
  refine ⟨(hk p (fun e => h.map.ne h.blk e.symm)).trans h.blk, h.fp, h.fm, hm, fun c hc => ?_, hsep, fun k hk' => by rw [hs]; exact h.lt k hk'⟩
  obtain ⟨c0, hc0, e1, e2, e3, e4⟩ := hsub c hc
  have hf := h.files c0 hc0
  unfold FileAt
  rw [e1, e2, e3, e4]
  refine hf.heap (fun k hk' => hk k ?_) (fun _ h => h)
  rcases hk' with rfl | hk'
  · exact fun e => h.map.ne hf.1 e.symm
  · obtain ⟨cur, hcur⟩ := hf.2.2.1.blk hk'
    exact fun e => h.map.ne hcur e.symm
theorem sep_era {nm : ByteArray} (h : L.Pairwise Sep) : (era FileC.nm nm L).Pairwise Sep := List.Pairwise.filter _ h
theorem sep_ins {x : FileC} (h : L.Pairwise Sep) (hx : ∀ y ∈ L, Sep x y) : (ins FileC.nm x L).Pairwise Sep := by
  induction L with
  | nil => simp [ins]
  | cons z r ih =>
    unfold ins
    have h' := List.pairwise_cons.1 h
    split
    · exact List.pairwise_cons.2 ⟨hx, h⟩
    · refine List.pairwise_cons.2 ⟨fun y hy => ?_, ih h'.2 (fun c hc => hx c (List.mem_cons_of_mem _ hc))⟩
      rcases mem_ins.1 hy with rfl | hy
      · exact (hx z List.mem_cons_self).symm
      · exact h'.1 y hy
/-- delete, at the disk's map. -/
theorem DiskIs.drop (h : DiskIs w F p m L la ar dn) {nm : ByteArray} (hn : nm.size ≤ maxLen) (ty : TypeId) :
    ∃ w', (Builtin.delete_ #[62, 9] ty #[.map (some m), .string nm]).run Try.prog w = .ok (.tuple #[]) w' ∧ DiskIs w' F p m (era FileC.nm nm L) la ar dn ∧ Chg F w w' ∧ ∀ c ∈ L, FileAt w' F c := by
  obtain ⟨w', h1, h2, h3⟩ := h.map.drop hn ty
  refine ⟨w', h1, h.turned h2 h3 (fun c hc => ⟨c, (mem_era.1 hc).1, rfl, rfl, rfl, rfl⟩) (sep_era h.sep), turned_chg h3 h.fm, fun c hc => ?_⟩
  have hf := h.files c hc
  refine hf.heap (fun k hk' => (turned_heap h3).2 k ?_) (fun _ h => h)
  rcases hk' with rfl | hk'
  · exact fun e => h.map.ne hf.1 e.symm
  · obtain ⟨cur, hcur⟩ := hf.2.2.1.blk hk'
    exact fun e => h.map.ne hcur e.symm
/-- A file that was taken away is put back under another name. -/
theorem DiskIs.moved {a : ByteArray} (h : DiskIs w F p m (era FileC.nm a L) la ar dn) (hsep : L.Pairwise Sep) {c : FileC} (hfc : FileAt w F c) (hc : c ∈ L) (hca : c.nm = a) {nm : ByteArray} (hn : nm.size ≤ maxLen) (hl : L.length < maxLen) :
    ∃ w', (Instr.mapUpdate 62 (.map (some m)) (.string nm) (.pointer (some ⟨c.blk, 0, none⟩))).run Try.prog w = .ok () w' ∧ DiskIs w' F p m (ins FileC.nm { c with nm := nm } (era FileC.nm nm (era FileC.nm a L))) la ar dn ∧ Chg F w w' := by
  obtain ⟨w2, h1, h2, h3⟩ := h.map.store { c with nm := nm } nm c.blk rfl rfl hn (Nat.lt_of_le_of_lt (List.length_filter_le _ _) hl)
  obtain ⟨hs2, hk2⟩ := turned_heap h3
  refine ⟨w2, h1, ?_, turned_chg h3 h.fm⟩
  refine ⟨(hk2 p (fun e => h.map.ne h.blk e.symm)).trans h.blk, h.fp, h.fm, h2, fun x hx => ?_, ?_, fun k hk' => by rw [hs2]; exact h.lt k hk'⟩
  · have hx0 : FileAt w F x := by
      rcases mem_ins.1 hx with rfl | hx
      · exact hfc
      · exact h.files x (mem_era.1 hx).1
    refine hx0.heap (fun k hk' => hk2 k ?_) (fun _ h => h)
    rcases hk' with rfl | hk'
    · exact fun e => h.map.ne hx0.1 e.symm
    · obtain ⟨cur, hcur⟩ := hx0.2.2.1.blk hk'
      exact fun e => h.map.ne hcur e.symm
  · refine sep_ins (sep_era h.sep) (fun y hy => ?_)
    obtain ⟨hy1, _⟩ := mem_era.1 hy
    obtain ⟨hy2, hy3⟩ := mem_era.1 hy1
    have hsp : Sep c y := sep_of hsep hc hy2 (fun e => hy3 (by rw [← e]; exact hca))
    exact hsp
theorem DiskIs.tail {a b : ByteArray} {c : FileC} (h : DiskIs w F p m L la ar dn) (hc : c ∈ L) (hca : c.nm = a) (ha : a.size ≤ maxLen) (hb : b.size ≤ maxLen) (hl : L.length < maxLen) :
    ∃ w2 w3, (Builtin.delete_ #[62, 9] 0 #[.map (some m), .string a]).run Try.prog w = .ok (.tuple #[]) w2 ∧ w2.cell? ⟨p, 0, none⟩ = some (.map (some m)) ∧
      (Instr.mapUpdate 62 (.map (some m)) (.string b) (.pointer (some ⟨c.blk, 0, none⟩))).run Try.prog w2 = .ok () w3 ∧ DiskIs w3 F p m (ins FileC.nm { c with nm := b } (era FileC.nm b (era FileC.nm a L))) la ar dn ∧ Chg F w w3 := by
  obtain ⟨w2, h1, h2, h3, h4⟩ := h.drop ha 0
  obtain ⟨w3, g1, g2, g3⟩ := h2.moved h.sep (h4 c hc) hc hca hb hl
  have c2 := sb_cell h2.blk 0
  exact ⟨w2, w3, h1, c2, g1, g2, h3.same g3⟩
theorem rename_end {d : St} {a b x : ByteArray} {c : FileC} {nd : Nat} {w1 wA w3 : World} {r : Int × St} (HI : DiskIs w F p m L d.last d.armed d.down) (HL : L.map FileC.abs = d.fs) (hc1 : Chg (· = p) (w.drewN nd) w1) (hcA : Chg (· = p) w1 wA)
    (h3 : DiskIs w3 F p m (ins FileC.nm { c with nm := b } (era FileC.nm b (era FileC.nm a L))) x (tick d).2.armed (tick d).2.down) (hc3 : Chg F wA w3)
    (HR : (0, { (tick d).2 with fs := ins Fl.nm { c.abs with nm := b } (era Fl.nm b (era Fl.nm a d.fs)), last := x }) = r) : Post F p w r (.returned (.int .i64 0)) w3 := by
  have hp : ∀ k, k = p → F k := fun k hk => by rw [hk]; exact HI.fp
  have hcc : Chg F w w3 := ((((Chg.drewN w nd).same hc1).same hcA).mono hp).same hc3
  rw [← HR]
  refine ⟨rfl, ⟨m, _, h3.wide (fun _ h => .inl h) (Gr.lt HI.lt hcc.size), ?_⟩, hcc⟩
  rw [map_ins (ka := FileC.nm) (kb := Fl.nm) FileC.abs (fun _ => rfl), map_era (ka := FileC.nm) (kb := Fl.nm) FileC.abs (fun _ => rfl), map_era (ka := FileC.nm) (kb := Fl.nm) FileC.abs (fun _ => rfl), HL]
  rfl
end

set_option maxRecDepth 100000 in
set_option maxHeartbeats 400000 in
theorem remove_calls {F : Nat → Prop} {p : Nat} {w : World} {d : St} (nm : ByteArray) (h : DiskAt w F p d) (ok : d.Ok) (hn : nm.size ≤ 140737488351232) :
    Calls Try.prog 46 #[.pointer (some ⟨p, 0, none⟩), .string nm] w (Post F p w (d.remove nm)) := by
  have hn1 : nm.size ≤ maxLen := by unfold maxLen; omega
  have H := Lib.hid h
  obtain ⟨m, L, hI, hL⟩ := h
  have b3 := sb_cell hI.blk 3
  simp at b3
  have hla := look_abs hL nm
  have HI := Lib.hid hI
  generalize hr : d.remove nm = r
  unfold St.remove at hr
  have HL := Lib.hid hL
  have HA := Lib.hid ok
  clear hI hL
  cases hd : d.down with
  | true =>
    rw [if_pos hd] at hr
    rw [hd] at b3
    have HR := Lib.hid hr
    clear hla hr hd ok
    go_enter Try.func46, Try.ntmps46
    go_wp2
    go_ret
    rw [← HR.out]
    exact Post.same H.out rfl 0
  | false =>
  rw [if_neg (by rw [hd]; simp), hla] at hr
  rw [hd] at b3
  cases hk : look FileC.nm nm L with
  | none =>
    rw [hk] at hr
    have HR := Lib.hid hr
    have hks : (look FileC.nm nm L).isSome = false := by rw [hk]; rfl
    clear hk hla hd hr ok
    go_enter Try.func46, Try.ntmps46
    go_wp2_with (go_at_call 34; refine (has_calls p m _ L nm _ _ _ hn1 (by exact HI.out.blk) (by exact HI.out.map)).mono ?_; rintro e w' ⟨rfl, rfl⟩)
    go_ret
    rw [← HR.out]
    exact Post.same H.out rfl 0
  | some c =>
    rw [hk] at hr
    simp only [Option.map_some] at hr
    have hks : (look FileC.nm nm L).isSome = true := by rw [hk]; rfl
    obtain ⟨hcm, hcn⟩ := look_some hk
    cases ht : (tick d).1 with
    | true =>
      rw [if_pos ht] at hr
      have HT := Lib.hid ht
      have HR := Lib.hid hr
      clear hk hla hd ht ok hcn hcm hr
      go_enter Try.func46, Try.ntmps46
      go_wp2_with (first
        | (go_at_call 34; refine (has_calls p m _ L nm _ _ _ hn1 (by exact HI.out.blk) (by exact HI.out.map)).mono ?_; rintro e w' ⟨rfl, rfl⟩)
        | (go_at_call 35; refine (tick_calls p m _ d.last d.armed d.down d rfl rfl HA.out.armed (by exact HI.out.blk)).mono ?_; rintro e w1 ⟨rfl, hb1, hs1, hc1⟩; rw [HT.out]; have HX := Lib.hid hb1; have HS := Lib.hid hs1; clear hb1 hs1))
      go_ret
      rw [← HR.out]
      exact Post.ticked (nd := 0) HI.out HL.out HX.out HS.out hc1
    | false =>
      rw [if_neg (by rw [ht]; simp)] at hr
      have HT := Lib.hid ht
      have hE : (d.last.toList == nm.toList) = decide (d.last = nm) := tl_beq _ _
      by_cases hln : d.last = nm
      · rw [if_pos hln] at hr
        have HR := Lib.hid hr
        have hE2 : (d.last.toList == nm.toList) = true := by rw [hE]; simp [hln]
        clear hk hla hd ht ok hcn hcm hr hE hln
        go_enter Try.func46, Try.ntmps46
        go_wp2_with (first
          | (go_at_call 34; refine (has_calls p m _ L nm _ _ _ hn1 (by exact HI.out.blk) (by exact HI.out.map)).mono ?_; rintro e w' ⟨rfl, rfl⟩)
          | (go_at_call 35; refine (tick_calls p m _ d.last d.armed d.down d rfl rfl HA.out.armed (by exact HI.out.blk)).mono ?_; rintro e w1 ⟨rfl, hb1, hs1, hc1⟩; rw [HT.out]; have hI1 := HI.out.head hb1 hc1 hs1; have c0 := sb_cell hI1.blk 0; simp at c0; obtain ⟨w2, hrun, hI2, hc2, _⟩ := hI1.drop hn1 0; have c1 := sb_cell hI2.blk 1; have f1 := sb_free hI2.blk 1; simp at c1; have HI1 := Lib.hid hI1; have HI2 := Lib.hid hI2; have HS := Lib.hid hs1; clear hb1 hs1 hI1 hI2))
        go_ret
        have hc : Chg F w w1 := hc1.mono (fun k hk => by rw [hk]; exact HI.out.fp)
        have hcc := (hc.same hc2).same (Chg.setCell w2 (p := ⟨p, 1, none⟩) HI.out.fp (.string ⟨#[]⟩))
        rw [← HR.out]
        refine ⟨rfl, ⟨m, era FileC.nm nm L, ?_, ?_⟩, hcc⟩
        · refine (HI2.out.head (la' := nil_) (ar' := (tick d).2.armed) (dn' := (tick d).2.down) ?_ (Chg.setCell (F := (· = p)) w2 (p := ⟨p, 1, none⟩) rfl _) (by simp [World.setCell])).wide (fun _ h => .inl h) (Gr.lt HI.out.lt hcc.size)
          have := sb_set HI2.out.blk 1 (.string ⟨#[]⟩)
          simpa [nil_] using this
        · rw [map_era (ka := FileC.nm) (kb := Fl.nm) FileC.abs (fun _ => rfl), HL.out]
      · rw [if_neg hln] at hr
        have HR := Lib.hid hr
        have hE2 : (d.last.toList == nm.toList) = false := by rw [hE]; simp [hln]
        clear hk hla hd ht ok hcn hcm hr hE hln
        go_enter Try.func46, Try.ntmps46
        go_wp2_with (first
          | (go_at_call 34; refine (has_calls p m _ L nm _ _ _ hn1 (by exact HI.out.blk) (by exact HI.out.map)).mono ?_; rintro e w' ⟨rfl, rfl⟩)
          | (go_at_call 35; refine (tick_calls p m _ d.last d.armed d.down d rfl rfl HA.out.armed (by exact HI.out.blk)).mono ?_; rintro e w1 ⟨rfl, hb1, hs1, hc1⟩; rw [HT.out]; have hI1 := HI.out.head hb1 hc1 hs1; have c0 := sb_cell hI1.blk 0; simp at c0; obtain ⟨w2, hrun, hI2, hc2, _⟩ := hI1.drop hn1 0; have c1 := sb_cell hI2.blk 1; have f1 := sb_free hI2.blk 1; simp at c1; have HI1 := Lib.hid hI1; have HI2 := Lib.hid hI2; have HS := Lib.hid hs1; clear hb1 hs1 hI1 hI2))
        go_ret
        have hc : Chg F w w1 := hc1.mono (fun k hk => by rw [hk]; exact HI.out.fp)
        have hcc := hc.same hc2
        rw [← HR.out]
        refine ⟨rfl, ⟨m, era FileC.nm nm L, ?_, ?_⟩, hcc⟩
        · exact HI2.out.wide (fun _ h => .inl h) (Gr.lt HI.out.lt hcc.size)
        · rw [map_era (ka := FileC.nm) (kb := Fl.nm) FileC.abs (fun _ => rfl), HL.out]

set_option maxHeartbeats 400000 in
theorem arm_calls {F : Nat → Prop} {p : Nat} {w : World} {d : St} (n : Int) (h : DiskAt w F p d) :
    Calls Try.prog 47 #[.pointer (some ⟨p, 0, none⟩), .int .i64 n] w fun e w' => e = .returned (.tuple #[]) ∧ DiskAt w' (Gr F w w') p (d.arm n) ∧ Chg F w w' := by
  obtain ⟨m, L, hI, hL⟩ := h
  have b2 := sb_cell hI.blk 2
  have f2 := sb_free hI.blk 2
  simp at b2
  have HI := Lib.hid hI
  have HL := Lib.hid hL
  clear hI hL
  have hmx : mx n 0 = ((n.toNat : Nat) : Int) := by unfold mx; split <;> omega
  have hend : ∀ s : Int, s = n.toNat → DiskAt (w.setCell ⟨p, 2, none⟩ (.int .i64 s)) (Gr F w (w.setCell ⟨p, 2, none⟩ (.int .i64 s))) p (d.arm n) ∧ Chg F w (w.setCell ⟨p, 2, none⟩ (.int .i64 s)) := by
    rintro s rfl
    have hc : Chg F w (w.setCell ⟨p, 2, none⟩ (.int .i64 (n.toNat : Int))) := Chg.setCell w (p := ⟨p, 2, none⟩) HI.out.fp _
    refine ⟨⟨m, L, ?_, HL.out⟩, hc⟩
    refine (HI.out.head (la' := d.last) (ar' := n.toNat) (dn' := d.down) ?_ (Chg.setCell (F := (· = p)) w (p := ⟨p, 2, none⟩) rfl _) (by simp [World.setCell])).wide (fun _ h => .inl h) (Gr.lt HI.out.lt hc.size)
    have := sb_set HI.out.blk 2 (.int .i64 (n.toNat : Int))
    simpa using this
  have HE := Lib.hid hend
  clear hend hmx
  by_cases h0 : 0 < n
  · go_enter Try.func47, Try.ntmps47
    go_wp2
    go_end0
    exact ⟨rfl, HE.out _ (by omega)⟩
  · go_enter Try.func47, Try.ntmps47
    go_wp2
    all_goals (go_end0; exact ⟨rfl, HE.out _ (by omega)⟩)

set_option maxHeartbeats 400000 in
theorem new_calls (w : World) :
    Calls Try.prog 10 #[] w fun e w' => ∃ p, e = .returned (.pointer (some ⟨p, 0, none⟩)) ∧ DiskAt w' (Gr (fun _ => False) w w') p St.new ∧ Chg (fun _ => False) w w' := by
  have hmm := @run_makeMap Try.prog
  go_enter Try.func10, Try.ntmps10
  go_wp2
  go_ret
  refine ⟨w.heap.size + 1, rfl, ⟨w.heap.size, [], ?_, rfl⟩, ?_⟩
  · have hz : ((w.alloc (.map #[] 0)).alloc (.cells #[.map (some w.heap.size), .string ⟨#[]⟩, .int .i64 0, .bool false] 64)).heap.size = w.heap.size + 2 := by simp
    have hb := sb_new (w.alloc (.map #[] 0)) (.cells #[.map (some w.heap.size), .string ⟨#[]⟩, .int .i64 0, .bool false] 64)
    have hz1 : (w.alloc (.map #[] 0)).heap.size = w.heap.size + 1 := by simp
    rw [hz1] at hb
    exact { blk := hb, fp := .inr ⟨by omega, by omega⟩, fm := .inr ⟨by omega, by omega⟩, map := ((World.ownsMap_made w Try.prog 9 RP).alloc _), files := fun c hc => absurd hc (by simp), sep := List.Pairwise.nil, lt := fun k hk => Or.elim hk (fun h => h.elim) (fun h => h.2) }
  · exact (Chg.alloc w _).same (Chg.alloc _ _)

set_option maxRecDepth 100000 in
set_option maxHeartbeats 800000 in
theorem rename_calls {F : Nat → Prop} {p : Nat} {w : World} {d : St} (nm to_ : ByteArray) (h : DiskAt w F p d) (ok : d.Ok) (hn : nm.size ≤ 140737488351232) (ho : to_.size ≤ 140737488351232) :
    Calls Try.prog 45 #[.pointer (some ⟨p, 0, none⟩), .string nm, .string to_] w (Post F p w (d.rename nm to_)) := by
  have hn1 : nm.size ≤ maxLen := by unfold maxLen; omega
  have ho1 : to_.size ≤ maxLen := by unfold maxLen; omega
  have ho2 : to_.size ≤ 9223372036854775806 := by omega
  have H := Lib.hid h
  obtain ⟨m, L, hI, hL⟩ := h
  have b0 := sb_cell hI.blk 0
  have b3 := sb_cell hI.blk 3
  simp at b0 b3
  have hl := hI.map.look hn1
  have hla := look_abs hL nm
  have HI := Lib.hid hI
  generalize hr : d.rename nm to_ = r
  unfold St.rename at hr
  have HL := Lib.hid hL
  have HA := Lib.hid ok
  clear hI hL
  cases hd : d.down with
  | true =>
    rw [if_pos hd] at hr
    rw [hd] at b3
    have HR := Lib.hid hr
    cases hk : look FileC.nm nm L with
    | none =>
      rw [hk] at hl
      simp only [ptrOf] at hl
      clear hk hla hr hd ok
      go_enter Try.func45, Try.ntmps45
      go_wp2
      go_ret
      rw [← HR.out]
      exact Post.same H.out rfl 0
    | some c =>
      rw [hk] at hl
      simp only [ptrOf] at hl
      clear hk hla hr hd ok
      go_enter Try.func45, Try.ntmps45
      go_wp2
      go_ret
      rw [← HR.out]
      exact Post.same H.out rfl 0
  | false =>
  rw [if_neg (by rw [hd]; simp), hla] at hr
  rw [hd] at b3
  cases hk : look FileC.nm nm L with
  | none =>
    rw [hk] at hl hr
    simp only [ptrOf] at hl
    have HR := Lib.hid hr
    clear hk hla hd hr ok
    go_enter Try.func45, Try.ntmps45
    go_wp2
    go_ret
    rw [← HR.out]
    exact Post.same H.out rfl 0
  | some c =>
    rw [hk] at hl hr
    simp only [ptrOf] at hl
    simp only [Option.map_some] at hr
    obtain ⟨hcm, hcn⟩ := look_some hk
    have hlen : L.length < maxLen := by
      have := ok.cnt
      rw [← HL.out, List.length_map] at this
      unfold maxLen; omega
    cases hkn : okName to_ with
    | false =>
      rw [if_pos hkn] at hr
      have HR := Lib.hid hr
      clear hk hla hd ok hcn hcm hr
      go_enter Try.func45, Try.ntmps45
      go_wp2_with (go_at_call 33; refine (named_calls _ _ ho2).mono ?_; rintro e w' ⟨rfl, ⟨nd, rfl⟩⟩)
      go_ret
      rw [← HR.out]
      exact Post.same H.out rfl nd
    | true =>
    rw [if_neg (by rw [hkn]; simp)] at hr
    cases ht : (tick d).1 with
    | true =>
      rw [if_pos ht] at hr
      have HT := Lib.hid ht
      have HR := Lib.hid hr
      clear hk hla hd ht ok hcn hcm hr
      go_enter Try.func45, Try.ntmps45
      go_wp2_with (first
        | (go_at_call 33; refine (named_calls _ _ ho2).mono ?_; rintro e w' ⟨rfl, ⟨nd, rfl⟩⟩)
        | (go_at_call 35; refine (tick_calls p m _ d.last d.armed d.down d rfl rfl HA.out.armed (by exact HI.out.blk)).mono ?_; rintro e w1 ⟨rfl, hb1, hs1, hc1⟩; rw [HT.out]; have HX := Lib.hid hb1; have HS := Lib.hid hs1; clear hb1 hs1))
      go_ret
      rw [← HR.out]
      exact Post.ticked (nd := nd) HI.out HL.out HX.out HS.out hc1
    | false =>
    rw [if_neg (by rw [ht]; simp)] at hr
    have HT := Lib.hid ht
    have HC := Lib.hid hcm
    have HN := Lib.hid hcn
    have HLen := Lib.hid hlen
    by_cases hab : nm = to_
    · rw [if_pos hab] at hr
      have hE : (nm.toList == to_.toList) = true := by rw [tl_beq]; simp [hab]
      have HR := Lib.hid hr
      clear hk hla hd ht ok hcn hcm hr hab
      go_enter Try.func45, Try.ntmps45
      go_wp2_with (first
        | (go_at_call 33; refine (named_calls _ _ ho2).mono ?_; rintro e w' ⟨rfl, ⟨nd, rfl⟩⟩)
        | (go_at_call 35; refine (tick_calls p m _ d.last d.armed d.down d rfl rfl HA.out.armed (by exact HI.out.blk)).mono ?_; rintro e w1 ⟨rfl, hb1, hs1, hc1⟩; rw [HT.out]; have HX := Lib.hid hb1; have HS := Lib.hid hs1; clear hb1 hs1))
      go_ret
      rw [← HR.out]
      exact Post.ticked (nd := nd) HI.out HL.out HX.out HS.out hc1
    rw [if_neg hab] at hr
    have hE : (nm.toList == to_.toList) = false := by rw [tl_beq]; simp [hab]
    have hE1 : (d.last.toList == nm.toList) = decide (d.last = nm) := tl_beq _ _
    have hE2 : (d.last.toList == to_.toList) = decide (d.last = to_) := tl_beq _ _
    by_cases hq1 : d.last = nm
    · rw [if_pos hq1] at hr
      rw [decide_eq_true hq1] at hE1
      have HR := Lib.hid hr
      clear hk hla hd ht ok hcn hcm hr hab hE2 hq1 hlen
      go_enter Try.func45, Try.ntmps45
      go_wp2_with (first
        | (go_at_call 33; refine (named_calls _ _ ho2).mono ?_; rintro e w' ⟨rfl, ⟨nd, rfl⟩⟩)
        | (go_at_call 35; refine (tick_calls p m _ d.last d.armed d.down d rfl rfl HA.out.armed (by exact HI.out.blk)).mono ?_; rintro e w1 ⟨rfl, hb1, hs1, hc1⟩; rw [HT.out]; have hI1 := HI.out.head hb1 ((Chg.drewN w nd).same hc1) hs1; have c1 := sb_cell hI1.blk 1; have f1 := sb_free hI1.blk 1; simp at c1; have hI2 := hI1.head (w1 := w1.setCell ⟨p, 1, none⟩ (.string to_)) (la' := to_) (ar' := (tick d).2.armed) (dn' := (tick d).2.down) (by have := sb_set hI1.blk 1 (.string to_); simpa using this) (Chg.setCell (F := (· = p)) w1 (p := ⟨p, 1, none⟩) rfl _) (by simp [World.setCell]); have c0 := sb_cell hI1.blk 0; simp at c0; obtain ⟨w2, w3, hrun, c2, hrun3, hI4, hc3⟩ := hI2.tail HC.out HN.out hn1 ho1 HLen.out; have HI4 := Lib.hid hI4; clear hb1 hs1 hI1 hI2 hI4))
      go_ret
      exact rename_end HI.out HL.out hc1 (Chg.setCell (F := (· = p)) w1 (p := ⟨p, 1, none⟩) rfl _) HI4.out hc3 HR.out
    rw [if_neg hq1] at hr
    rw [decide_eq_false hq1] at hE1
    by_cases hq2 : d.last = to_
    · rw [if_pos hq2] at hr
      rw [decide_eq_true hq2] at hE2
      have HR := Lib.hid hr
      clear hk hla hd ht ok hcn hcm hr hab hq1 hq2 hlen
      go_enter Try.func45, Try.ntmps45
      go_wp2_with (first
        | (go_at_call 33; refine (named_calls _ _ ho2).mono ?_; rintro e w' ⟨rfl, ⟨nd, rfl⟩⟩)
        | (go_at_call 35; refine (tick_calls p m _ d.last d.armed d.down d rfl rfl HA.out.armed (by exact HI.out.blk)).mono ?_; rintro e w1 ⟨rfl, hb1, hs1, hc1⟩; rw [HT.out]; have hI1 := HI.out.head hb1 ((Chg.drewN w nd).same hc1) hs1; have c1 := sb_cell hI1.blk 1; have f1 := sb_free hI1.blk 1; simp at c1; have hI2 := hI1.head (w1 := w1.setCell ⟨p, 1, none⟩ (.string ⟨#[]⟩)) (la' := nil_) (ar' := (tick d).2.armed) (dn' := (tick d).2.down) (by have := sb_set hI1.blk 1 (.string ⟨#[]⟩); simpa [nil_] using this) (Chg.setCell (F := (· = p)) w1 (p := ⟨p, 1, none⟩) rfl _) (by simp [World.setCell]); have c0 := sb_cell hI1.blk 0; simp at c0; obtain ⟨w2, w3, hrun, c2, hrun3, hI4, hc3⟩ := hI2.tail HC.out HN.out hn1 ho1 HLen.out; have HI4 := Lib.hid hI4; clear hb1 hs1 hI1 hI2 hI4))
      go_ret
      exact rename_end HI.out HL.out hc1 (Chg.setCell (F := (· = p)) w1 (p := ⟨p, 1, none⟩) rfl _) HI4.out hc3 HR.out
    · rw [if_neg hq2] at hr
      rw [decide_eq_false hq2] at hE2
      have HR := Lib.hid hr
      clear hk hla hd ht ok hcn hcm hr hab hq1 hq2 hlen
      go_enter Try.func45, Try.ntmps45
      go_wp2_with (first
        | (go_at_call 33; refine (named_calls _ _ ho2).mono ?_; rintro e w' ⟨rfl, ⟨nd, rfl⟩⟩)
        | (go_at_call 35; refine (tick_calls p m _ d.last d.armed d.down d rfl rfl HA.out.armed (by exact HI.out.blk)).mono ?_; rintro e w1 ⟨rfl, hb1, hs1, hc1⟩; rw [HT.out]; have hI1 := HI.out.head hb1 ((Chg.drewN w nd).same hc1) hs1; have c1 := sb_cell hI1.blk 1; simp at c1; have c0 := sb_cell hI1.blk 0; simp at c0; obtain ⟨w2, w3, hrun, c2, hrun3, hI4, hc3⟩ := hI1.tail HC.out HN.out hn1 ho1 HLen.out; have HI4 := Lib.hid hI4; clear hb1 hs1 hI1 hI4))
      go_ret
      exact rename_end HI.out HL.out hc1 (Chg.refl _ _) HI4.out hc3 HR.out
end Go.Proofs.Ytflajlnknimjaaa.Dk

/- Ranging over the disk's map: the laws at 'range' and 'next', in terms of the files that are still to come. -/
namespace Go.Proofs.Ytflajlnknimjaaa.Dk
open Go.RowKit Go.Maps Go.Proofs.YtflajlnknimjaaaW.PrintWords Go.Proofs.YtflajlnknimjaaaW.PrintMore Go.Proofs.Ytflajlnknimjaaa.Syn

/-- The loop over map m is under way with iterator r; T: the files still to come. -/
def Going (w : World) (m r : Nat) (L T : List FileC) (cnt : Nat) : Prop :=
  ∃ left, w.ranges Try.prog 9 RP m r L.length (mapD L) left cnt ∧ T = L.filter fun c => left (.string (bts c.nm))

def mkV (o : Option Nat) : Value := .pointer (o.map fun b => ⟨b, 0, none⟩)
theorem invK (key : Value) (kl : Lit) (h : keyOf Try.prog 9 key = some kl) : ∃ x : ByteArray, key = .string x := by
  obtain ⟨x, hx, _⟩ := Go.Maps.keyOf_str Try.underlying9 h
  exact ⟨_, hx⟩
theorem invV (v : Value) (y : DataW Unit × List MemPlace) (h : RP v = some y) : ∃ o, v = mkV o := by
  unfold RP at h
  split at h
  · rename_i b; exact ⟨some b, rfl⟩
  · exact ⟨none, rfl⟩
  · cases h

section
variable {P : Program} (w : World) {ops : Array Oper} {rest : List Oper} {o : Oper} {a : Act} {Q : Exit → Act → World → Prop} {m : Nat} {L : List FileC}
theorem wpList_range_d (hg : o.guard = none) (x : Operand) (hop : o.op = Op.range 62 x) (hx : a.eval x = .map (some m)) (hm : MapAt w m L)
    (hK : ∀ w', Going w' m w.heap.size L L L.length → w.grownBy w' none → w'.heap.size = w.heap.size + 1 → wpList Try.prog ops Q rest (a.put o.dst (.pointer (some ⟨w.heap.size, 0, none⟩))) w') :
    wpList Try.prog ops Q (o :: rest) a w := by
  refine wpList_range_own w hg x 62 hop 9 66 lawS Try.underlying62 RP m L.length (mapD L) hx hm ?_
  intro w' h1 h2 h3
  rw [size_mapD] at h1
  refine hK w' ⟨_, h1, ?_⟩ h2 h3
  rw [eq_comm, List.filter_eq_self]
  intro c hc
  show (L.map entry).any _ = true
  exact List.any_eq_true.2 ⟨entry c, List.mem_map.2 ⟨c, hc, rfl⟩, by rw [show (entry c).1 = Lit.string (bts c.nm) from rfl, sameKey_str]; simp⟩
theorem wpList_next_d (hg : o.guard = none) (it : Operand) (hop : o.op = Op.next it false) (r : Nat) (T : List FileC) (cnt : Nat) (hs : Srt FileC.nm L) (hit : a.eval it = .pointer (some ⟨r, 0, none⟩)) (h : Going w m r L T cnt)
    (hDone : T = [] → wpList Try.prog ops Q rest (a.put o.dst (.tuple #[.bool false])) w)
    (hMore : ∀ (c : FileC) (w' : World) (cnt' : Nat), c ∈ T → c ∈ L → Going w' m r L (era FileC.nm c.nm T) cnt' → cnt' < cnt → w.grownBy w' (some r) → w'.heap.size = w.heap.size →
      (Instr.entry (.pointer (some ⟨r, 0, none⟩))).run Try.prog w' = .ok (.tuple #[.string c.nm, .pointer (some ⟨c.blk, 0, none⟩)]) w' → wpList Try.prog ops Q rest (a.put o.dst (.tuple #[.bool true, .string c.nm, .pointer (some ⟨c.blk, 0, none⟩)])) w') :
    wpList Try.prog ops Q (o :: rest) a w := by
  obtain ⟨left, hr, rfl⟩ := h
  refine wpList_next_ranges w hg it hop 9 lawS RP Value.string mkV invK invV m r L.length (mapD L) left cnt hit hr ?_ ?_
  · intro _ hl
    refine hDone ?_
    rw [List.filter_eq_nil_iff]
    intro c _
    rw [hl]
    simp
  · intro x o kl y w' cnt' hkey hlk hv hat hr' hlt hgr hsz hen
    have hkl : kl = .string (bts x) := by
      obtain ⟨x', hx', e, _⟩ := Go.Maps.keyOf_str Try.underlying9 hkey
      have h2 : Value.string x = Value.string ⟨x'.toArray⟩ := hx'
      have h3 : x = ⟨x'.toArray⟩ := Value.string.inj h2
      rw [e, h3]
    subst hkl
    have h1 := hat .nil
    have h2 := hat (.agg [])
    cases hlo : look FileC.nm x L with
    | none =>
      exfalso
      have e1 : (mapD L).atKey (.string (bts x)) (.agg []) = .agg [] := by
        have hno := look_none.1 hlo
        unfold mapD DataW.atKey
        simp only
        rw [List.find?_eq_none.2 (fun p hp => by
          obtain ⟨c, hc, rfl⟩ := List.mem_map.1 hp
          rw [show (entry c).1 = Lit.string (bts c.nm) from rfl, sameKey_str]
          simpa using hno c hc)]
      rw [atKey_mapD, hlo] at h1
      rw [e1] at h2
      simp only at h1
      rw [← h1] at h2
      cases h2
    | some c =>
      obtain ⟨hcL, hcx⟩ := look_some hlo
      subst hcx
      rw [atKey_mapD, hlo] at h1
      simp only at h1
      have ho : mkV o = .pointer (some ⟨c.blk, 0, none⟩) := RP_inv2 (ps := y.2) (by rw [hv, h1])
      rw [ho] at hen ⊢
      refine hMore c w' cnt' (List.mem_filter.2 ⟨hcL, hlk⟩) hcL ⟨_, hr', ?_⟩ hlt hgr hsz hen
      unfold era
      rw [List.filter_filter]
      apply List.filter_congr
      intro z _
      rw [sameKey_str]
      cases left (.string (bts z.nm)) <;> simp
end
section
variable {w w' : World} {m r cnt : Nat} {L T : List FileC}
theorem Going.kept {row : Option Nat} (h : Going w m r L T cnt) (hg : w.grownBy w' row) (h1 : some m ≠ row) (h2 : some r ≠ row) : Going w' m r L T cnt := by
  obtain ⟨left, hr, e⟩ := h
  exact ⟨left, hr.kept hg h1 h2, e⟩
theorem Going.left_eq (h : Going w m r L T cnt) : w.rangeLeft m r = cnt := by
  obtain ⟨left, hr, e⟩ := h
  exact hr.left_eq
theorem Going.lt (h : Going w m r L T cnt) : r < w.heap.size := by
  obtain ⟨left, hr, e⟩ := h
  exact hr.lt
theorem Going.map (h : Going w m r L T cnt) : MapAt w m L := by
  obtain ⟨left, hr, e⟩ := h
  exact hr.owns
theorem Going.sub (h : Going w m r L T cnt) : ∀ c ∈ T, c ∈ L := by
  obtain ⟨left, hr, e⟩ := h
  subst e
  exact fun c hc => (List.mem_filter.1 hc).1
end
end Go.Proofs.Ytflajlnknimjaaa.Dk

/- Size, Crash of the disk. -/
namespace Go.Proofs.Ytflajlnknimjaaa.Dk
open Go.RowKit Go.Maps Go.Proofs.YtflajlnknimjaaaW.PrintWords Go.Proofs.YtflajlnknimjaaaW.PrintMore Go.Proofs.Ytflajlnknimjaaa.Syn
attribute [local go_sem] max2_int min2_int max_two min_two

def sumC (L : List FileC) : Nat := (L.map fun c => c.bs.length).sum
theorem sumC_abs {L : List FileC} {fs : List Fl} (h : L.map FileC.abs = fs) : sumC L = total fs := by
  rw [← h]; unfold sumC total; rw [List.map_map]; rfl
theorem sumC_take {T : List FileC} (hs : Srt FileC.nm T) {c : FileC} (hc : c ∈ T) : sumC (era FileC.nm c.nm T) + c.bs.length = sumC T := by
  unfold era
  induction T with
  | nil => cases hc
  | cons z r ih =>
    have h' := List.pairwise_cons.1 hs
    rcases List.mem_cons.1 hc with rfl | hc
    · have : (r.filter fun x => decide (x.nm ≠ c.nm)) = r := by
        rw [List.filter_eq_self]
        intro y hy
        simpa using fun e => before_ne (h'.1 y hy) e.symm
      rw [List.filter_cons_of_neg (by simp), this]
      simp [sumC]; omega
    · have hz : z.nm ≠ c.nm := before_ne (h'.1 c hc)
      rw [List.filter_cons_of_pos (by simpa using hz)]
      have := ih h'.2 hc
      simp only [sumC, List.map_cons, List.sum_cons] at this ⊢
      omega
theorem chg_none {G : Nat → Prop} {w w1 : World} (h : Chg (fun _ => False) w w1) : Chg G w w1 := h.mono (fun _ h => h.elim)

set_option maxRecDepth 100000 in
set_option maxHeartbeats 400000 in
theorem size_calls {F : Nat → Prop} {p : Nat} {w : World} {d : St} (h : DiskAt w F p d) (hs : Srt Fl.nm d.fs) (ht : total d.fs ≤ 1099511627776) :
    Calls Try.prog 16 #[.pointer (some ⟨p, 0, none⟩)] w fun e w' => e = .returned (.int .i64 (total d.fs)) ∧ Chg (fun _ => False) w w' := by
  obtain ⟨m, L, hI, hL⟩ := h
  have b0 := sb_cell hI.blk 0
  simp at b0
  have hsL := srt_abs hL hs
  rw [← sumC_abs hL] at ht ⊢
  have HI := Lib.hid hI
  have HM := Lib.hid hI.map
  have HL := Lib.hid hsL
  have HT := Lib.hid ht
  have hmlt : m < w.heap.size := hI.lt m hI.fm
  have HMl := Lib.hid hmlt
  clear hI hL hsL hs ht hmlt
  go_enter Try.func16, Try.ntmps16
  go_wp2_with (first
    | (at_range; refine wpList_range_d _ rfl _ rfl rfl HM.out ?_; intro w0 hg0 hgr0 hs0; have HS0 := Lib.hid hs0; clear hs0))
  go_frame
  go_loopw [3] (fun n wr => ∃ T cnt, Going wr m w.heap.size L T cnt ∧ Srt FileC.nm T ∧ sumC T ≤ sumC L ∧ n = .int .i64 ((sumC L - sumC T : Nat) : Int) ∧ Chg (fun _ => False) w wr) (fun _ wr => wr.rangeLeft m w.heap.size)
  case atStart => exact ⟨L, L.length, hg0, HL.out, Nat.le_refl _, by simp, .of_grown hgr0 (fun k hk => by cases hk)⟩
  case round =>
    obtain ⟨T, cnt, hg, hsT, hle, rfl, hch⟩ := hrel
    have HST := Lib.hid hsT
    have HLe := Lib.hid hle
    clear hsT hle
    go_wp2_with (first
      | (at_next; refine wpList_next_d _ rfl _ rfl w.heap.size T cnt HL.out rfl hg ?_ ?_))
    · intro hT
      subst hT
      go_wp2
      go_ret
      exact ⟨by simp [sumC], hch⟩
    · intro c w1 cnt1 hcT hcL hg1 hlt hgr1 hs1 hen
      have HS1 := Lib.hid hs1
      have HG1 := Lib.hid hgr1
      have hch1 : Chg (fun _ => False) w w1 := hch.trans (G := fun k => k = w.heap.size) (.of_grown hgr1 (fun k hk => .inl (by cases hk; rfl))) (fun k hk => .inr (by rw [hk]; exact Nat.le_refl _))
      have hf := HI.out.files c hcL
      have hf1 : w1.heap[c.blk]? = some (.cells #[c.dat, .int .i64 c.syn] 68 (0, 0)) := hch1.heap hf.1 (fun h => h)
      obtain ⟨A, cap, hv, _, _⟩ := hf.2.2.1.form
      have c0 := sb_cell hf1 0
      simp at c0
      rw [hv] at c0
      have hsum := sumC_take HST.out hcT
      have hle := HLe.out
      have htot := HT.out
      have hb1 : 0 ≤ ((sumC L - sumC T : Nat) : Int) + c.bs.length := by omega
      have hb2 : ((sumC L - sumC T : Nat) : Int) + c.bs.length ≤ 1099511627776 := by omega
      have HSum := Lib.hid hsum
      have HG := Lib.hid hg1
      clear hs1 hgr1 hf hf1 hv hsum hle htot
      go_wp2
      go_roundw
      case rel =>
        have h1 := HSum.out
        have h2 := HLe.out
        refine ⟨era FileC.nm c.nm T, cnt1, HG.out, HST.out.era _, by omega, ?_, hch1⟩
        congr 1
        omega
      case measure => rw [HG.out.left_eq, hg.left_eq]; exact hlt

def crashDat (v : Value) (n : Nat) : Value := match v with | .slice A _ _ => .slice A n n | v => v
def crashC (last : ByteArray) (keep : Int) (c : FileC) : FileC := { c with dat := crashDat c.dat (kept last keep c.abs), bs := c.bs.take (kept last keep c.abs), syn := kept last keep c.abs }
theorem DRow.cut3 {w : World} {A : Option Addr} {n cap : Nat} {bs : List Int} (h : DRow w (.slice A n cap) bs) {k : Nat} (hk : k ≤ bs.length) : DRow w (.slice A k k) (bs.take k) := by
  rcases h with ⟨hv, rfl⟩ | ⟨g, cap', cur, hv, h1, h2, h3, h4, h5⟩
  · have hk0 : k = 0 := by simpa using hk
    subst hk0
    cases hv
    exact .inl ⟨rfl, rfl⟩
  · injection hv with e1 e2 e3
    subst e1 e3
    refine .inr ⟨g, k, cur, ?_, h1, ?_, by omega, by omega, ?_⟩
    · rw [List.length_take, Nat.min_eq_left hk]
    · rw [List.length_take]; omega
    · rw [nums_take, ← h5, List.length_take, List.take_take]
theorem slice3 {P : Program} (t e : TypeId) {i : TypeInfo} (ht : P.underlying t = some (.slice e)) (hi : P.info? e = some i) (A : Option Addr) (n c k : Nat) (hk : k ≤ c) (W : World) :
    (Instr.slice t (.slice A n c) none (some (.int .i64 k)) (some (.int .i64 k))).run P W = .ok (.slice A k k) W := by
  have hel : P.elem t = e := by simp [Program.elem, ht]
  have hu : P.underlying t = some (.slice (P.elem t)) := by rw [hel]; exact ht
  have ha : (A.map fun x => x.add 0) = A := by cases A <;> simp [Addr.add]
  rw [run_slice_hm W t A n c hu .i64 .i64 k k (by omega) (by omega) (by omega), hel]
  simp [sizeOf, typeInfo, hi, sliced, Result.andThen, ha]

theorem kept_le (last : ByteArray) (keep : Int) (x : Fl) (h : x.syn ≤ x.dat.length) : kept last keep x ≤ x.dat.length := by unfold kept; split <;> omega
/-- The files while a crash is under way: T are still as they were. -/
def halfway (last : ByteArray) (keep : Int) (T : List FileC) (c : FileC) : FileC := if ∃ t ∈ T, t.nm = c.nm then c else crashC last keep c

theorem crash_end {F : Nat → Prop} {p m : Nat} {w wr : World} {L : List FileC} {d : St} {keep : Int} (HI : DiskIs w F p m L d.last d.armed d.down) (HA : L.map FileC.abs = d.fs) (HD : DiskIs wr F p m (L.map (halfway d.last keep [])) d.last d.armed d.down) (hch : Chg F w wr) :
    DiskAt (((wr.setCell ⟨p, 1, none⟩ (.string ⟨#[]⟩)).setCell ⟨p, 2, none⟩ (.int .i64 0)).setCell ⟨p, 3, none⟩ (.bool false)) (Gr F w (((wr.setCell ⟨p, 1, none⟩ (.string ⟨#[]⟩)).setCell ⟨p, 2, none⟩ (.int .i64 0)).setCell ⟨p, 3, none⟩ (.bool false))) p (d.crash keep) ∧
      Chg F w (((wr.setCell ⟨p, 1, none⟩ (.string ⟨#[]⟩)).setCell ⟨p, 2, none⟩ (.int .i64 0)).setCell ⟨p, 3, none⟩ (.bool false)) := by
  have hp : Chg (· = p) wr (((wr.setCell ⟨p, 1, none⟩ (.string ⟨#[]⟩)).setCell ⟨p, 2, none⟩ (.int .i64 0)).setCell ⟨p, 3, none⟩ (.bool false)) :=
    ((Chg.setCell (F := (· = p)) wr (p := ⟨p, 1, none⟩) rfl _).same (Chg.setCell (F := (· = p)) _ (p := ⟨p, 2, none⟩) rfl _)).same (Chg.setCell (F := (· = p)) _ (p := ⟨p, 3, none⟩) rfl _)
  have hcc := hch.same (hp.mono (G := F) (fun k hk => by rw [hk]; exact HI.fp))
  refine ⟨⟨m, L.map (halfway d.last keep []), ?_, ?_⟩, hcc⟩
  · refine (HD.head (la' := nil_) (ar' := 0) (dn' := false) ?_ hp (by simp [World.setCell])).wide (fun _ h => .inl h) (Gr.lt HI.lt hcc.size)
    have := sb_set (sb_set (sb_set HD.blk 1 (.string ⟨#[]⟩)) 2 (.int .i64 0)) 3 (.bool false)
    simpa [nil_] using this
  · show _ = d.fs.map _
    rw [← HA, List.map_map, List.map_map]
    apply List.map_congr_left
    intro c _
    simp [halfway, crashC, FileC.abs]

theorem halfway_nm (last : ByteArray) (keep : Int) (T : List FileC) (c : FileC) : (halfway last keep T c).nm = c.nm := by unfold halfway; split <;> rfl
theorem halfway_srt {L : List FileC} (h : Srt FileC.nm L) (last : ByteArray) (keep : Int) (T : List FileC) : Srt FileC.nm (L.map (halfway last keep T)) := by
  unfold Srt
  rw [List.pairwise_map]
  exact h.imp (fun {a b} hab => by rw [halfway_nm, halfway_nm]; exact hab)
theorem halfway_step {L T : List FileC} (hs : Srt FileC.nm L) (last : ByteArray) (keep : Int) {c : FileC} (hcL : c ∈ L) (hcT : c ∈ T) :
    updC c.nm (crashC last keep c) (L.map (halfway last keep T)) = L.map (halfway last keep (era FileC.nm c.nm T)) := by
  unfold updC
  rw [List.map_map]
  apply List.map_congr_left
  intro x hx
  simp only [Function.comp, halfway_nm]
  by_cases h : x.nm = c.nm
  · rw [if_pos h, hs.inj hx hcL h]
    unfold halfway
    rw [if_neg]
    rintro ⟨t, ht, e⟩
    exact (mem_era.1 ht).2 e
  · rw [if_neg h]
    unfold halfway
    by_cases h2 : ∃ t ∈ T, t.nm = x.nm
    · rw [if_pos h2, if_pos]
      obtain ⟨t, ht, e⟩ := h2
      exact ⟨t, mem_era.2 ⟨ht, fun e2 => h (e.symm.trans e2)⟩, e⟩
    · rw [if_neg h2, if_neg]
      rintro ⟨t, ht, e⟩
      exact h2 ⟨t, (mem_era.1 ht).1, e⟩
theorem crash_round {F : Nat → Prop} {p m r cnt1 nq : Nat} {w wr w1 : World} {L T : List FileC} {d : St} {keep : Int} {c : FileC} {A : Option Addr} {cap K : Nat} (hr : r = w.heap.size) (HI : DiskIs w F p m L d.last d.armed d.down) (hs : Srt FileC.nm L) (hsT : Srt FileC.nm T)
    (hch : Chg F w w1) (HD1 : DiskIs w1 F p m (L.map (halfway d.last keep T)) d.last d.armed d.down) (hcL : c ∈ L) (hcT : c ∈ T) (hg : Going w1 m r L (era FileC.nm c.nm T) cnt1) (hlt : cnt1 < wr.rangeLeft m r)
    (hv : c.dat = .slice A c.bs.length cap) (hK : K = kept d.last keep c.abs) (hk : K ≤ c.bs.length) :
    (∃ T cnt, Going (((w1.drewN nq).setCell ⟨c.blk, 0, none⟩ (.slice A K K)).setCell ⟨c.blk, 1, none⟩ (.int .i64 K)) m r L T cnt ∧ Srt FileC.nm T ∧ DiskIs (((w1.drewN nq).setCell ⟨c.blk, 0, none⟩ (.slice A K K)).setCell ⟨c.blk, 1, none⟩ (.int .i64 K)) F p m (L.map (halfway d.last keep T)) d.last d.armed d.down ∧
      Chg F w (((w1.drewN nq).setCell ⟨c.blk, 0, none⟩ (.slice A K K)).setCell ⟨c.blk, 1, none⟩ (.int .i64 K))) ∧
    (((w1.drewN nq).setCell ⟨c.blk, 0, none⟩ (.slice A K K)).setCell ⟨c.blk, 1, none⟩ (.int .i64 K)).rangeLeft m r < wr.rangeLeft m r := by
  have hcL' : c ∈ L.map (halfway d.last keep T) := List.mem_map.2 ⟨c, hcL, if_pos ⟨c, hcT, rfl⟩⟩
  have hf := HD1.files c hcL'
  have hd := hf.2.2.1
  rw [hv] at hd
  have hc2 : Chg (· = c.blk) w1 (((w1.drewN nq).setCell ⟨c.blk, 0, none⟩ (.slice A K K)).setCell ⟨c.blk, 1, none⟩ (.int .i64 K)) :=
    ((Chg.drewN w1 nq).same (Chg.setCell (F := (· = c.blk)) _ (p := ⟨c.blk, 0, none⟩) rfl _)).same (Chg.setCell (F := (· = c.blk)) _ (p := ⟨c.blk, 1, none⟩) rfl _)
  have hg2 : Going (((w1.drewN nq).setCell ⟨c.blk, 0, none⟩ (.slice A K K)).setCell ⟨c.blk, 1, none⟩ (.int .i64 K)) m r L (era FileC.nm c.nm T) cnt1 := by
    refine hg.kept (row := some c.blk) ⟨hc2.os, hc2.tape, hc2.output, hc2.size, fun k hk hn => hc2.block k hk (fun e => hn (by rw [e]))⟩ ?_ ?_
    · intro e
      injection e with e
      exact HD1.map.ne hf.1 e
    · intro e
      injection e with e
      have := HI.lt c.blk hf.2.1
      omega
  refine ⟨⟨_, cnt1, hg2, hsT.era _, ?_, hch.same (hc2.mono (fun k hk => by rw [hk]; exact hf.2.1))⟩, by rw [hg2.left_eq]; exact hlt⟩
  rw [← halfway_step hs d.last keep hcL hcT]
  have hcd : crashC d.last keep c = { c with dat := .slice A K K, bs := c.bs.take K, syn := K } := by unfold crashC crashDat; rw [hv, hK]
  rw [hcd]
  refine HD1.upd (halfway_srt hs _ _ _) hcL' (G := F) rfl rfl ⟨?_, hf.2.1, (hd.cut3 hk).heap (fun g hg => hc2.block g ?_ ?_), fun g hg => hf.2.2.2 g ?_⟩ (fun k hk h1 _ => hc2.block k (HD1.lt k hk) h1) (fun g hg => .inl ?_) (fun _ h => h) (fun k hk => Nat.lt_of_lt_of_le (HD1.lt k hk) hc2.size)
  · have := sb_set (sb_set (w := w1.drewN nq) hf.1 0 (.slice A K K)) 1 (.int .i64 K)
    simpa using this
  · obtain ⟨cur, hcur⟩ := (hd.cut3 hk).blk hg
    exact blk_lt hcur
  · obtain ⟨cur, hcur⟩ := (hd.cut3 hk).blk hg
    exact ne_of_type hcur hf.1 (by decide)
  · rw [hv, own_slice A _ K _ K]; exact hg
  · rw [hv, own_slice A _ K _ K]; exact hg

set_option maxRecDepth 100000 in
set_option maxHeartbeats 400000 in
theorem crash_calls {F : Nat → Prop} {p : Nat} {w : World} {d : St} (keep : Int) (h : DiskAt w F p d) (ok : d.Ok) :
    Calls Try.prog 22 #[.pointer (some ⟨p, 0, none⟩), .int .i64 keep] w fun e w' => e = .returned (.tuple #[]) ∧ DiskAt w' (Gr F w w') p (d.crash keep) ∧ Chg F w w' := by
  obtain ⟨m, L, hI, hL⟩ := h
  have b0 := sb_cell hI.blk 0
  simp at b0
  have hsL := srt_abs hL ok.srt
  have HI := Lib.hid hI
  have HM := Lib.hid hI.map
  have HL := Lib.hid hsL
  have HA := Lib.hid hL
  have HK := Lib.hid ok
  clear hI hL hsL ok
  go_enter Try.func22, Try.ntmps22
  go_wp2_with (first
    | (at_range; refine wpList_range_d _ rfl _ rfl rfl HM.out ?_; intro w0 hg0 hgr0 hs0; have HS0 := Lib.hid hs0; clear hs0))
  go_frame
  go_loopw [4] (fun _ wr => ∃ T cnt, Going wr m w.heap.size L T cnt ∧ Srt FileC.nm T ∧ DiskIs wr F p m (L.map (halfway d.last keep T)) d.last d.armed d.down ∧ Chg F w wr) (fun _ wr => wr.rangeLeft m w.heap.size)
  case atStart =>
    have hch : Chg F w w0 := .of_grown hgr0 (fun k hk => by cases hk)
    have hL : L.map (halfway d.last keep L) = L := by
      rw [List.map_congr_left (f := halfway d.last keep L) (g := id) (fun c hc => by unfold halfway; rw [if_pos ⟨c, hc, rfl⟩]; rfl), List.map_id]
    exact ⟨L, L.length, hg0, HL.out, by rw [hL]; exact HI.out.chg (G := fun _ => False) (.of_grown hgr0 (fun k hk => by cases hk)) (fun _ _ h => h), hch⟩
  case round =>
    obtain ⟨T, cnt, hg, hsT, hD, hch⟩ := hrel
    have HST := Lib.hid hsT
    have HD := Lib.hid hD
    clear hsT hD
    go_wp2_with (first
      | (at_next; refine wpList_next_d _ rfl _ rfl w.heap.size T cnt HL.out rfl hg ?_ ?_))
    · intro hT
      subst hT
      have hb := HD.out.blk
      have q1 := sb_cell hb 1
      have q2 := sb_cell hb 2
      have q3 := sb_cell hb 3
      have r1 := sb_free hb 1
      have r2 := sb_free hb 2
      have r3 := sb_free hb 3
      simp at q1 q2 q3
      clear hb
      go_wp2
      go_end0
      exact ⟨rfl, crash_end HI.out HA.out HD.out hch⟩
    · intro c w1 cnt1 hcT hcL hg1 hlt hgr1 hs1 hen
      have HS1 := Lib.hid hs1
      have HG1 := Lib.hid hgr1
      have hch1 : Chg F w w1 := hch.trans (G := fun k => k = w.heap.size) (.of_grown hgr1 (fun k hk => .inl (by cases hk; rfl))) (fun k hk => .inr (by rw [hk]; exact Nat.le_refl _))
      have hD1 : DiskIs w1 F p m (L.map (halfway d.last keep T)) d.last d.armed d.down := HD.out.chg (G := fun k => k = w.heap.size) (.of_grown hgr1 (fun k hk => .inl (by cases hk; rfl))) (fun k hk e => by have := HI.out.lt k hk; omega)
      have hcL' : c ∈ L.map (halfway d.last keep T) := List.mem_map.2 ⟨c, hcL, if_pos ⟨c, hcT, rfl⟩⟩
      have hf1 := hD1.files c hcL'
      obtain ⟨A, cap, hv, hcap, hcm⟩ := hf1.2.2.1.form
      have c0 := sb_cell hf1.1 0
      have c1 := sb_cell hf1.1 1
      have f0 := sb_free hf1.1 0
      have f1 := sb_free hf1.1 1
      have p1 := sb_cell hD1.blk 1
      simp at c0 c1 p1
      rw [hv] at c0
      have hsy : c.syn ≤ c.bs.length := HK.out.syn c.abs (by rw [← HA.out]; exact List.mem_map.2 ⟨c, hcL, rfl⟩)
      obtain ⟨i0, hi, _⟩ := info_parts PDiskLoads.info5
      have hsl0 := fun (k : Nat) (hk : k ≤ cap) => slice3 (P := Try.prog) 34 5 Try.underlying34 hi A c.bs.length cap k hk
      unfold maxLen at hcm
      have hR := fun (nq K : Nat) hK hk => crash_round (nq := nq) (K := K) rfl HI.out HL.out HST.out hch1 hD1 hcL hcT hg1 (by rw [hg.left_eq]; exact hlt) hv hK hk
      have HR := Lib.hid hR
      have HSL := Lib.hid hsl0
      have HSY := Lib.hid hsy
      have HCP := Lib.hid hcap
      have HCM := Lib.hid hcm
      clear hs1 hgr1 hf1 hv hD1 hg1 hch1 hR hsl0 hi hsy hcap hcm hlt hch hg
      by_cases hq : c.nm = d.last
      · have hE : (c.nm.toList == d.last.toList) = true := by rw [tl_beq]; simp [hq]
        have HQ := Lib.hid hq
        clear hq
        have hw1 : wrap64 ((c.bs.length : Int) - c.syn) = (c.bs.length : Int) - c.syn := by have := HSY.out; have := HCP.out; have := HCM.out; unfold wrap64; omega
        have hx : 0 ≤ (c.bs.length : Int) - c.syn := by have := HSY.out; omega
        have hkp : kept d.last keep c.abs = c.syn + min keep.toNat (c.bs.length - c.syn) := by unfold kept; rw [if_pos (show c.abs.nm = d.last from HQ.out)]; rfl
        have HKP := Lib.hid hkp
        clear hkp
        by_cases k0 : keep < 0
        · obtain ⟨K, hK⟩ : ∃ K, K = c.syn := ⟨_, rfl⟩
          have hK1 : K = kept d.last keep c.abs := by rw [HKP.out, hK]; omega
          have hK2 : K ≤ c.bs.length := by have := HSY.out; omega
          have hw2 : wrap64 ((c.syn : Int)) = K := by have := HSY.out; have := HCP.out; have := HCM.out; unfold wrap64; omega
          have hsl := HSL.out K (by have := HCP.out; omega)
          have HKK := Lib.hid hK1
          have HK2 := Lib.hid hK2
          clear hK hK1 hK2
          go_wp2
          go_quiet (fail)
          go_wp2
          go_roundw
          case rel => exact (HR.out _ K HKK.out HK2.out).1
          case measure => exact (HR.out _ K HKK.out HK2.out).2
        · have k1 : 0 ≤ keep := by omega
          by_cases k2 : (c.bs.length : Int) - c.syn < keep
          · obtain ⟨K, hK⟩ : ∃ K, K = c.bs.length := ⟨_, rfl⟩
            have hK1 : K = kept d.last keep c.abs := by rw [HKP.out, hK]; have := HSY.out; omega
            have hK2 : K ≤ c.bs.length := by omega
            have hw2 : wrap64 ((c.syn : Int) + ((c.bs.length : Int) - c.syn)) = K := by have := HSY.out; have := HCP.out; have := HCM.out; unfold wrap64; omega
            have hsl := HSL.out K (by have := HCP.out; omega)
            have HKK := Lib.hid hK1
            have HK2 := Lib.hid hK2
            clear hK hK1 hK2
            go_wp2
            go_quiet (fail)
            go_wp2
            go_roundw
            case rel => exact (HR.out _ K HKK.out HK2.out).1
            case measure => exact (HR.out _ K HKK.out HK2.out).2
          · obtain ⟨K, hK⟩ : ∃ K, K = c.syn + keep.toNat := ⟨_, rfl⟩
            have hK1 : K = kept d.last keep c.abs := by rw [HKP.out, hK]; have := HSY.out; omega
            have hK2 : K ≤ c.bs.length := by have := HSY.out; omega
            have hw2 : wrap64 ((c.syn : Int) + keep) = K := by have := HSY.out; have := HCP.out; have := HCM.out; unfold wrap64; omega
            have hsl := HSL.out K (by have := HCP.out; omega)
            have HKK := Lib.hid hK1
            have HK2 := Lib.hid hK2
            clear hK hK1 hK2
            go_wp2
            go_quiet (fail)
            go_wp2
            go_roundw
            case rel => exact (HR.out _ K HKK.out HK2.out).1
            case measure => exact (HR.out _ K HKK.out HK2.out).2
      · have hE : (c.nm.toList == d.last.toList) = false := by rw [tl_beq]; simp [hq]
        have hK : c.syn = kept d.last keep c.abs := by unfold kept; rw [if_neg (show ¬ c.abs.nm = d.last from hq)]; rfl
        have hsl := HSL.out c.syn (Nat.le_trans HSY.out HCP.out)
        have HKK := Lib.hid hK
        clear hK hq
        go_wp2
        go_roundw
        case rel => exact (HR.out 0 _ HKK.out HSY.out).1
        case measure => exact (HR.out 0 _ HKK.out HSY.out).2
end Go.Proofs.Ytflajlnknimjaaa.Dk

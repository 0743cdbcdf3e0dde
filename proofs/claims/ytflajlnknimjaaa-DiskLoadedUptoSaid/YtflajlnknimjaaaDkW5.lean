/- Remove, Rename, Arm, New of the disk. -/
import Derived.Test.YtflajlnknimjaaaDkW4
namespace Go.Proofs.Ytflajlnknimjaaa.Dk
open Go.RowKit Go.Maps Go.Proofs.YtflajlnknimjaaaW.PrintWords Go.Proofs.YtflajlnknimjaaaW.PrintMore Go.Proofs.Ytflajlnknimjaaa.Syn
attribute [local go_sem] max2_int min2_int max_two min_two

section
variable {F G : Nat → Prop} {p m : Nat} {w w' : World} {L L' : List FileC} {la : ByteArray} {ar : Nat} {dn : Bool}
/-- The map alone has turned: some of the files are left, perhaps under other names. -/
theorem DiskIs.turned (h : DiskIs w F p m L la ar dn) (hm : MapAt w' m L') (ht : w.mapTurned w' m) (hsub : ∀ c ∈ L', ∃ c0 ∈ L, c.blk = c0.blk ∧ c.dat = c0.dat ∧ c.bs = c0.bs ∧ c.syn = c0.syn) (hsep : L'.Pairwise Sep) : DiskIs w' F p m L' la ar dn := by
  obtain ⟨hs, hk⟩ := turned_heap ht
  refine ⟨(hk p (fun e => h.map.ne h.blk e.symm)).trans h.blk, h.fp, h.fm, hm, fun c hc => ?_, hsep, fun k hk' => by rw [hs]; exact h.lt k hk'⟩
  obtain ⟨c0, hc0, e1, e2, e3, e4⟩ := hsub c hc
  have hf := h.files c0 hc0
  unfold FileAt
  rw [e1, e2, e3, e4]
  refine hf.heap (fun k hk' => hk k ?_) (fun _ h => h)
  rcases hk' with rfl | hk'
  · exact fun e => h.map.ne hf.1 e.symm
  · obtain ⟨cur, hcur⟩ := hf.2.2.1.blk hk'
    exact fun e => h.map.ne hcur e.symm
theorem sep_era {nm : ByteArray} (h : L.Pairwise Sep) : (era FileC.nm nm L).Pairwise Sep := List.Pairwise.filter _ h
theorem sep_ins {x : FileC} (h : L.Pairwise Sep) (hx : ∀ y ∈ L, Sep x y) : (ins FileC.nm x L).Pairwise Sep := by
  induction L with
  | nil => simp [ins]
  | cons z r ih =>
    unfold ins
    have h' := List.pairwise_cons.1 h
    split
    · exact List.pairwise_cons.2 ⟨hx, h⟩
    · refine List.pairwise_cons.2 ⟨fun y hy => ?_, ih h'.2 (fun c hc => hx c (List.mem_cons_of_mem _ hc))⟩
      rcases mem_ins.1 hy with rfl | hy
      · exact (hx z List.mem_cons_self).symm
      · exact h'.1 y hy
/-- delete, at the disk's map. -/
theorem DiskIs.drop (h : DiskIs w F p m L la ar dn) {nm : ByteArray} (hn : nm.size ≤ maxLen) (ty : TypeId) :
    ∃ w', (Builtin.delete_ #[62, 9] ty #[.map (some m), .string nm]).run Try.prog w = .ok (.tuple #[]) w' ∧ DiskIs w' F p m (era FileC.nm nm L) la ar dn ∧ Chg F w w' ∧ ∀ c ∈ L, FileAt w' F c := by
  obtain ⟨w', h1, h2, h3⟩ := h.map.drop hn ty
  refine ⟨w', h1, h.turned h2 h3 (fun c hc => ⟨c, (mem_era.1 hc).1, rfl, rfl, rfl, rfl⟩) (sep_era h.sep), turned_chg h3 h.fm, fun c hc => ?_⟩
  have hf := h.files c hc
  refine hf.heap (fun k hk' => (turned_heap h3).2 k ?_) (fun _ h => h)
  rcases hk' with rfl | hk'
  · exact fun e => h.map.ne hf.1 e.symm
  · obtain ⟨cur, hcur⟩ := hf.2.2.1.blk hk'
    exact fun e => h.map.ne hcur e.symm
/-- A file that was taken away is put back under another name. -/
theorem DiskIs.moved {a : ByteArray} (h : DiskIs w F p m (era FileC.nm a L) la ar dn) (hsep : L.Pairwise Sep) {c : FileC} (hfc : FileAt w F c) (hc : c ∈ L) (hca : c.nm = a) {nm : ByteArray} (hn : nm.size ≤ maxLen) (hl : L.length < maxLen) :
    ∃ w', (Instr.mapUpdate 62 (.map (some m)) (.string nm) (.pointer (some ⟨c.blk, 0, none⟩))).run Try.prog w = .ok () w' ∧ DiskIs w' F p m (ins FileC.nm { c with nm := nm } (era FileC.nm nm (era FileC.nm a L))) la ar dn ∧ Chg F w w' := by
  obtain ⟨w2, h1, h2, h3⟩ := h.map.store { c with nm := nm } nm c.blk rfl rfl hn (Nat.lt_of_le_of_lt (List.length_filter_le _ _) hl)
  obtain ⟨hs2, hk2⟩ := turned_heap h3
  refine ⟨w2, h1, ?_, turned_chg h3 h.fm⟩
  refine ⟨(hk2 p (fun e => h.map.ne h.blk e.symm)).trans h.blk, h.fp, h.fm, h2, fun x hx => ?_, ?_, fun k hk' => by rw [hs2]; exact h.lt k hk'⟩
  · have hx0 : FileAt w F x := by
      rcases mem_ins.1 hx with rfl | hx
      · exact hfc
      · exact h.files x (mem_era.1 hx).1
    refine hx0.heap (fun k hk' => hk2 k ?_) (fun _ h => h)
    rcases hk' with rfl | hk'
    · exact fun e => h.map.ne hx0.1 e.symm
    · obtain ⟨cur, hcur⟩ := hx0.2.2.1.blk hk'
      exact fun e => h.map.ne hcur e.symm
  · refine sep_ins (sep_era h.sep) (fun y hy => ?_)
    obtain ⟨hy1, _⟩ := mem_era.1 hy
    obtain ⟨hy2, hy3⟩ := mem_era.1 hy1
    have hsp : Sep c y := sep_of hsep hc hy2 (fun e => hy3 (by rw [← e]; exact hca))
    exact hsp
theorem DiskIs.tail {a b : ByteArray} {c : FileC} (h : DiskIs w F p m L la ar dn) (hc : c ∈ L) (hca : c.nm = a) (ha : a.size ≤ maxLen) (hb : b.size ≤ maxLen) (hl : L.length < maxLen) :
    ∃ w2 w3, (Builtin.delete_ #[62, 9] 0 #[.map (some m), .string a]).run Try.prog w = .ok (.tuple #[]) w2 ∧ w2.cell? ⟨p, 0, none⟩ = some (.map (some m)) ∧
      (Instr.mapUpdate 62 (.map (some m)) (.string b) (.pointer (some ⟨c.blk, 0, none⟩))).run Try.prog w2 = .ok () w3 ∧ DiskIs w3 F p m (ins FileC.nm { c with nm := b } (era FileC.nm b (era FileC.nm a L))) la ar dn ∧ Chg F w w3 := by
  obtain ⟨w2, h1, h2, h3, h4⟩ := h.drop ha 0
  obtain ⟨w3, g1, g2, g3⟩ := h2.moved h.sep (h4 c hc) hc hca hb hl
  have c2 := sb_cell h2.blk 0
  exact ⟨w2, w3, h1, c2, g1, g2, h3.same g3⟩
theorem rename_end {d : St} {a b x : ByteArray} {c : FileC} {nd : Nat} {w1 wA w3 : World} {r : Int × St} (HI : DiskIs w F p m L d.last d.armed d.down) (HL : L.map FileC.abs = d.fs) (hc1 : Chg (· = p) (w.drewN nd) w1) (hcA : Chg (· = p) w1 wA)
    (h3 : DiskIs w3 F p m (ins FileC.nm { c with nm := b } (era FileC.nm b (era FileC.nm a L))) x (tick d).2.armed (tick d).2.down) (hc3 : Chg F wA w3)
    (HR : (0, { (tick d).2 with fs := ins Fl.nm { c.abs with nm := b } (era Fl.nm b (era Fl.nm a d.fs)), last := x }) = r) : Post F p w r (.returned (.int .i64 0)) w3 := by
  have hp : ∀ k, k = p → F k := fun k hk => by rw [hk]; exact HI.fp
  have hcc : Chg F w w3 := ((((Chg.drewN w nd).same hc1).same hcA).mono hp).same hc3
  rw [← HR]
  refine ⟨rfl, ⟨m, _, h3.wide (fun _ h => .inl h) (Gr.lt HI.lt hcc.size), ?_⟩, hcc⟩
  rw [map_ins (ka := FileC.nm) (kb := Fl.nm) FileC.abs (fun _ => rfl), map_era (ka := FileC.nm) (kb := Fl.nm) FileC.abs (fun _ => rfl), map_era (ka := FileC.nm) (kb := Fl.nm) FileC.abs (fun _ => rfl), HL]
  rfl
end

set_option maxRecDepth 100000 in
set_option maxHeartbeats 400000 in
theorem remove_calls {F : Nat → Prop} {p : Nat} {w : World} {d : St} (nm : ByteArray) (h : DiskAt w F p d) (ok : d.Ok) (hn : nm.size ≤ 140737488351232) :
    Calls Try.prog 46 #[.pointer (some ⟨p, 0, none⟩), .string nm] w (Post F p w (d.remove nm)) := by
  have hn1 : nm.size ≤ maxLen := by unfold maxLen; omega
  have H := Lib.hid h
  obtain ⟨m, L, hI, hL⟩ := h
  have b3 := sb_cell hI.blk 3
  simp at b3
  have hla := look_abs hL nm
  have HI := Lib.hid hI
  generalize hr : d.remove nm = r
  unfold St.remove at hr
  have HL := Lib.hid hL
  have HA := Lib.hid ok
  clear hI hL
  cases hd : d.down with
  | true =>
    rw [if_pos hd] at hr
    rw [hd] at b3
    have HR := Lib.hid hr
    clear hla hr hd ok
    go_enter Try.func46, Try.ntmps46
    go_wp2
    go_ret
    rw [← HR.out]
    exact Post.same H.out rfl 0
  | false =>
  rw [if_neg (by rw [hd]; simp), hla] at hr
  rw [hd] at b3
  cases hk : look FileC.nm nm L with
  | none =>
    rw [hk] at hr
    have HR := Lib.hid hr
    have hks : (look FileC.nm nm L).isSome = false := by rw [hk]; rfl
    clear hk hla hd hr ok
    go_enter Try.func46, Try.ntmps46
    go_wp2_with (go_at_call 34; refine (has_calls p m _ L nm _ _ _ hn1 (by exact HI.out.blk) (by exact HI.out.map)).mono ?_; rintro e w' ⟨rfl, rfl⟩)
    go_ret
    rw [← HR.out]
    exact Post.same H.out rfl 0
  | some c =>
    rw [hk] at hr
    simp only [Option.map_some] at hr
    have hks : (look FileC.nm nm L).isSome = true := by rw [hk]; rfl
    obtain ⟨hcm, hcn⟩ := look_some hk
    cases ht : (tick d).1 with
    | true =>
      rw [if_pos ht] at hr
      have HT := Lib.hid ht
      have HR := Lib.hid hr
      clear hk hla hd ht ok hcn hcm hr
      go_enter Try.func46, Try.ntmps46
      go_wp2_with (first
        | (go_at_call 34; refine (has_calls p m _ L nm _ _ _ hn1 (by exact HI.out.blk) (by exact HI.out.map)).mono ?_; rintro e w' ⟨rfl, rfl⟩)
        | (go_at_call 35; refine (tick_calls p m _ d.last d.armed d.down d rfl rfl HA.out.armed (by exact HI.out.blk)).mono ?_; rintro e w1 ⟨rfl, hb1, hs1, hc1⟩; rw [HT.out]; have HX := Lib.hid hb1; have HS := Lib.hid hs1; clear hb1 hs1))
      go_ret
      rw [← HR.out]
      exact Post.ticked (nd := 0) HI.out HL.out HX.out HS.out hc1
    | false =>
      rw [if_neg (by rw [ht]; simp)] at hr
      have HT := Lib.hid ht
      have hE : (d.last.toList == nm.toList) = decide (d.last = nm) := tl_beq _ _
      by_cases hln : d.last = nm
      · rw [if_pos hln] at hr
        have HR := Lib.hid hr
        have hE2 : (d.last.toList == nm.toList) = true := by rw [hE]; simp [hln]
        clear hk hla hd ht ok hcn hcm hr hE hln
        go_enter Try.func46, Try.ntmps46
        go_wp2_with (first
          | (go_at_call 34; refine (has_calls p m _ L nm _ _ _ hn1 (by exact HI.out.blk) (by exact HI.out.map)).mono ?_; rintro e w' ⟨rfl, rfl⟩)
          | (go_at_call 35; refine (tick_calls p m _ d.last d.armed d.down d rfl rfl HA.out.armed (by exact HI.out.blk)).mono ?_; rintro e w1 ⟨rfl, hb1, hs1, hc1⟩; rw [HT.out]; have hI1 := HI.out.head hb1 hc1 hs1; have c0 := sb_cell hI1.blk 0; simp at c0; obtain ⟨w2, hrun, hI2, hc2, _⟩ := hI1.drop hn1 0; have c1 := sb_cell hI2.blk 1; have f1 := sb_free hI2.blk 1; simp at c1; have HI1 := Lib.hid hI1; have HI2 := Lib.hid hI2; have HS := Lib.hid hs1; clear hb1 hs1 hI1 hI2))
        go_ret
        have hc : Chg F w w1 := hc1.mono (fun k hk => by rw [hk]; exact HI.out.fp)
        have hcc := (hc.same hc2).same (Chg.setCell w2 (p := ⟨p, 1, none⟩) HI.out.fp (.string ⟨#[]⟩))
        rw [← HR.out]
        refine ⟨rfl, ⟨m, era FileC.nm nm L, ?_, ?_⟩, hcc⟩
        · refine (HI2.out.head (la' := nil_) (ar' := (tick d).2.armed) (dn' := (tick d).2.down) ?_ (Chg.setCell (F := (· = p)) w2 (p := ⟨p, 1, none⟩) rfl _) (by simp [World.setCell])).wide (fun _ h => .inl h) (Gr.lt HI.out.lt hcc.size)
          have := sb_set HI2.out.blk 1 (.string ⟨#[]⟩)
          simpa [nil_] using this
        · rw [map_era (ka := FileC.nm) (kb := Fl.nm) FileC.abs (fun _ => rfl), HL.out]
      · rw [if_neg hln] at hr
        have HR := Lib.hid hr
        have hE2 : (d.last.toList == nm.toList) = false := by rw [hE]; simp [hln]
        clear hk hla hd ht ok hcn hcm hr hE hln
        go_enter Try.func46, Try.ntmps46
        go_wp2_with (first
          | (go_at_call 34; refine (has_calls p m _ L nm _ _ _ hn1 (by exact HI.out.blk) (by exact HI.out.map)).mono ?_; rintro e w' ⟨rfl, rfl⟩)
          | (go_at_call 35; refine (tick_calls p m _ d.last d.armed d.down d rfl rfl HA.out.armed (by exact HI.out.blk)).mono ?_; rintro e w1 ⟨rfl, hb1, hs1, hc1⟩; rw [HT.out]; have hI1 := HI.out.head hb1 hc1 hs1; have c0 := sb_cell hI1.blk 0; simp at c0; obtain ⟨w2, hrun, hI2, hc2, _⟩ := hI1.drop hn1 0; have c1 := sb_cell hI2.blk 1; have f1 := sb_free hI2.blk 1; simp at c1; have HI1 := Lib.hid hI1; have HI2 := Lib.hid hI2; have HS := Lib.hid hs1; clear hb1 hs1 hI1 hI2))
        go_ret
        have hc : Chg F w w1 := hc1.mono (fun k hk => by rw [hk]; exact HI.out.fp)
        have hcc := hc.same hc2
        rw [← HR.out]
        refine ⟨rfl, ⟨m, era FileC.nm nm L, ?_, ?_⟩, hcc⟩
        · exact HI2.out.wide (fun _ h => .inl h) (Gr.lt HI.out.lt hcc.size)
        · rw [map_era (ka := FileC.nm) (kb := Fl.nm) FileC.abs (fun _ => rfl), HL.out]

set_option maxHeartbeats 400000 in
theorem arm_calls {F : Nat → Prop} {p : Nat} {w : World} {d : St} (n : Int) (h : DiskAt w F p d) :
    Calls Try.prog 47 #[.pointer (some ⟨p, 0, none⟩), .int .i64 n] w fun e w' => e = .returned (.tuple #[]) ∧ DiskAt w' (Gr F w w') p (d.arm n) ∧ Chg F w w' := by
  obtain ⟨m, L, hI, hL⟩ := h
  have b2 := sb_cell hI.blk 2
  have f2 := sb_free hI.blk 2
  simp at b2
  have HI := Lib.hid hI
  have HL := Lib.hid hL
  clear hI hL
  have hmx : mx n 0 = ((n.toNat : Nat) : Int) := by unfold mx; split <;> omega
  have hend : ∀ s : Int, s = n.toNat → DiskAt (w.setCell ⟨p, 2, none⟩ (.int .i64 s)) (Gr F w (w.setCell ⟨p, 2, none⟩ (.int .i64 s))) p (d.arm n) ∧ Chg F w (w.setCell ⟨p, 2, none⟩ (.int .i64 s)) := by
    rintro s rfl
    have hc : Chg F w (w.setCell ⟨p, 2, none⟩ (.int .i64 (n.toNat : Int))) := Chg.setCell w (p := ⟨p, 2, none⟩) HI.out.fp _
    refine ⟨⟨m, L, ?_, HL.out⟩, hc⟩
    refine (HI.out.head (la' := d.last) (ar' := n.toNat) (dn' := d.down) ?_ (Chg.setCell (F := (· = p)) w (p := ⟨p, 2, none⟩) rfl _) (by simp [World.setCell])).wide (fun _ h => .inl h) (Gr.lt HI.out.lt hc.size)
    have := sb_set HI.out.blk 2 (.int .i64 (n.toNat : Int))
    simpa using this
  have HE := Lib.hid hend
  clear hend hmx
  by_cases h0 : 0 < n
  · go_enter Try.func47, Try.ntmps47
    go_wp2
    go_end0
    exact ⟨rfl, HE.out _ (by omega)⟩
  · go_enter Try.func47, Try.ntmps47
    go_wp2
    all_goals (go_end0; exact ⟨rfl, HE.out _ (by omega)⟩)

set_option maxHeartbeats 400000 in
theorem new_calls (w : World) :
    Calls Try.prog 10 #[] w fun e w' => ∃ p, e = .returned (.pointer (some ⟨p, 0, none⟩)) ∧ DiskAt w' (Gr (fun _ => False) w w') p St.new ∧ Chg (fun _ => False) w w' := by
  have hmm := @run_makeMap Try.prog
  go_enter Try.func10, Try.ntmps10
  go_wp2
  go_ret
  refine ⟨w.heap.size + 1, rfl, ⟨w.heap.size, [], ?_, rfl⟩, ?_⟩
  · have hz : ((w.alloc (.map #[] 0)).alloc (.cells #[.map (some w.heap.size), .string ⟨#[]⟩, .int .i64 0, .bool false] 64)).heap.size = w.heap.size + 2 := by simp
    have hb := sb_new (w.alloc (.map #[] 0)) (.cells #[.map (some w.heap.size), .string ⟨#[]⟩, .int .i64 0, .bool false] 64)
    have hz1 : (w.alloc (.map #[] 0)).heap.size = w.heap.size + 1 := by simp
    rw [hz1] at hb
    exact { blk := hb, fp := .inr ⟨by omega, by omega⟩, fm := .inr ⟨by omega, by omega⟩, map := ((World.ownsMap_made w Try.prog 9 RP).alloc _), files := fun c hc => absurd hc (by simp), sep := List.Pairwise.nil, lt := fun k hk => Or.elim hk (fun h => h.elim) (fun h => h.2) }
  · exact (Chg.alloc w _).same (Chg.alloc _ _)

set_option maxRecDepth 100000 in
set_option maxHeartbeats 800000 in
theorem rename_calls {F : Nat → Prop} {p : Nat} {w : World} {d : St} (nm to_ : ByteArray) (h : DiskAt w F p d) (ok : d.Ok) (hn : nm.size ≤ 140737488351232) (ho : to_.size ≤ 140737488351232) :
    Calls Try.prog 45 #[.pointer (some ⟨p, 0, none⟩), .string nm, .string to_] w (Post F p w (d.rename nm to_)) := by
  have hn1 : nm.size ≤ maxLen := by unfold maxLen; omega
  have ho1 : to_.size ≤ maxLen := by unfold maxLen; omega
  have ho2 : to_.size ≤ 9223372036854775806 := by omega
  have H := Lib.hid h
  obtain ⟨m, L, hI, hL⟩ := h
  have b0 := sb_cell hI.blk 0
  have b3 := sb_cell hI.blk 3
  simp at b0 b3
  have hl := hI.map.look hn1
  have hla := look_abs hL nm
  have HI := Lib.hid hI
  generalize hr : d.rename nm to_ = r
  unfold St.rename at hr
  have HL := Lib.hid hL
  have HA := Lib.hid ok
  clear hI hL
  cases hd : d.down with
  | true =>
    rw [if_pos hd] at hr
    rw [hd] at b3
    have HR := Lib.hid hr
    cases hk : look FileC.nm nm L with
    | none =>
      rw [hk] at hl
      simp only [ptrOf] at hl
      clear hk hla hr hd ok
      go_enter Try.func45, Try.ntmps45
      go_wp2
      go_ret
      rw [← HR.out]
      exact Post.same H.out rfl 0
    | some c =>
      rw [hk] at hl
      simp only [ptrOf] at hl
      clear hk hla hr hd ok
      go_enter Try.func45, Try.ntmps45
      go_wp2
      go_ret
      rw [← HR.out]
      exact Post.same H.out rfl 0
  | false =>
  rw [if_neg (by rw [hd]; simp), hla] at hr
  rw [hd] at b3
  cases hk : look FileC.nm nm L with
  | none =>
    rw [hk] at hl hr
    simp only [ptrOf] at hl
    have HR := Lib.hid hr
    clear hk hla hd hr ok
    go_enter Try.func45, Try.ntmps45
    go_wp2
    go_ret
    rw [← HR.out]
    exact Post.same H.out rfl 0
  | some c =>
    rw [hk] at hl hr
    simp only [ptrOf] at hl
    simp only [Option.map_some] at hr
    obtain ⟨hcm, hcn⟩ := look_some hk
    have hlen : L.length < maxLen := by
      have := ok.cnt
      rw [← HL.out, List.length_map] at this
      unfold maxLen; omega
    cases hkn : okName to_ with
    | false =>
      rw [if_pos hkn] at hr
      have HR := Lib.hid hr
      clear hk hla hd ok hcn hcm hr
      go_enter Try.func45, Try.ntmps45
      go_wp2_with (go_at_call 33; refine (named_calls _ _ ho2).mono ?_; rintro e w' ⟨rfl, ⟨nd, rfl⟩⟩)
      go_ret
      rw [← HR.out]
      exact Post.same H.out rfl nd
    | true =>
    rw [if_neg (by rw [hkn]; simp)] at hr
    cases ht : (tick d).1 with
    | true =>
      rw [if_pos ht] at hr
      have HT := Lib.hid ht
      have HR := Lib.hid hr
      clear hk hla hd ht ok hcn hcm hr
      go_enter Try.func45, Try.ntmps45
      go_wp2_with (first
        | (go_at_call 33; refine (named_calls _ _ ho2).mono ?_; rintro e w' ⟨rfl, ⟨nd, rfl⟩⟩)
        | (go_at_call 35; refine (tick_calls p m _ d.last d.armed d.down d rfl rfl HA.out.armed (by exact HI.out.blk)).mono ?_; rintro e w1 ⟨rfl, hb1, hs1, hc1⟩; rw [HT.out]; have HX := Lib.hid hb1; have HS := Lib.hid hs1; clear hb1 hs1))
      go_ret
      rw [← HR.out]
      exact Post.ticked (nd := nd) HI.out HL.out HX.out HS.out hc1
    | false =>
    rw [if_neg (by rw [ht]; simp)] at hr
    have HT := Lib.hid ht
    have HC := Lib.hid hcm
    have HN := Lib.hid hcn
    have HLen := Lib.hid hlen
    by_cases hab : nm = to_
    · rw [if_pos hab] at hr
      have hE : (nm.toList == to_.toList) = true := by rw [tl_beq]; simp [hab]
      have HR := Lib.hid hr
      clear hk hla hd ht ok hcn hcm hr hab
      go_enter Try.func45, Try.ntmps45
      go_wp2_with (first
        | (go_at_call 33; refine (named_calls _ _ ho2).mono ?_; rintro e w' ⟨rfl, ⟨nd, rfl⟩⟩)
        | (go_at_call 35; refine (tick_calls p m _ d.last d.armed d.down d rfl rfl HA.out.armed (by exact HI.out.blk)).mono ?_; rintro e w1 ⟨rfl, hb1, hs1, hc1⟩; rw [HT.out]; have HX := Lib.hid hb1; have HS := Lib.hid hs1; clear hb1 hs1))
      go_ret
      rw [← HR.out]
      exact Post.ticked (nd := nd) HI.out HL.out HX.out HS.out hc1
    rw [if_neg hab] at hr
    have hE : (nm.toList == to_.toList) = false := by rw [tl_beq]; simp [hab]
    have hE1 : (d.last.toList == nm.toList) = decide (d.last = nm) := tl_beq _ _
    have hE2 : (d.last.toList == to_.toList) = decide (d.last = to_) := tl_beq _ _
    by_cases hq1 : d.last = nm
    · rw [if_pos hq1] at hr
      rw [decide_eq_true hq1] at hE1
      have HR := Lib.hid hr
      clear hk hla hd ht ok hcn hcm hr hab hE2 hq1 hlen
      go_enter Try.func45, Try.ntmps45
      go_wp2_with (first
        | (go_at_call 33; refine (named_calls _ _ ho2).mono ?_; rintro e w' ⟨rfl, ⟨nd, rfl⟩⟩)
        | (go_at_call 35; refine (tick_calls p m _ d.last d.armed d.down d rfl rfl HA.out.armed (by exact HI.out.blk)).mono ?_; rintro e w1 ⟨rfl, hb1, hs1, hc1⟩; rw [HT.out]; have hI1 := HI.out.head hb1 ((Chg.drewN w nd).same hc1) hs1; have c1 := sb_cell hI1.blk 1; have f1 := sb_free hI1.blk 1; simp at c1; have hI2 := hI1.head (w1 := w1.setCell ⟨p, 1, none⟩ (.string to_)) (la' := to_) (ar' := (tick d).2.armed) (dn' := (tick d).2.down) (by have := sb_set hI1.blk 1 (.string to_); simpa using this) (Chg.setCell (F := (· = p)) w1 (p := ⟨p, 1, none⟩) rfl _) (by simp [World.setCell]); have c0 := sb_cell hI1.blk 0; simp at c0; obtain ⟨w2, w3, hrun, c2, hrun3, hI4, hc3⟩ := hI2.tail HC.out HN.out hn1 ho1 HLen.out; have HI4 := Lib.hid hI4; clear hb1 hs1 hI1 hI2 hI4))
      go_ret
      exact rename_end HI.out HL.out hc1 (Chg.setCell (F := (· = p)) w1 (p := ⟨p, 1, none⟩) rfl _) HI4.out hc3 HR.out
    rw [if_neg hq1] at hr
    rw [decide_eq_false hq1] at hE1
    by_cases hq2 : d.last = to_
    · rw [if_pos hq2] at hr
      rw [decide_eq_true hq2] at hE2
      have HR := Lib.hid hr
      clear hk hla hd ht ok hcn hcm hr hab hq1 hq2 hlen
      go_enter Try.func45, Try.ntmps45
      go_wp2_with (first
        | (go_at_call 33; refine (named_calls _ _ ho2).mono ?_; rintro e w' ⟨rfl, ⟨nd, rfl⟩⟩)
        | (go_at_call 35; refine (tick_calls p m _ d.last d.armed d.down d rfl rfl HA.out.armed (by exact HI.out.blk)).mono ?_; rintro e w1 ⟨rfl, hb1, hs1, hc1⟩; rw [HT.out]; have hI1 := HI.out.head hb1 ((Chg.drewN w nd).same hc1) hs1; have c1 := sb_cell hI1.blk 1; have f1 := sb_free hI1.blk 1; simp at c1; have hI2 := hI1.head (w1 := w1.setCell ⟨p, 1, none⟩ (.string ⟨#[]⟩)) (la' := nil_) (ar' := (tick d).2.armed) (dn' := (tick d).2.down) (by have := sb_set hI1.blk 1 (.string ⟨#[]⟩); simpa [nil_] using this) (Chg.setCell (F := (· = p)) w1 (p := ⟨p, 1, none⟩) rfl _) (by simp [World.setCell]); have c0 := sb_cell hI1.blk 0; simp at c0; obtain ⟨w2, w3, hrun, c2, hrun3, hI4, hc3⟩ := hI2.tail HC.out HN.out hn1 ho1 HLen.out; have HI4 := Lib.hid hI4; clear hb1 hs1 hI1 hI2 hI4))
      go_ret
      exact rename_end HI.out HL.out hc1 (Chg.setCell (F := (· = p)) w1 (p := ⟨p, 1, none⟩) rfl _) HI4.out hc3 HR.out
    · rw [if_neg hq2] at hr
      rw [decide_eq_false hq2] at hE2
      have HR := Lib.hid hr
      clear hk hla hd ht ok hcn hcm hr hab hq1 hq2 hlen
      go_enter Try.func45, Try.ntmps45
      go_wp2_with (first
        | (go_at_call 33; refine (named_calls _ _ ho2).mono ?_; rintro e w' ⟨rfl, ⟨nd, rfl⟩⟩)
        | (go_at_call 35; refine (tick_calls p m _ d.last d.armed d.down d rfl rfl HA.out.armed (by exact HI.out.blk)).mono ?_; rintro e w1 ⟨rfl, hb1, hs1, hc1⟩; rw [HT.out]; have hI1 := HI.out.head hb1 ((Chg.drewN w nd).same hc1) hs1; have c1 := sb_cell hI1.blk 1; simp at c1; have c0 := sb_cell hI1.blk 0; simp at c0; obtain ⟨w2, w3, hrun, c2, hrun3, hI4, hc3⟩ := hI1.tail HC.out HN.out hn1 ho1 HLen.out; have HI4 := Lib.hid hI4; clear hb1 hs1 hI1 hI4))
      go_ret
      exact rename_end HI.out HL.out hc1 (Chg.refl _ _) HI4.out hc3 HR.out
end Go.Proofs.Ytflajlnknimjaaa.Dk

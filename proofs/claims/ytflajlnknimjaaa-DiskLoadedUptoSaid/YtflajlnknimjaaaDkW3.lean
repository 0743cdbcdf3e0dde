/- Sync, Cut, Remove, Arm, New of the disk. -/
import Derived.Test.YtflajlnknimjaaaDkW2
namespace Go.Proofs.Ytflajlnknimjaaa.Dk
open Go.RowKit Go.Maps Go.Proofs.YtflajlnknimjaaaW.PrintWords Go.Proofs.Ytflajlnknimjaaa.Syn

def updC (nm : ByteArray) (c' : FileC) (L : List FileC) : List FileC := L.map fun x => if x.nm = nm then c' else x
theorem updC_abs {L : List FileC} {c c' : FileC} (hs : Srt FileC.nm L) (hc : c ∈ L) (g : Fl → Fl) (hg : c'.abs = g c.abs) : (updC c.nm c' L).map FileC.abs = upd c.nm g (L.map FileC.abs) := by
  unfold updC upd
  rw [List.map_map, List.map_map]
  apply List.map_congr_left
  intro x hx
  simp only [Function.comp]
  by_cases h : x.nm = c.nm
  · have : x = c := hs.inj hx hc h
    subst this
    rw [if_pos rfl, hg]
    exact (if_pos (rfl : x.abs.nm = x.nm)).symm
  · rw [if_neg h, if_neg (show ¬ x.abs.nm = c.nm from h)]
theorem updC_srt {L : List FileC} {c c' : FileC} (hs : Srt FileC.nm L) (hnm : c'.nm = c.nm) : (updC c.nm c' L).map FileC.nm = L.map FileC.nm := by
  unfold updC
  rw [List.map_map]
  apply List.map_congr_left
  intro x hx
  simp only [Function.comp]
  split
  · rename_i h; rw [hnm, h]
  · rfl
theorem mapD_updC {L : List FileC} {c c' : FileC} (hs : Srt FileC.nm L) (hc : c ∈ L) (hnm : c'.nm = c.nm) (hb : c'.blk = c.blk) : mapD (updC c.nm c' L) = mapD L := by
  unfold mapD updC
  rw [List.map_map]
  congr 1
  apply List.map_congr_left
  intro x hx
  simp only [Function.comp]
  split
  · rename_i h
    rw [hs.inj hx hc h]
    simp [entry, hnm, hb]
  · rfl
theorem mem_updC {nm : ByteArray} {c' x : FileC} {L : List FileC} (h : x ∈ updC nm c' L) : x = c' ∨ (x ∈ L ∧ x.nm ≠ nm) := by
  obtain ⟨y, hy, rfl⟩ := List.mem_map.1 h
  split
  · exact .inl rfl
  · rename_i hn; exact .inr ⟨hy, hn⟩

theorem sep_of {L : List FileC} (h : L.Pairwise Sep) {a b : FileC} (ha : a ∈ L) (hb : b ∈ L) (hne : a ≠ b) : Sep a b := by
  induction L with
  | nil => cases ha
  | cons z r ih =>
    have h' := List.pairwise_cons.1 h
    rcases List.mem_cons.1 ha with ha1 | ha1 <;> rcases List.mem_cons.1 hb with hb1 | hb1
    · exact absurd (ha1.trans hb1.symm) hne
    · rw [ha1]; exact h'.1 b hb1
    · rw [hb1]; exact (h'.1 a ha1).symm
    · exact ih h'.2 ha1 hb1
section
variable {F G : Nat → Prop} {p m : Nat} {w w' : World} {L : List FileC} {la : ByteArray} {ar : Nat} {dn : Bool}
/-- Only one file has changed. -/
theorem DiskIs.upd (h : DiskIs w F p m L la ar dn) (hs : Srt FileC.nm L) {c c' : FileC} (hc : c ∈ L) (hnm : c'.nm = c.nm) (hb : c'.blk = c.blk) (hf : FileAt w' G c')
    (e : ∀ k, F k → k ≠ c.blk → c.dat.ownBlock ≠ some k → w'.heap[k]? = w.heap[k]?) (hown : ∀ g, c'.dat.ownBlock = some g → c.dat.ownBlock = some g ∨ w.heap.size ≤ g) (hF : ∀ k, F k → G k) (hG : ∀ k, G k → k < w'.heap.size) :
    DiskIs w' G p m (updC c.nm c' L) la ar dn := by
  have hfc := h.files c hc
  have hty : ∀ {k t : Nat} {cs : Array Value}, w.heap[k]? = some (.cells cs t (0, 0)) → t ≠ 68 → t ≠ 5 → k ≠ c.blk ∧ c.dat.ownBlock ≠ some k := by
    intro k t cs hk h1 h2
    refine ⟨ne_of_type hk hfc.1 h1, fun ho => ?_⟩
    obtain ⟨cur, hcur⟩ := hfc.2.2.1.blk ho
    exact ne_of_type hk hcur h2 rfl
  refine ⟨?_, hF _ h.fp, hF _ h.fm, ?_, fun x hx => ?_, ?_, hG⟩
  · have := hty h.blk (by decide) (by decide)
    exact (e p h.fp this.1 this.2).trans h.blk
  · have hm : MapAt w' m L := h.map.heap (e m h.fm (h.map.ne hfc.1) (fun ho => by
      obtain ⟨cur, hcur⟩ := hfc.2.2.1.blk ho
      exact h.map.ne hcur rfl))
    unfold MapAt at hm ⊢
    rw [mapD_updC hs hc hnm hb, show (updC c.nm c' L).length = L.length by simp [updC]]
    exact hm
  · rcases mem_updC hx with rfl | ⟨hx, hne⟩
    · exact hf
    · have hfx := h.files x hx
      have hsp : Sep c x := sep_of h.sep hc hx (fun e => hne (by rw [← e]))
      refine hfx.heap (fun k hk => e k ?_ ?_ ?_) hF
      · rcases hk with rfl | hk
        · exact hfx.2.1
        · exact hfx.2.2.2 k hk
      · rcases hk with rfl | hk
        · exact fun e => hsp.1 e.symm
        · obtain ⟨cur, hcur⟩ := hfx.2.2.1.blk hk
          exact ne_of_type hcur hfc.1 (by decide)
      · rcases hk with rfl | hk
        · intro ho
          obtain ⟨cur, hcur⟩ := hfc.2.2.1.blk ho
          exact ne_of_type hfx.1 hcur (by decide) rfl
        · exact fun ho => hsp.2 k ho hk
  · have hsep := h.sep
    have hlt : ∀ x ∈ L, x.blk < w.heap.size ∧ ∀ g, x.dat.ownBlock = some g → g < w.heap.size := fun x hx => ⟨h.lt _ (h.files x hx).2.1, fun g hg => h.lt _ ((h.files x hx).2.2.2 g hg)⟩
    have hsc : ∀ x ∈ L, Sep c x → Sep c' x := fun x hx hs => ⟨by rw [hb]; exact hs.1, fun g hg => by
      rcases hown g hg with ho | ho
      · exact hs.2 g ho
      · exact fun hx' => by have := (hlt x hx).2 g hx'; omega⟩
    unfold updC
    rw [List.pairwise_map]
    refine List.Pairwise.imp_of_mem ?_ (hs.and hsep)
    intro a b ha hb' hab
    by_cases h1 : a.nm = c.nm
    · have := hs.inj ha hc h1
      subst this
      rw [if_pos rfl, if_neg (fun e => before_ne hab.1 e.symm)]
      exact hsc b hb' hab.2
    · rw [if_neg h1]
      by_cases h2 : b.nm = c.nm
      · have := hs.inj hb' hc h2
        subst this
        rw [if_pos rfl]
        exact (hsc a ha hab.2.symm).symm
      · rw [if_neg h2]
        exact hab.2
end

theorem DRow.form {w : World} {v : Value} {bs : List Int} (h : DRow w v bs) : ∃ A cap, v = .slice A bs.length cap ∧ bs.length ≤ cap ∧ cap ≤ maxLen := by
  rcases h with ⟨rfl, rfl⟩ | ⟨g, cap, cur, rfl, h1, h2, h3, h4, h5⟩
  · exact ⟨none, 0, rfl, Nat.le_refl _, by unfold maxLen; omega⟩
  · exact ⟨_, cap, rfl, h2, h4⟩
theorem look_abs {L : List FileC} {fs : List Fl} (hL : L.map FileC.abs = fs) (nm : ByteArray) : look Fl.nm nm fs = (look FileC.nm nm L).map FileC.abs := by rw [← hL, map_look (ka := FileC.nm) (kb := Fl.nm) FileC.abs (fun _ => rfl)]
theorem srt_abs {L : List FileC} {fs : List Fl} (hL : L.map FileC.abs = fs) (h : Srt Fl.nm fs) : Srt FileC.nm L := by rw [← hL] at h; exact (map_srt (ka := FileC.nm) (kb := Fl.nm) FileC.abs (fun _ => rfl) L).1 h

set_option maxRecDepth 100000 in
set_option maxHeartbeats 400000 in
theorem sync_calls {F : Nat → Prop} {p : Nat} {w : World} {d : St} (nm : ByteArray) (h : DiskAt w F p d) (ok : d.Ok) (hn : nm.size ≤ 140737488351232) :
    Calls Try.prog 32 #[.pointer (some ⟨p, 0, none⟩), .string nm] w (Post F p w (d.sync nm)) := by
  have hn1 : nm.size ≤ maxLen := by unfold maxLen; omega
  have H := Lib.hid h
  obtain ⟨m, L, hI, hL⟩ := h
  have b0 := sb_cell hI.blk 0
  have b3 := sb_cell hI.blk 3
  simp at b0 b3
  have hl := hI.map.look hn1
  have hla := look_abs hL nm
  have HI := Lib.hid hI
  generalize hr : d.sync nm = r
  unfold St.sync at hr
  have HL := Lib.hid hL
  have HA := Lib.hid ok
  clear hI hL
  cases hd : d.down with
  | true =>
    rw [if_pos hd] at hr
    rw [hd] at b3
    have HR := Lib.hid hr
    cases hk : look FileC.nm nm L with
    | none =>
      rw [hk] at hl
      simp only [ptrOf] at hl
      clear hk hla hr hd ok
      go_enter Try.func32, Try.ntmps32
      go_wp2
      go_ret
      rw [← HR.out]
      exact Post.same H.out rfl 0
    | some c =>
      rw [hk] at hl
      simp only [ptrOf] at hl
      clear hk hla hr hd ok
      go_enter Try.func32, Try.ntmps32
      go_wp2
      go_ret
      rw [← HR.out]
      exact Post.same H.out rfl 0
  | false =>
  rw [if_neg (by rw [hd]; simp), hla] at hr
  rw [hd] at b3
  cases hk : look FileC.nm nm L with
  | none =>
    rw [hk] at hl hr
    simp only [ptrOf] at hl
    have HR := Lib.hid hr
    clear hk hla hd hr ok
    go_enter Try.func32, Try.ntmps32
    go_wp2
    go_ret
    rw [← HR.out]
    exact Post.same H.out rfl 0
  | some c =>
    rw [hk] at hl hr
    simp only [ptrOf] at hl
    simp only [Option.map_some] at hr
    obtain ⟨hcm, hcn⟩ := look_some hk
    have hfc := HI.out.files c hcm
    have hsL := srt_abs HL.out ok.srt
    obtain ⟨A, cap, hv, hcap, hcm2⟩ := hfc.2.2.1.form
    have HT := Lib.hid (rfl : (tick d).1 = (tick d).1)
    cases ht : (tick d).1 with
    | true =>
      rw [if_pos ht] at hr
      have HT := Lib.hid ht
      have HR := Lib.hid hr
      clear hk hla hd ht ok hv hfc hcn hcm hsL hr
      go_enter Try.func32, Try.ntmps32
      go_wp2_with (go_at_call 35; refine (tick_calls p m _ d.last d.armed d.down d rfl rfl HA.out.armed (by exact HI.out.blk)).mono ?_; rintro e w1 ⟨rfl, hb1, hs1, hc1⟩; rw [HT.out]; have HX := Lib.hid hb1; have HS := Lib.hid hs1; clear hb1 hs1)
      go_ret
      rw [← HR.out]
      exact Post.ticked (nd := 0) HI.out HL.out HX.out HS.out hc1
    | false =>
      rw [if_neg (by rw [ht]; simp)] at hr
      have HT := Lib.hid ht
      have HF := Lib.hid hfc
      have HV := Lib.hid hv
      have HN := Lib.hid hcn
      have HR := Lib.hid hr
      clear hk hla hd ht ok hv hfc hcn hr
      go_enter Try.func32, Try.ntmps32
      go_wp2_with (go_at_call 35; refine (tick_calls p m _ d.last d.armed d.down d rfl rfl HA.out.armed (by exact HI.out.blk)).mono ?_; rintro e w1 ⟨rfl, hb1, hs1, hc1⟩; rw [HT.out]; have hI1 := HI.out.head hb1 hc1 hs1; have hf1 := hI1.files c hcm; have c0 := sb_cell hf1.1 0; have c1 := sb_cell hf1.1 1; have f1 := sb_free hf1.1 1; simp at c0 c1; rw [HV.out] at c0; have HI1 := Lib.hid hI1; have HF1 := Lib.hid hf1; have HS := Lib.hid hs1; clear hb1 hs1 hI1 hf1)
      go_ret
      have hc : Chg F w w1 := hc1.mono (fun k hk => by rw [hk]; exact HI.out.fp)
      have hc2 : Chg F w1 (w1.setCell ⟨c.blk, 1, none⟩ (.int .i64 c.bs.length)) := Chg.setCell w1 (p := ⟨c.blk, 1, none⟩) HF1.out.2.1 _
      have hcc := hc.same hc2
      have hlt : ∀ k, F k → k < (w1.setCell ⟨c.blk, 1, none⟩ (.int .i64 c.bs.length)).heap.size := fun k hk => Nat.lt_of_lt_of_le (HI.out.lt k hk) hcc.size
      rw [← HR.out]
      refine ⟨rfl, ⟨m, updC c.nm { c with syn := c.bs.length } L, ?_, ?_⟩, hcc⟩
      · simp only [tick_last]
        refine (HI1.out.upd hsL hcm (c' := { c with syn := c.bs.length }) (G := F) rfl rfl ⟨?_, HF1.out.2.1, HF1.out.2.2.1.heap (fun g hg => ?_), HF1.out.2.2.2⟩ (fun k _ hk _ => Below.heap_setCell _ _ _ _ hk) (fun g hg => .inl hg) (fun _ h => h) hlt).wide (fun _ h => .inl h) (Gr.lt HI.out.lt hcc.size)
        · have := sb_set HF1.out.1 1 (.int .i64 (c.bs.length : Int))
          simpa using this
        · obtain ⟨cur, hcur⟩ := HF1.out.2.2.1.blk hg
          exact Below.heap_setCell _ _ _ _ (ne_of_type hcur HF1.out.1 (by decide))
      · rw [updC_abs hsL hcm (fun x => { x with syn := x.dat.length }) rfl, HL.out, HN.out]
end Go.Proofs.Ytflajlnknimjaaa.Dk

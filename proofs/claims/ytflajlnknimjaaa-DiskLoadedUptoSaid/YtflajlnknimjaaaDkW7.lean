/- Append of the disk. -/
import Derived.Test.YtflajlnknimjaaaDkW6
namespace Go.Proofs.Ytflajlnknimjaaa.Dk
open Go.RowKit Go.Maps Go.Proofs.YtflajlnknimjaaaW.PrintWords Go.Proofs.YtflajlnknimjaaaW.PrintMore Go.Proofs.Ytflajlnknimjaaa.Syn
attribute [local go_sem] max2_int min2_int max_two min_two

theorem src_cells {w : World} {A : Option Addr} {ys : List Int} (h : Kd.C (Kd.int .u8) w A ys.length ys) (h0 : 0 < ys.length) : ∃ ad, A = some ad ∧ ∀ j u, (nums .u8 ys)[j]? = some u → w.cell? (ad.add j) = some u := by
  obtain ⟨_, _, hc⟩ := h
  obtain ⟨ad, e, hc⟩ := hc h0
  refine ⟨ad, e, fun j u hu => ?_⟩
  unfold nums at hu
  rw [List.getElem?_map] at hu
  obtain ⟨x, hx, rfl⟩ := Option.map_eq_some_iff.1 hu
  obtain ⟨c, _, hk, hcell⟩ := hc j x hx
  have hk' : c = [.int .u8 x] := hk
  subst hk'
  have := hcell 0 _ rfl
  have e2 : j * (Kd.int .u8).sz + 0 = j := by show j * 1 + 0 = j; omega
  rwa [e2] at this
theorem nums_one (ys : List Int) : ∀ u ∈ nums .u8 ys, u.oneCell' = true := by
  intro u hu
  obtain ⟨x, _, rfl⟩ := List.mem_map.1 hu
  rfl
theorem drow_append {w : World} {v : Value} {bs : List Int} (h : DRow w v bs) {A : Option Addr} {c : Nat} {ys : List Int} (hx : Kd.C (Kd.int .u8) w A ys.length ys) (hb : bs.length + ys.length ≤ 1099511627776) (ty : TypeId) :
    ∃ v' w', (Builtin.append_ #[34, 34] ty #[v, .slice A ys.length c]).run Try.prog w = .ok v' w' ∧ DRow w' v' (bs ++ ys) ∧ w.grownBy w' v.ownBlock ∧ (v'.ownBlock = v.ownBlock ∨ v'.ownBlock = some w.heap.size) := by
  obtain ⟨i0, hi, hz0, hz1, hz2⟩ := info_parts PDiskLoads.info5
  have hu := Try.underlying34
  have hgrow : ∀ (cap : Nat) (row : Option Nat), DRow (w.drew.alloc (.cells ((nums .u8 bs).toArray ++ (nums .u8 ys).toArray ++ Builtin.zeroCells (Value.int .u8 0).cells (grownCap w (bs.length + ys.length) cap 5 - (bs.length + ys.length))) 5)) (.slice (some ⟨w.heap.size, 0, none⟩) (bs.length + ys.length) (grownCap w (bs.length + ys.length) cap 5)) (bs ++ ys) ∧
      w.grownBy (w.drew.alloc (.cells ((nums .u8 bs).toArray ++ (nums .u8 ys).toArray ++ Builtin.zeroCells (Value.int .u8 0).cells (grownCap w (bs.length + ys.length) cap 5 - (bs.length + ys.length))) 5)) row := by
    intro cap row
    have hge := grownCap_ge w (bs.length + ys.length) cap 5
    have hcm := grownCap_le_maxLen w (bs.length + ys.length) cap 5 (by unfold maxLen; omega)
    refine ⟨.inr ⟨w.heap.size, _, _, by rw [List.length_append], heap_alloc_new w.drew _, by rw [List.length_append]; exact hge, ?_, hcm, ?_⟩, ⟨rfl, rfl, rfl, by simp, fun k hk _ => Below.heap_alloc w.drew _ k hk⟩⟩
    · simp only [Array.size_append, List.size_toArray, size_zeroCells, nums_length, Value.cells]
      show _ ≤ bs.length + ys.length + (_ - _) * 1
      omega
    · simp only [Array.toList_append, List.append_assoc]
      rw [← List.append_assoc, ← nums_append, List.take_append_of_le_length (by rw [nums_length]; exact Nat.le_refl _), List.take_of_length_le (by rw [nums_length]; exact Nat.le_refl _)]
  by_cases h0 : ys.length = 0
  · have hy : ys = [] := List.eq_nil_of_length_eq_zero h0
    subst hy
    refine ⟨v, w, ?_, by rw [List.append_nil]; exact h, ⟨rfl, rfl, rfl, Nat.le_refl _, fun _ _ _ => rfl⟩, .inl rfl⟩
    rcases h with ⟨rfl, rfl⟩ | ⟨g, cap, cur, rfl, h1, h2, h3, h4, h5⟩
    · cases A <;> simp [Builtin.append_, run_underlying hu, sizeOf, typeInfo, hi, Builtin.lenOf, Builtin.firstCells, loadCells, loadCellsFrom]
    · cases A <;> simp [Builtin.append_, run_underlying hu, sizeOf, typeInfo, hi, Builtin.lenOf, Builtin.firstCells, h2, storeCells, loadCells, loadCellsFrom]
  · obtain ⟨ad, rfl, hc⟩ := src_cells hx (by omega)
    rcases h with ⟨rfl, rfl⟩ | ⟨g, cap, cur, rfl, h1, h2, h3, h4, h5⟩
    · have hr := run_append_nil (P := Try.prog) w 34 ty 5 i0 (.int .u8 0) hu hi hz0 ad ys.length c (nums .u8 ys) (by rw [nums_length, hz1, Nat.mul_one]) hc (by omega) (by omega) (by rw [hz2]; omega)
      have hg := hgrow 0 none
      simp only [List.length_nil, Nat.zero_add, List.nil_append] at hg
      have e : (nums .u8 []).toArray ++ (nums .u8 ys).toArray = (nums .u8 ys).toArray := by simp [nums]
      rw [e] at hg
      exact ⟨_, _, hr, hg.1, hg.2, .inr rfl⟩
    · by_cases hroom : bs.length + ys.length ≤ cap
      · have hr := run_append_room (P := Try.prog) w 34 ty 5 i0 hu hi g bs.length cap cur h1 ad ys.length c (nums .u8 ys) (by rw [nums_length, hz1, Nat.mul_one]) hc (nums_one ys) hroom (by rw [nums_length, hz1]; omega)
        refine ⟨_, _, hr, .inr ⟨g, cap, _, by rw [List.length_append], setRow_heap w g cur _ 5 _ h1, by rw [List.length_append]; exact hroom, ?_, h4, ?_⟩, ⟨rfl, rfl, rfl, by simp, fun k _ hk => setRow_other w g k _ (fun e => hk (by simp [Value.ownBlock, e]))⟩, .inl rfl⟩
        · simp only [List.size_toArray, List.length_append, List.length_take, List.length_drop, Array.length_toList, nums_length, hz1]
          omega
        · have hl : cur.toList.take (bs.length * i0.size) = nums .u8 bs := by rw [hz1, Nat.mul_one]; exact h5
          rw [hl, List.append_assoc]
          show List.take _ (nums .u8 bs ++ (nums .u8 ys ++ _)) = _
          rw [← List.append_assoc, ← nums_append, List.take_append_of_le_length (by rw [nums_length]; exact Nat.le_refl _), List.take_of_length_le (by rw [nums_length]; exact Nat.le_refl _)]
      · have holds : ∀ j u, (nums .u8 bs)[j]? = some u → w.cell? ((⟨g, 0, none⟩ : Addr).add j) = some u := by
          intro j u hu'
          rw [add_plain, sb_cell h1]
          rw [← h5, List.getElem?_take] at hu'
          split at hu'
          · rw [← Array.getElem?_toList]; exact hu'
          · cases hu'
        have hr := run_append_grow (P := Try.prog) w 34 ty 5 i0 (.int .u8 0) hu hi hz0 ⟨g, 0, none⟩ bs.length cap (nums .u8 bs) (by rw [nums_length, hz1, Nat.mul_one]) holds ad ys.length c (nums .u8 ys) (by rw [nums_length, hz1, Nat.mul_one]) hc (by omega) (by omega) (by have := nextslicecap_le (need := bs.length + ys.length) (old := cap) (by omega); rw [hz2]; omega)
        have hg := hgrow cap (some g)
        exact ⟨_, _, hr, hg.1, hg.2, .inr rfl⟩

/-- A slice of bytes that reads the same while F alone changes. -/
def Src (F : Nat → Prop) (w : World) (A : Option Addr) (ys : List Int) : Prop := ∀ W, Chg F w W → Kd.C (Kd.int .u8) W A ys.length ys
theorem C_take {w : World} {A : Option Addr} {ys : List Int} {n k : Nat} (h : Kd.C (Kd.int .u8) w A n ys) (hk : k ≤ n) : Kd.C (Kd.int .u8) w A k (ys.take k) := by
  obtain ⟨h1, h2, h3⟩ := h
  refine ⟨by rw [List.length_take]; omega, by omega, fun h0 => ?_⟩
  obtain ⟨ad, e, hc⟩ := h3 (by omega)
  refine ⟨ad, e, fun j p hj => hc j p ?_⟩
  rw [List.getElem?_take] at hj
  split at hj
  · exact hj
  · cases hj
theorem Src.take {F : Nat → Prop} {w : World} {A : Option Addr} {ys : List Int} (h : Src F w A ys) {k : Nat} (hk : k ≤ ys.length) : Src F w A (ys.take k) := by
  intro W hW
  have := C_take (h W hW) hk
  rwa [show (ys.take k).length = k by rw [List.length_take]; omega]

theorem append_end {F : Nat → Prop} {p m : Nat} {w w1 w2 : World} {L : List FileC} {d : St} {c : FileC} {nm : ByteArray} {ys : List Int} {v' : Value} {r : Int × St} {e : Int} (HI : DiskIs w F p m L d.last d.armed d.down) (HL : L.map FileC.abs = d.fs) (hsL : Srt FileC.nm L)
    (hcw : Chg F w w1) (HI1 : DiskIs w1 F p m L d.last (tick d).2.armed (tick d).2.down) (hcm : c ∈ L) (hcn : c.nm = nm) (hdr : DRow w2 v' (c.bs ++ ys)) (hgr : w1.grownBy w2 c.dat.ownBlock) (hloc : v'.ownBlock = c.dat.ownBlock ∨ v'.ownBlock = some w1.heap.size)
    (HR : (e, { (tick d).2 with fs := upd nm (fun x => { x with dat := x.dat ++ ys }) d.fs, last := nm }) = r) :
    Post F p w r (.returned (.int .i64 e)) ((w2.setCell ⟨c.blk, 0, none⟩ v').setCell ⟨p, 1, none⟩ (.string nm)) := by
  have HF1 := HI1.files c hcm
  have hown : ∀ g, c.dat.ownBlock = some g → F g := HF1.2.2.2
  have hc12 : Chg F w1 w2 := .of_grown hgr (fun k hk => .inl (hown k hk))
  have hfne : some c.blk ≠ c.dat.ownBlock := by
    intro h
    obtain ⟨cur, hcur⟩ := HF1.2.2.1.blk h.symm
    exact ne_of_type HF1.1 hcur (by decide) rfl
  have hpne : some p ≠ c.dat.ownBlock := by
    intro h
    obtain ⟨cur, hcur⟩ := HF1.2.2.1.blk h.symm
    exact ne_of_type HI1.blk hcur (by decide) rfl
  have hfp : c.blk ≠ p := ne_of_type HF1.1 HI1.blk (by decide)
  have hf2 : w2.heap[c.blk]? = some (.cells #[c.dat, .int .i64 c.syn] 68 (0, 0)) := (hgr.block _ (blk_lt HF1.1) hfne).trans HF1.1
  have hc23 : Chg F w2 (w2.setCell ⟨c.blk, 0, none⟩ v') := Chg.setCell w2 (p := ⟨c.blk, 0, none⟩) HF1.2.1 _
  have hc13 := hc12.same hc23
  have hcF := (hcw.same hc13).same (Chg.setCell (w2.setCell ⟨c.blk, 0, none⟩ v') (p := ⟨p, 1, none⟩) HI.fp (.string nm))
  have h13 : ∀ k, F k → k ≠ c.blk → c.dat.ownBlock ≠ some k → (w2.setCell ⟨c.blk, 0, none⟩ v').heap[k]? = w1.heap[k]? := fun k hk h1 h2 =>
    (Below.heap_setCell _ _ _ _ h1).trans (hgr.block k (HI1.lt k hk) (fun e => h2 e.symm))
  have hvne : ∀ g, v'.ownBlock = some g → g ≠ c.blk := fun g hg => by
    obtain ⟨cur, hcur⟩ := hdr.blk hg
    exact ne_of_type hcur hf2 (by decide)
  have HU : DiskIs (w2.setCell ⟨c.blk, 0, none⟩ v') (Gr F w1 (w2.setCell ⟨c.blk, 0, none⟩ v')) p m (updC c.nm { c with dat := v', bs := c.bs ++ ys } L) d.last (tick d).2.armed (tick d).2.down := by
    refine HI1.upd hsL hcm (c' := { c with dat := v', bs := c.bs ++ ys }) rfl rfl ⟨?_, .inl HF1.2.1, hdr.heap (fun g hg => Below.heap_setCell _ _ _ _ (hvne g hg)), fun g hg => ?_⟩ h13 (fun g hg => ?_) (fun _ h => .inl h) (Gr.lt HI1.lt hc13.size)
    · have := sb_set hf2 0 v'
      simpa using this
    · rcases hloc with h | h
      · exact .inl (hown g (h ▸ hg))
      · refine .inr ⟨?_, ?_⟩
        · have : g = w1.heap.size := by have h2 := h.symm.trans hg; injection h2 with h2; exact h2.symm
          omega
        · obtain ⟨cur, hcur⟩ := hdr.blk hg
          have := blk_lt hcur
          exact Nat.lt_of_lt_of_le this hc23.size
    · rcases hloc with h | h
      · exact .inl (h ▸ hg)
      · have : g = w1.heap.size := by have h2 := h.symm.trans hg; injection h2 with h2; exact h2.symm
        exact .inr (by omega)
  rw [← HR]
  refine ⟨rfl, ⟨m, updC c.nm { c with dat := v', bs := c.bs ++ ys } L, ?_, ?_⟩, hcF⟩
  · refine (HU.head (la' := nm) (ar' := (tick d).2.armed) (dn' := (tick d).2.down) ?_ (Chg.setCell (F := (· = p)) _ (p := ⟨p, 1, none⟩) rfl _) (by simp [World.setCell])).wide ?_ (Gr.lt HI.lt hcF.size)
    · have := sb_set HU.blk 1 (.string nm)
      simpa using this
    · intro k hk
      rcases hk with hk | hk
      · exact .inl hk
      · exact .inr ⟨Nat.le_trans hcw.size hk.1, by have := hk.2; simpa [World.setCell] using this⟩
  · rw [updC_abs hsL hcm (fun x => { x with dat := x.dat ++ ys }) rfl, HL, hcn]

theorem wpList_append_run {P : Program} (w : World) {ops : Array Oper} {rest : List Oper} {o : Oper} {a : Act} {Q : Exit → Act → World → Prop} (hgd : o.guard = none) (s x : Operand) (t u : TypeId)
    (ho : o.op = .call { callee := .builtin .append, args := #[s, x], argTypes := #[t, u] }) (v xv v' : Value) (w' : World) (hs : a.eval s = v) (hx : a.eval x = xv) (hr : (Builtin.append_ #[t, u] o.type #[v, xv]).run P w = .ok v' w')
    (h : wpList P ops Q rest (a.put o.dst v') w') : wpList P ops Q (o :: rest) a w :=
  wpList_plain hgd fun _ hK => by
    unfold Oper.wp execOp
    simp only [ho, resolve, invoke, builtin, Sem.run_bind, Sem.run_pure, Result.andThen_ok, List.map_toArray, List.map_cons, List.map_nil, hs, hx, hr]
    exact hK _ _ h

set_option maxRecDepth 100000 in
set_option maxHeartbeats 400000 in
theorem append_calls {F : Nat → Prop} {p : Nat} {w : World} {d : St} (nm : ByteArray) (A : Option Addr) (cp : Nat) (ys : List Int) (h : DiskAt w F p d) (ok : d.Ok) (hn : nm.size ≤ 140737488351232) (hs : Src F w A ys) (hy : ys.length ≤ 140737488351232) (hcp : ys.length ≤ cp) :
    Calls Try.prog 14 #[.pointer (some ⟨p, 0, none⟩), .string nm, .slice A ys.length cp] w (Post F p w (d.append nm ys)) := by
  have hn1 : nm.size ≤ maxLen := by unfold maxLen; omega
  have H := Lib.hid h
  obtain ⟨m, L, hI, hL⟩ := h
  have b0 := sb_cell hI.blk 0
  have b3 := sb_cell hI.blk 3
  simp at b0 b3
  have hl := hI.map.look hn1
  have hla := look_abs hL nm
  have HI := Lib.hid hI
  generalize hr : d.append nm ys = r
  unfold St.append at hr
  have HL := Lib.hid hL
  have HA := Lib.hid ok
  have HS := Lib.hid hs
  clear hI hL hs
  cases hd : d.down with
  | true =>
    rw [if_pos hd] at hr
    rw [hd] at b3
    have HR := Lib.hid hr
    cases hk : look FileC.nm nm L with
    | none =>
      rw [hk] at hl
      simp only [ptrOf] at hl
      clear hk hla hr hd ok
      go_enter Try.func14, Try.ntmps14
      go_wp2
      go_ret
      rw [← HR.out]
      exact Post.same H.out rfl 0
    | some c =>
      rw [hk] at hl
      simp only [ptrOf] at hl
      clear hk hla hr hd ok
      go_enter Try.func14, Try.ntmps14
      go_wp2
      go_ret
      rw [← HR.out]
      exact Post.same H.out rfl 0
  | false =>
  rw [if_neg (by rw [hd]; simp), hla] at hr
  rw [hd] at b3
  cases hk : look FileC.nm nm L with
  | none =>
    rw [hk] at hl hr
    simp only [ptrOf] at hl
    have HR := Lib.hid hr
    clear hk hla hd hr ok
    go_enter Try.func14, Try.ntmps14
    go_wp2
    go_ret
    rw [← HR.out]
    exact Post.same H.out rfl 0
  | some c =>
    rw [hk] at hl hr
    simp only [ptrOf] at hl
    simp only [Option.map_some] at hr
    obtain ⟨hcm, hcn⟩ := look_some hk
    have hsL := srt_abs HL.out ok.srt
    have ht0 : (total d.fs : Int) ≤ 16777216 := by have := ok.tot; omega
    have hy0 : (ys.length : Int) ≤ 140737488351232 := by omega
    have hbs : c.bs.length ≤ total d.fs := by
      have := sumC_take hsL hcm
      rw [sumC_abs HL.out] at this
      omega
    have HB := Lib.hid hbs
    have HC := Lib.hid hcm
    have HN := Lib.hid hcn
    have HSL := Lib.hid hsL
    have HY := Lib.hid hy
    have HCP := Lib.hid hcp
    by_cases hf : 16777216 < ys.length + total d.fs
    · rw [if_pos hf] at hr
      have HR := Lib.hid hr
      have hb : decide ((16777216 : Int) - total d.fs < ys.length) = true := by simp; omega
      clear hk hla hd hr ok hcm hcn hsL hbs hf hy hcp
      go_enter Try.func14, Try.ntmps14
      go_wp2_with (go_at_call 16; refine (size_calls (by exact H.out) HA.out.srt (by have := HA.out.tot; omega)).mono ?_; rintro e w1 ⟨rfl, hc0⟩)
      go_ret
      rw [← HR.out]
      refine ⟨rfl, ?_, chg_none hc0⟩
      have h1 := H.out.chg hc0 (fun _ _ h => h)
      obtain ⟨m', L', hI', hL'⟩ := h1
      exact ⟨m', L', hI'.wide (fun _ h => .inl h) (Gr.lt H.out.lt hc0.size), hL'⟩
    rw [if_neg hf] at hr
    have hb : decide ((16777216 : Int) - total d.fs < ys.length) = false := by simp; omega
    have HFit := Lib.hid hf
    cases ht : (tick d).1 with
    | false =>
      rw [ht] at hr
      have HT := Lib.hid ht
      have hr2 : ((0 : Int), { (tick d).2 with fs := upd nm (fun x => { x with dat := x.dat ++ ys }) d.fs, last := nm }) = r := by rw [← hr]; simp
      have HR := Lib.hid hr2
      clear hk hla hd hr hr2 ok hcm hcn hsL hbs hf hy hcp ht
      go_enter Try.func14, Try.ntmps14
      go_wp2_with (first
        | (at_builtin; refine wpList_append_run _ rfl _ _ 34 34 rfl _ _ _ _ rfl rfl HRUN.out ?_)
        | (go_at_call 16; refine (size_calls (by exact H.out) HA.out.srt (by have := HA.out.tot; omega)).mono ?_; rintro e w1 ⟨rfl, hc0⟩)
        | (go_at_call 35; refine (tick_calls p m _ d.last d.armed d.down d rfl rfl HA.out.armed (by exact (HI.out.chg hc0 (fun _ _ h => h)).blk)).mono ?_; rintro e w2 ⟨rfl, hb1, hs1, hc1⟩; rw [HT.out]; go_must (have hI1 := (HI.out.chg hc0 (fun _ _ h => h)).head hb1 hc1 hs1; have hcw : Chg F w w2 := (chg_none hc0).same (hc1.mono (fun k hk => by rw [hk]; exact HI.out.fp)); have hf1 := hI1.files c HC.out; obtain ⟨A0, cap0, hv, _, _⟩ := hf1.2.2.1.form; have c0 := sb_cell hf1.1 0; simp at c0; rw [hv] at c0; obtain ⟨v', w3, hrun, hdr, hgr, hloc⟩ := drow_append (c := cp) hf1.2.2.1 (HS.out w2 hcw) (by have := HB.out; have := HFit.out; omega) 34; rw [hv] at hrun; obtain ⟨A3, cap3, hv3, _, _⟩ := hdr.form; have hgb := hgr.block c.blk (blk_lt hf1.1) (by intro h; obtain ⟨cur, hcur⟩ := hf1.2.2.1.blk h.symm; exact ne_of_type hf1.1 hcur (by decide) rfl); have g3 := sb_cell (hgb.trans hf1.1) 0; have r3 := sb_free (hgb.trans hf1.1) 0; simp at g3; have hgp := hgr.block p (blk_lt hI1.blk) (by intro h; obtain ⟨cur, hcur⟩ := hf1.2.2.1.blk h.symm; exact ne_of_type hI1.blk hcur (by decide) rfl); have g4 := sb_cell (hgp.trans hI1.blk) 1; have r4 := sb_free (hgp.trans hI1.blk) 1; simp at g4; have hne : c.blk ≠ p := ne_of_type hf1.1 hI1.blk (by decide); rw [hv] at g3; rw [hv3] at hrun; have HI1 := Lib.hid hI1; have HG := Lib.hid hgr; have HD := Lib.hid hdr; have HLo := Lib.hid hloc; have HV3 := Lib.hid hv3; have HRUN := Lib.hid hrun; clear hrun hb1 hs1 hI1 hf1 hv hgr hdr hloc hgb hgp hv3)))
      go_ret
      have := append_end HI.out HL.out HSL.out hcw HI1.out HC.out HN.out HD.out HG.out HLo.out HR.out
      rw [HV3.out, List.length_append] at this
      exact this
    | true =>
      rw [ht] at hr
      have HT := Lib.hid ht
      have hr2 : ((11 : Int), { (tick d).2 with fs := upd nm (fun x => { x with dat := x.dat ++ ys.take (ys.length / 2) }) d.fs, last := nm }) = r := by rw [← hr]; simp
      have HR := Lib.hid hr2
      obtain ⟨i0, hi, _⟩ := info_parts PDiskLoads.info5
      have hsl := cut_to (P := Try.prog) 34 5 .i64 Try.underlying34 hi A ys.length cp ((ys.length : Int) / 2) (by omega) (by omega) hcp
      obtain ⟨K, hK⟩ : ∃ K, K = ys.length / 2 := ⟨_, rfl⟩
      have hKn : ((ys.length : Int) / 2).toNat = K := by omega
      rw [hKn] at hsl
      rw [← hK] at HR
      have hKl : K ≤ ys.length := by omega
      have HK := Lib.hid hKl
      have hzl : (ys.take K).length = K := by rw [List.length_take]; omega
      have HZ := Lib.hid hzl
      clear hk hla hd hr hr2 ok hcm hcn hsL hbs hf hy hcp ht hi hK hKn hKl hzl
      go_enter Try.func14, Try.ntmps14
      go_wp2_with (first
        | (at_builtin; refine wpList_append_run _ rfl _ _ 34 34 rfl _ _ _ _ rfl rfl HRUN.out ?_)
        | (go_at_call 16; refine (size_calls (by exact H.out) HA.out.srt (by have := HA.out.tot; omega)).mono ?_; rintro e w1 ⟨rfl, hc0⟩)
        | (go_at_call 35; refine (tick_calls p m _ d.last d.armed d.down d rfl rfl HA.out.armed (by exact (HI.out.chg hc0 (fun _ _ h => h)).blk)).mono ?_; rintro e w2 ⟨rfl, hb1, hs1, hc1⟩; rw [HT.out]; go_must (have hI1 := (HI.out.chg hc0 (fun _ _ h => h)).head hb1 hc1 hs1; have hcw : Chg F w w2 := (chg_none hc0).same (hc1.mono (fun k hk => by rw [hk]; exact HI.out.fp)); have hf1 := hI1.files c HC.out; obtain ⟨A0, cap0, hv, _, _⟩ := hf1.2.2.1.form; have c0 := sb_cell hf1.1 0; simp at c0; rw [hv] at c0; obtain ⟨v', w3, hrun, hdr, hgr, hloc⟩ := drow_append (c := cp) hf1.2.2.1 ((HS.out.take HK.out) w2 hcw) (by rw [HZ.out]; have := HB.out; have := HFit.out; have := HK.out; omega) 34; rw [hv, HZ.out] at hrun; obtain ⟨A3, cap3, hv3, _, _⟩ := hdr.form; have hgb := hgr.block c.blk (blk_lt hf1.1) (by intro h; obtain ⟨cur, hcur⟩ := hf1.2.2.1.blk h.symm; exact ne_of_type hf1.1 hcur (by decide) rfl); have g3 := sb_cell (hgb.trans hf1.1) 0; have r3 := sb_free (hgb.trans hf1.1) 0; simp at g3; have hgp := hgr.block p (blk_lt hI1.blk) (by intro h; obtain ⟨cur, hcur⟩ := hf1.2.2.1.blk h.symm; exact ne_of_type hI1.blk hcur (by decide) rfl); have g4 := sb_cell (hgp.trans hI1.blk) 1; have r4 := sb_free (hgp.trans hI1.blk) 1; simp at g4; have hne : c.blk ≠ p := ne_of_type hf1.1 hI1.blk (by decide); rw [hv] at g3; rw [List.length_append, HZ.out] at hv3; rw [hv3] at hrun; have HI1 := Lib.hid hI1; have HG := Lib.hid hgr; have HD := Lib.hid hdr; have HLo := Lib.hid hloc; have HV3 := Lib.hid hv3; have HRUN := Lib.hid hrun; clear hrun hb1 hs1 hI1 hf1 hv hgr hdr hloc hgb hgp hv3)))
      go_ret
      have := append_end HI.out HL.out HSL.out hcw HI1.out HC.out HN.out HD.out HG.out HLo.out HR.out
      rw [HV3.out] at this
      exact this
end Go.Proofs.Ytflajlnknimjaaa.Dk

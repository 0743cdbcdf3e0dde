/- Merged: DkW7, DkW8, DkL, DkF, DkO, DkM. -/
import Derived.Test.YtflajlnknimjaaaMl2
import Derived.Test.YtflajlnknimjaaaMl1
import Derived.Sort.KeysCollected
import Derived.Sort.Walk0
import Derived.Test.YtflajlnknimjaaaWTab
import Derived.Test.YtflajlnknimjaaaWApart
set_option linter.unusedVariables false
set_option linter.unusedSimpArgs false
/- Append of the disk. -/
namespace Go.Proofs.Ytflajlnknimjaaa.Dk
open Go.RowKit Go.Maps Go.Proofs.YtflajlnknimjaaaW.PrintWords Go.Proofs.YtflajlnknimjaaaW.PrintMore Go.Proofs.Ytflajlnknimjaaa.Syn
attribute [local go_sem] max2_int min2_int max_two min_two

theorem src_cells {w : World} {A : Option Addr} {ys : List Int} (h : Kd.C (Kd.int .u8) w A ys.length ys) (h0 : 0 < ys.length) : ∃ ad, A = some ad ∧ ∀ j u, (nums .u8 ys)[j]? = some u → w.cell? (ad.add j) = some u := by
  obtain ⟨_, _, hc⟩ := h
  obtain ⟨ad, e, hc⟩ := hc h0
  refine ⟨ad, e, fun j u hu => ?_⟩
  unfold nums at hu
  rw [List.getElem?_map] at hu
  obtain ⟨x, hx, rfl⟩ := Option.map_eq_some_iff.1 hu
  obtain ⟨c, _, hk, hcell⟩ := hc j x hx
  have hk' : c = [.int .u8 x] := hk
  subst hk'
  have := hcell 0 _ rfl
  have e2 : j * (Kd.int .u8).sz + 0 = j := by show j * 1 + 0 = j; omega
  rwa [e2] at this
theorem nums_one (ys : List Int) : ∀ u ∈ nums .u8 ys, u.oneCell' = true := by
  intro u hu
  obtain ⟨x, _, rfl⟩ := List.mem_map.1 hu
  rfl
theorem drow_append {w : World} {v : Value} {bs : List Int} (h : DRow w v bs) {A : Option Addr} {c : Nat} {ys : List Int} (hx : Kd.C (Kd.int .u8) w A ys.length ys) (hb : bs.length + ys.length ≤ 1099511627776) (ty : TypeId) :
    ∃ v' w', (Builtin.append_ #[34, 34] ty #[v, .slice A ys.length c]).run Try.prog w = .ok v' w' ∧ DRow w' v' (bs ++ ys) ∧ w.grownBy w' v.ownBlock ∧ (v'.ownBlock = v.ownBlock ∨ v'.ownBlock = some w.heap.size) := by
  obtain ⟨i0, hi, hz0, hz1, hz2⟩ := info_parts PDiskLoads.info5
  have hu := Try.underlying34
  have hgrow : ∀ (cap : Nat) (row : Option Nat), DRow (w.drew.alloc (.cells ((nums .u8 bs).toArray ++ (nums .u8 ys).toArray ++ Builtin.zeroCells (Value.int .u8 0).cells (grownCap w (bs.length + ys.length) cap 5 - (bs.length + ys.length))) 5)) (.slice (some ⟨w.heap.size, 0, none⟩) (bs.length + ys.length) (grownCap w (bs.length + ys.length) cap 5)) (bs ++ ys) ∧
      w.grownBy (w.drew.alloc (.cells ((nums .u8 bs).toArray ++ (nums .u8 ys).toArray ++ Builtin.zeroCells (Value.int .u8 0).cells (grownCap w (bs.length + ys.length) cap 5 - (bs.length + ys.length))) 5)) row := by
    intro cap row
    have hge := grownCap_ge w (bs.length + ys.length) cap 5
    have hcm := grownCap_le_maxLen w (bs.length + ys.length) cap 5 (by unfold maxLen; omega)
    refine ⟨.inr ⟨w.heap.size, _, _, by rw [List.length_append], heap_alloc_new w.drew _, by rw [List.length_append]; exact hge, ?_, hcm, ?_⟩, ⟨rfl, rfl, rfl, by simp, fun k hk _ => Below.heap_alloc w.drew _ k hk⟩⟩
    · simp only [Array.size_append, List.size_toArray, size_zeroCells, nums_length, Value.cells]
      show _ ≤ bs.length + ys.length + (_ - _) * 1
      omega
    · simp only [Array.toList_append, List.append_assoc]
      rw [← List.append_assoc, ← nums_append, List.take_append_of_le_length (by rw [nums_length]; exact Nat.le_refl _), List.take_of_length_le (by rw [nums_length]; exact Nat.le_refl _)]
  by_cases h0 : ys.length = 0
  · have hy : ys = [] := List.eq_nil_of_length_eq_zero h0
    subst hy
    refine ⟨v, w, ?_, by rw [List.append_nil]; exact h, ⟨rfl, rfl, rfl, Nat.le_refl _, fun _ _ _ => rfl⟩, .inl rfl⟩
    rcases h with ⟨rfl, rfl⟩ | ⟨g, cap, cur, rfl, h1, h2, h3, h4, h5⟩
    · cases A <;> simp [Builtin.append_, run_underlying hu, sizeOf, typeInfo, hi, Builtin.lenOf, Builtin.firstCells, loadCells, loadCellsFrom]
    · cases A <;> simp [Builtin.append_, run_underlying hu, sizeOf, typeInfo, hi, Builtin.lenOf, Builtin.firstCells, h2, storeCells, loadCells, loadCellsFrom]
  · obtain ⟨ad, rfl, hc⟩ := src_cells hx (by omega)
    rcases h with ⟨rfl, rfl⟩ | ⟨g, cap, cur, rfl, h1, h2, h3, h4, h5⟩
    · have hr := run_append_nil (P := Try.prog) w 34 ty 5 i0 (.int .u8 0) hu hi hz0 ad ys.length c (nums .u8 ys) (by rw [nums_length, hz1, Nat.mul_one]) hc (by omega) (by omega) (by rw [hz2]; omega)
      have hg := hgrow 0 none
      simp only [List.length_nil, Nat.zero_add, List.nil_append] at hg
      have e : (nums .u8 []).toArray ++ (nums .u8 ys).toArray = (nums .u8 ys).toArray := by simp [nums]
      rw [e] at hg
      exact ⟨_, _, hr, hg.1, hg.2, .inr rfl⟩
    · by_cases hroom : bs.length + ys.length ≤ cap
      · have hr := run_append_room (P := Try.prog) w 34 ty 5 i0 hu hi g bs.length cap cur h1 ad ys.length c (nums .u8 ys) (by rw [nums_length, hz1, Nat.mul_one]) hc (nums_one ys) hroom (by rw [nums_length, hz1]; omega)
        refine ⟨_, _, hr, .inr ⟨g, cap, _, by rw [List.length_append], setRow_heap w g cur _ 5 _ h1, by rw [List.length_append]; exact hroom, ?_, h4, ?_⟩, ⟨rfl, rfl, rfl, by simp, fun k _ hk => setRow_other w g k _ (fun e => hk (by simp [Value.ownBlock, e]))⟩, .inl rfl⟩
        · simp only [List.size_toArray, List.length_append, List.length_take, List.length_drop, Array.length_toList, nums_length, hz1]
          omega
        · have hl : cur.toList.take (bs.length * i0.size) = nums .u8 bs := by rw [hz1, Nat.mul_one]; exact h5
          rw [hl, List.append_assoc]
          show List.take _ (nums .u8 bs ++ (nums .u8 ys ++ _)) = _
          rw [← List.append_assoc, ← nums_append, List.take_append_of_le_length (by rw [nums_length]; exact Nat.le_refl _), List.take_of_length_le (by rw [nums_length]; exact Nat.le_refl _)]
      · have holds : ∀ j u, (nums .u8 bs)[j]? = some u → w.cell? ((⟨g, 0, none⟩ : Addr).add j) = some u := by
          intro j u hu'
          rw [add_plain, sb_cell h1]
          rw [← h5, List.getElem?_take] at hu'
          split at hu'
          · rw [← Array.getElem?_toList]; exact hu'
          · cases hu'
        have hr := run_append_grow (P := Try.prog) w 34 ty 5 i0 (.int .u8 0) hu hi hz0 ⟨g, 0, none⟩ bs.length cap (nums .u8 bs) (by rw [nums_length, hz1, Nat.mul_one]) holds ad ys.length c (nums .u8 ys) (by rw [nums_length, hz1, Nat.mul_one]) hc (by omega) (by omega) (by have := nextslicecap_le (need := bs.length + ys.length) (old := cap) (by omega); rw [hz2]; omega)
        have hg := hgrow cap (some g)
        exact ⟨_, _, hr, hg.1, hg.2, .inr rfl⟩

/-- A slice of bytes that reads the same while F alone changes. -/
def Src (F : Nat → Prop) (w : World) (A : Option Addr) (ys : List Int) : Prop := ∀ W, Chg F w W → Kd.C (Kd.int .u8) W A ys.length ys
theorem C_take {w : World} {A : Option Addr} {ys : List Int} {n k : Nat} (h : Kd.C (Kd.int .u8) w A n ys) (hk : k ≤ n) : Kd.C (Kd.int .u8) w A k (ys.take k) := by
  obtain ⟨h1, h2, h3⟩ := h
  refine ⟨by rw [List.length_take]; omega, by omega, fun h0 => ?_⟩
  obtain ⟨ad, e, hc⟩ := h3 (by omega)
  refine ⟨ad, e, fun j p hj => hc j p ?_⟩
  rw [List.getElem?_take] at hj
  split at hj
  · exact hj
  · cases hj
theorem Src.take {F : Nat → Prop} {w : World} {A : Option Addr} {ys : List Int} (h : Src F w A ys) {k : Nat} (hk : k ≤ ys.length) : Src F w A (ys.take k) := by
  intro W hW
  have := C_take (h W hW) hk
  rwa [show (ys.take k).length = k by rw [List.length_take]; omega]

theorem append_end {F : Nat → Prop} {p m : Nat} {w w1 w2 : World} {L : List FileC} {d : St} {c : FileC} {nm : ByteArray} {ys : List Int} {v' : Value} {r : Int × St} {e : Int} (HI : DiskIs w F p m L d.last d.armed d.down) (HL : L.map FileC.abs = d.fs) (hsL : Srt FileC.nm L)
    (hcw : Chg F w w1) (HI1 : DiskIs w1 F p m L d.last (tick d).2.armed (tick d).2.down) (hcm : c ∈ L) (hcn : c.nm = nm) (hdr : DRow w2 v' (c.bs ++ ys)) (hgr : w1.grownBy w2 c.dat.ownBlock) (hloc : v'.ownBlock = c.dat.ownBlock ∨ v'.ownBlock = some w1.heap.size)
    (HR : (e, { (tick d).2 with fs := upd nm (fun x => { x with dat := x.dat ++ ys }) d.fs, last := nm }) = r) :
    Post F p w r (.returned (.int .i64 e)) ((w2.setCell ⟨c.blk, 0, none⟩ v').setCell ⟨p, 1, none⟩ (.string nm)) := by
  have HF1 := HI1.files c hcm
  have hown : ∀ g, c.dat.ownBlock = some g → F g := HF1.2.2.2
  have hc12 : Chg F w1 w2 := .of_grown hgr (fun k hk => .inl (hown k hk))
  have hfne : some c.blk ≠ c.dat.ownBlock := by
    intro h
    obtain ⟨cur, hcur⟩ := HF1.2.2.1.blk h.symm
    exact ne_of_type HF1.1 hcur (by decide) rfl
  have hpne : some p ≠ c.dat.ownBlock := by
    intro h
    obtain ⟨cur, hcur⟩ := HF1.2.2.1.blk h.symm
    exact ne_of_type HI1.blk hcur (by decide) rfl
  have hfp : c.blk ≠ p := ne_of_type HF1.1 HI1.blk (by decide)
  have hf2 : w2.heap[c.blk]? = some (.cells #[c.dat, .int .i64 c.syn] 68 (0, 0)) := (hgr.block _ (blk_lt HF1.1) hfne).trans HF1.1
  have hc23 : Chg F w2 (w2.setCell ⟨c.blk, 0, none⟩ v') := Chg.setCell w2 (p := ⟨c.blk, 0, none⟩) HF1.2.1 _
  have hc13 := hc12.same hc23
  have hcF := (hcw.same hc13).same (Chg.setCell (w2.setCell ⟨c.blk, 0, none⟩ v') (p := ⟨p, 1, none⟩) HI.fp (.string nm))
  have h13 : ∀ k, F k → k ≠ c.blk → c.dat.ownBlock ≠ some k → (w2.setCell ⟨c.blk, 0, none⟩ v').heap[k]? = w1.heap[k]? := fun k hk h1 h2 =>
    (Below.heap_setCell _ _ _ _ h1).trans (hgr.block k (HI1.lt k hk) (fun e => h2 e.symm))
  have hvne : ∀ g, v'.ownBlock = some g → g ≠ c.blk := fun g hg => by
    obtain ⟨cur, hcur⟩ := hdr.blk hg
    exact ne_of_type hcur hf2 (by decide)
  have HU : DiskIs (w2.setCell ⟨c.blk, 0, none⟩ v') (Gr F w1 (w2.setCell ⟨c.blk, 0, none⟩ v')) p m (updC c.nm { c with dat := v', bs := c.bs ++ ys } L) d.last (tick d).2.armed (tick d).2.down := by
    refine HI1.upd hsL hcm (c' := { c with dat := v', bs := c.bs ++ ys }) rfl rfl ⟨?_, .inl HF1.2.1, hdr.heap (fun g hg => Below.heap_setCell _ _ _ _ (hvne g hg)), fun g hg => ?_⟩ h13 (fun g hg => ?_) (fun _ h => .inl h) (Gr.lt HI1.lt hc13.size)
    · have := sb_set hf2 0 v'
      simpa using this
    · rcases hloc with h | h
      · exact .inl (hown g (h ▸ hg))
      · refine .inr ⟨?_, ?_⟩
        · have : g = w1.heap.size := by have h2 := h.symm.trans hg; injection h2 with h2; exact h2.symm
          omega
        · obtain ⟨cur, hcur⟩ := hdr.blk hg
          have := blk_lt hcur
          exact Nat.lt_of_lt_of_le this hc23.size
    · rcases hloc with h | h
      · exact .inl (h ▸ hg)
      · have : g = w1.heap.size := by have h2 := h.symm.trans hg; injection h2 with h2; exact h2.symm
        exact .inr (by omega)
  rw [← HR]
  refine ⟨rfl, ⟨m, updC c.nm { c with dat := v', bs := c.bs ++ ys } L, ?_, ?_⟩, hcF⟩
  · refine (HU.head (la' := nm) (ar' := (tick d).2.armed) (dn' := (tick d).2.down) ?_ (Chg.setCell (F := (· = p)) _ (p := ⟨p, 1, none⟩) rfl _) (by simp [World.setCell])).wide ?_ (Gr.lt HI.lt hcF.size)
    · have := sb_set HU.blk 1 (.string nm)
      simpa using this
    · intro k hk
      rcases hk with hk | hk
      · exact .inl hk
      · exact .inr ⟨Nat.le_trans hcw.size hk.1, by have := hk.2; simpa [World.setCell] using this⟩
  · rw [updC_abs hsL hcm (fun x => { x with dat := x.dat ++ ys }) rfl, HL, hcn]

theorem wpList_append_run {P : Program} (w : World) {ops : Array Oper} {rest : List Oper} {o : Oper} {a : Act} {Q : Exit → Act → World → Prop} (hgd : o.guard = none) (s x : Operand) (t u : TypeId)
    (ho : o.op = .call { callee := .builtin .append, args := #[s, x], argTypes := #[t, u] }) (v xv v' : Value) (w' : World) (hs : a.eval s = v) (hx : a.eval x = xv) (hr : (Builtin.append_ #[t, u] o.type #[v, xv]).run P w = .ok v' w')
    (h : wpList P ops Q rest (a.put o.dst v') w') : wpList P ops Q (o :: rest) a w :=
  wpList_plain hgd fun _ hK => by
    unfold Oper.wp execOp
    simp only [ho, resolve, invoke, builtin, Sem.run_bind, Sem.run_pure, Result.andThen_ok, List.map_toArray, List.map_cons, List.map_nil, hs, hx, hr]
    exact hK _ _ h

set_option maxRecDepth 100000 in
set_option maxHeartbeats 400000 in
theorem append_calls {F : Nat → Prop} {p : Nat} {w : World} {d : St} (nm : ByteArray) (A : Option Addr) (cp : Nat) (ys : List Int) (h : DiskAt w F p d) (ok : d.Ok) (hn : nm.size ≤ 140737488351232) (hs : Src F w A ys) (hy : ys.length ≤ 140737488351232) (hcp : ys.length ≤ cp) :
    Calls Try.prog 14 #[.pointer (some ⟨p, 0, none⟩), .string nm, .slice A ys.length cp] w (Post F p w (d.append nm ys)) := by
  have hn1 : nm.size ≤ maxLen := by unfold maxLen; omega
  have H := Lib.hid h
  obtain ⟨m, L, hI, hL⟩ := h
  have b0 := sb_cell hI.blk 0
  have b3 := sb_cell hI.blk 3
  simp at b0 b3
  have hl := hI.map.look hn1
  have hla := look_abs hL nm
  have HI := Lib.hid hI
  generalize hr : d.append nm ys = r
  unfold St.append at hr
  have HL := Lib.hid hL
  have HA := Lib.hid ok
  have HS := Lib.hid hs
  clear hI hL hs
  cases hd : d.down with
  | true =>
    rw [if_pos hd] at hr
    rw [hd] at b3
    have HR := Lib.hid hr
    cases hk : look FileC.nm nm L with
    | none =>
      rw [hk] at hl
      simp only [ptrOf] at hl
      clear hk hla hr hd ok
      go_enter Try.func14, Try.ntmps14
      go_wp2
      go_ret
      rw [← HR.out]
      exact Post.same H.out rfl 0
    | some c =>
      rw [hk] at hl
      simp only [ptrOf] at hl
      clear hk hla hr hd ok
      go_enter Try.func14, Try.ntmps14
      go_wp2
      go_ret
      rw [← HR.out]
      exact Post.same H.out rfl 0
  | false =>
  rw [if_neg (by rw [hd]; simp), hla] at hr
  rw [hd] at b3
  cases hk : look FileC.nm nm L with
  | none =>
    rw [hk] at hl hr
    simp only [ptrOf] at hl
    have HR := Lib.hid hr
    clear hk hla hd hr ok
    go_enter Try.func14, Try.ntmps14
    go_wp2
    go_ret
    rw [← HR.out]
    exact Post.same H.out rfl 0
  | some c =>
    rw [hk] at hl hr
    simp only [ptrOf] at hl
    simp only [Option.map_some] at hr
    obtain ⟨hcm, hcn⟩ := look_some hk
    have hsL := srt_abs HL.out ok.srt
    have ht0 : (total d.fs : Int) ≤ 16777216 := by have := ok.tot; omega
    have hy0 : (ys.length : Int) ≤ 140737488351232 := by omega
    have hbs : c.bs.length ≤ total d.fs := by
      have := sumC_take hsL hcm
      rw [sumC_abs HL.out] at this
      omega
    have HB := Lib.hid hbs
    have HC := Lib.hid hcm
    have HN := Lib.hid hcn
    have HSL := Lib.hid hsL
    have HY := Lib.hid hy
    have HCP := Lib.hid hcp
    by_cases hf : 16777216 < ys.length + total d.fs
    · rw [if_pos hf] at hr
      have HR := Lib.hid hr
      have hb : decide ((16777216 : Int) - total d.fs < ys.length) = true := by simp; omega
      clear hk hla hd hr ok hcm hcn hsL hbs hf hy hcp
      go_enter Try.func14, Try.ntmps14
      go_wp2_with (go_at_call 16; refine (size_calls (by exact H.out) HA.out.srt (by have := HA.out.tot; omega)).mono ?_; rintro e w1 ⟨rfl, hc0⟩)
      go_ret
      rw [← HR.out]
      refine ⟨rfl, ?_, chg_none hc0⟩
      have h1 := H.out.chg hc0 (fun _ _ h => h)
      obtain ⟨m', L', hI', hL'⟩ := h1
      exact ⟨m', L', hI'.wide (fun _ h => .inl h) (Gr.lt H.out.lt hc0.size), hL'⟩
    rw [if_neg hf] at hr
    have hb : decide ((16777216 : Int) - total d.fs < ys.length) = false := by simp; omega
    have HFit := Lib.hid hf
    cases ht : (tick d).1 with
    | false =>
      rw [ht] at hr
      have HT := Lib.hid ht
      have hr2 : ((0 : Int), { (tick d).2 with fs := upd nm (fun x => { x with dat := x.dat ++ ys }) d.fs, last := nm }) = r := by rw [← hr]; simp
      have HR := Lib.hid hr2
      clear hk hla hd hr hr2 ok hcm hcn hsL hbs hf hy hcp ht
      go_enter Try.func14, Try.ntmps14
      go_wp2_with (first
        | (at_builtin; refine wpList_append_run _ rfl _ _ 34 34 rfl _ _ _ _ rfl rfl HRUN.out ?_)
        | (go_at_call 16; refine (size_calls (by exact H.out) HA.out.srt (by have := HA.out.tot; omega)).mono ?_; rintro e w1 ⟨rfl, hc0⟩)
        | (go_at_call 35; refine (tick_calls p m _ d.last d.armed d.down d rfl rfl HA.out.armed (by exact (HI.out.chg hc0 (fun _ _ h => h)).blk)).mono ?_; rintro e w2 ⟨rfl, hb1, hs1, hc1⟩; rw [HT.out]; go_must (have hI1 := (HI.out.chg hc0 (fun _ _ h => h)).head hb1 hc1 hs1; have hcw : Chg F w w2 := (chg_none hc0).same (hc1.mono (fun k hk => by rw [hk]; exact HI.out.fp)); have hf1 := hI1.files c HC.out; obtain ⟨A0, cap0, hv, _, _⟩ := hf1.2.2.1.form; have c0 := sb_cell hf1.1 0; simp at c0; rw [hv] at c0; obtain ⟨v', w3, hrun, hdr, hgr, hloc⟩ := drow_append (c := cp) hf1.2.2.1 (HS.out w2 hcw) (by have := HB.out; have := HFit.out; omega) 34; rw [hv] at hrun; obtain ⟨A3, cap3, hv3, _, _⟩ := hdr.form; have hgb := hgr.block c.blk (blk_lt hf1.1) (by intro h; obtain ⟨cur, hcur⟩ := hf1.2.2.1.blk h.symm; exact ne_of_type hf1.1 hcur (by decide) rfl); have g3 := sb_cell (hgb.trans hf1.1) 0; have r3 := sb_free (hgb.trans hf1.1) 0; simp at g3; have hgp := hgr.block p (blk_lt hI1.blk) (by intro h; obtain ⟨cur, hcur⟩ := hf1.2.2.1.blk h.symm; exact ne_of_type hI1.blk hcur (by decide) rfl); have g4 := sb_cell (hgp.trans hI1.blk) 1; have r4 := sb_free (hgp.trans hI1.blk) 1; simp at g4; have hne : c.blk ≠ p := ne_of_type hf1.1 hI1.blk (by decide); rw [hv] at g3; rw [hv3] at hrun; have HI1 := Lib.hid hI1; have HG := Lib.hid hgr; have HD := Lib.hid hdr; have HLo := Lib.hid hloc; have HV3 := Lib.hid hv3; have HRUN := Lib.hid hrun; clear hrun hb1 hs1 hI1 hf1 hv hgr hdr hloc hgb hgp hv3)))
      go_ret
      have := append_end HI.out HL.out HSL.out hcw HI1.out HC.out HN.out HD.out HG.out HLo.out HR.out
      rw [HV3.out, List.length_append] at this
      exact this
    | true =>
      rw [ht] at hr
      have HT := Lib.hid ht
      have hr2 : ((11 : Int), { (tick d).2 with fs := upd nm (fun x => { x with dat := x.dat ++ ys.take (ys.length / 2) }) d.fs, last := nm }) = r := by rw [← hr]; simp
      have HR := Lib.hid hr2
      obtain ⟨i0, hi, _⟩ := info_parts PDiskLoads.info5
      have hsl := cut_to (P := Try.prog) 34 5 .i64 Try.underlying34 hi A ys.length cp ((ys.length : Int) / 2) (by omega) (by omega) hcp
      obtain ⟨K, hK⟩ : ∃ K, K = ys.length / 2 := ⟨_, rfl⟩
      have hKn : ((ys.length : Int) / 2).toNat = K := by omega
      rw [hKn] at hsl
      rw [← hK] at HR
      have hKl : K ≤ ys.length := by omega
      have HK := Lib.hid hKl
      have hzl : (ys.take K).length = K := by rw [List.length_take]; omega
      have HZ := Lib.hid hzl
      clear hk hla hd hr hr2 ok hcm hcn hsL hbs hf hy hcp ht hi hK hKn hKl hzl
      go_enter Try.func14, Try.ntmps14
      go_wp2_with (first
        | (at_builtin; refine wpList_append_run _ rfl _ _ 34 34 rfl _ _ _ _ rfl rfl HRUN.out ?_)
        | (go_at_call 16; refine (size_calls (by exact H.out) HA.out.srt (by have := HA.out.tot; omega)).mono ?_; rintro e w1 ⟨rfl, hc0⟩)
        | (go_at_call 35; refine (tick_calls p m _ d.last d.armed d.down d rfl rfl HA.out.armed (by exact (HI.out.chg hc0 (fun _ _ h => h)).blk)).mono ?_; rintro e w2 ⟨rfl, hb1, hs1, hc1⟩; rw [HT.out]; go_must (have hI1 := (HI.out.chg hc0 (fun _ _ h => h)).head hb1 hc1 hs1; have hcw : Chg F w w2 := (chg_none hc0).same (hc1.mono (fun k hk => by rw [hk]; exact HI.out.fp)); have hf1 := hI1.files c HC.out; obtain ⟨A0, cap0, hv, _, _⟩ := hf1.2.2.1.form; have c0 := sb_cell hf1.1 0; simp at c0; rw [hv] at c0; obtain ⟨v', w3, hrun, hdr, hgr, hloc⟩ := drow_append (c := cp) hf1.2.2.1 ((HS.out.take HK.out) w2 hcw) (by rw [HZ.out]; have := HB.out; have := HFit.out; have := HK.out; omega) 34; rw [hv, HZ.out] at hrun; obtain ⟨A3, cap3, hv3, _, _⟩ := hdr.form; have hgb := hgr.block c.blk (blk_lt hf1.1) (by intro h; obtain ⟨cur, hcur⟩ := hf1.2.2.1.blk h.symm; exact ne_of_type hf1.1 hcur (by decide) rfl); have g3 := sb_cell (hgb.trans hf1.1) 0; have r3 := sb_free (hgb.trans hf1.1) 0; simp at g3; have hgp := hgr.block p (blk_lt hI1.blk) (by intro h; obtain ⟨cur, hcur⟩ := hf1.2.2.1.blk h.symm; exact ne_of_type hI1.blk hcur (by decide) rfl); have g4 := sb_cell (hgp.trans hI1.blk) 1; have r4 := sb_free (hgp.trans hI1.blk) 1; simp at g4; have hne : c.blk ≠ p := ne_of_type hf1.1 hI1.blk (by decide); rw [hv] at g3; rw [List.length_append, HZ.out] at hv3; rw [hv3] at hrun; have HI1 := Lib.hid hI1; have HG := Lib.hid hgr; have HD := Lib.hid hdr; have HLo := Lib.hid hloc; have HV3 := Lib.hid hv3; have HRUN := Lib.hid hrun; clear hrun hb1 hs1 hI1 hf1 hv hgr hdr hloc hgb hgp hv3)))
      go_ret
      have := append_end HI.out HL.out HSL.out hcw HI1.out HC.out HN.out HD.out HG.out HLo.out HR.out
      rw [HV3.out] at this
      exact this
end Go.Proofs.Ytflajlnknimjaaa.Dk

/- fresh, Read of the disk. -/
namespace Go.Proofs.Ytflajlnknimjaaa.Dk
open Go.RowKit Go.Maps Go.Proofs.YtflajlnknimjaaaW.PrintWords Go.Proofs.YtflajlnknimjaaaW.PrintMore Go.Proofs.Ytflajlnknimjaaa.Syn

/-- Bytes in memory that is new since base. -/
abbrev Fresh (w' : World) (base : Nat) (v : Value) (ys : List Int) : Prop := Kd.R (Kd.int .u8) 5 w' base (fun _ => True) v ys

/-- append of bytes onto a row of one's own, the source nil or not. -/
theorem own_append {w : World} {base : Nat} {v : Value} {xs ys : List Int} {A : Option Addr} {c : Nat} (ho : w.ownsRow base 5 1 v xs.length (nums .u8 xs)) (hx : Kd.C (Kd.int .u8) w A ys.length ys) (hb : xs.length + ys.length ≤ 140737488351232) (hbase : base ≤ w.heap.size) (ty : TypeId) :
    ∃ v' w', (Builtin.append_ #[34, 34] ty #[v, .slice A ys.length c]).run Try.prog w = .ok v' w' ∧ w'.ownsRow base 5 1 v' (xs ++ ys).length (nums .u8 (xs ++ ys)) ∧ w.grownBy w' v.ownBlock := by
  obtain ⟨i0, hi, hz0, hz1, hz2⟩ := info_parts PDiskLoads.info5
  have hu := Try.underlying34
  by_cases h0 : ys.length = 0
  · have hy : ys = [] := List.eq_nil_of_length_eq_zero h0
    subst hy
    refine ⟨v, w, ?_, by rw [List.append_nil]; exact ho, ⟨rfl, rfl, rfl, Nat.le_refl _, fun _ _ _ => rfl⟩⟩
    rcases ho.2 with ⟨rfl, _⟩ | ⟨g, cap, cur, rfl, _, _, h2, _⟩
    · cases A <;> simp [Builtin.append_, run_underlying hu, sizeOf, typeInfo, hi, Builtin.lenOf, Builtin.firstCells, loadCells, loadCellsFrom]
    · cases A <;> simp [Builtin.append_, run_underlying hu, sizeOf, typeInfo, hi, Builtin.lenOf, Builtin.firstCells, h2, storeCells, loadCells, loadCellsFrom]
  · obtain ⟨ad, rfl, hc⟩ := src_cells hx (by omega)
    obtain ⟨v', w', h1, h2, h3, _⟩ := run_append_own (P := Try.prog) w base 34 ty 5 i0 (.int .u8 0) 1 1 hu hi hz0 hz1 hz2 rfl (by decide) v xs.length (nums .u8 xs) ho ad ys.length c (nums .u8 ys) (by rw [nums_length, Nat.mul_one]) hc (nums_one ys) (by unfold maxLen; omega) (by omega) hbase
    exact ⟨v', w', h1, by rw [List.length_append, nums_append]; exact h2, h3⟩

set_option maxHeartbeats 400000 in
theorem fresh_calls (A : Option Addr) (cp : Nat) (ys : List Int) (w : World) (hx : Kd.C (Kd.int .u8) w A ys.length ys) (hy : ys.length ≤ 140737488351232) :
    Calls Try.prog 43 #[.slice A ys.length cp] w fun e w' => ∃ v, e = .returned v ∧ Fresh w' w.heap.size v ys ∧ Below w.heap.size w w' := by
  obtain ⟨i0, hi, hz0, hz1, hz2⟩ := info_parts PDiskLoads.info5
  obtain ⟨w1, hmk, ho1, hg1⟩ := run_make_own (P := Try.prog) w w.heap.size 34 5 i0 (.int .u8 0) 1 Try.underlying34 hi hz0 hz1 .i64 .i64 ys.length (by rw [hz2]; omega) (by unfold maxLen; omega) (Nat.le_refl _)
  have hb1 : Below w.heap.size w w1 := ⟨hg1.os, hg1.tape, hg1.output, hg1.size, fun k hk => hg1.block k hk (by simp)⟩
  obtain ⟨v2, w2, hrun, ho2, hg2⟩ := own_append (c := cp) (xs := []) ho1 (Kd.C_below hx hb1) (by simpa using hy) hg1.size 34
  have hown : ∀ k, (Value.slice (some ⟨w.heap.size, 0, none⟩) 0 ys.length).ownBlock = some k → w.heap.size ≤ k := fun k hk => by simp [Value.ownBlock] at hk; omega
  have hb2 : Below w.heap.size w w2 := hb1.grown hg2 hg1.size hown
  have HRUN := Lib.hid hrun
  have HO := Lib.hid ho2
  have HB := Lib.hid hb2
  clear hrun ho2 hb2 ho1 hg1 hb1 hg2 hown hi hz0 hz1 hz2 hx
  go_enter Try.func43, Try.ntmps43
  go_wp2_with (at_builtin; refine wpList_append_run _ rfl _ _ 34 34 rfl _ _ _ _ rfl rfl HRUN.out ?_)
  go_ret
  exact ⟨v2, rfl, Kd.R_of_own (by simpa [encs, nums] using HO.out) (fun _ _ => trivial), HB.out⟩

theorem DRow.reads {w : World} {A : Option Addr} {cap : Nat} {bs : List Int} (h : DRow w (.slice A bs.length cap) bs) : Kd.C (Kd.int .u8) w A bs.length bs := by
  have hm : bs.length ≤ 9223372036854775807 := by
    obtain ⟨_, cap', _, h2, h3⟩ := h.form
    unfold maxLen at h3
    omega
  refine ⟨rfl, hm, fun h0 => ?_⟩
  rcases h with ⟨_, rfl⟩ | ⟨g, cap', cur, hv, h1, h2, h3, h4, h5⟩
  · simp at h0
  · injection hv with e1 _ _
    subst e1
    refine ⟨_, rfl, fun j p hj => ⟨[.int .u8 p], rfl, rfl, fun i u hu => ?_⟩⟩
    have hi : i = 0 := by
      have := (List.getElem?_eq_some_iff.1 hu).1
      simpa using this
    subst hi
    have hu' : u = .int .u8 p := by simpa using hu.symm
    subst hu'
    rw [add_plain, sb_cell h1]
    have hjl := (List.getElem?_eq_some_iff.1 hj).1
    have e2 : j * (Kd.int .u8).sz + 0 = j := by show j * 1 + 0 = j; omega
    rw [e2, ← Array.getElem?_toList]
    have : (cur.toList.take bs.length)[j]? = (nums .u8 bs)[j]? := by rw [h5]
    rw [List.getElem?_take_of_lt hjl] at this
    rw [this]
    simp [nums, hj]
def St.read (nm : ByteArray) (d : St) : List Int × Int := match look Fl.nm nm d.fs with | some f => (f.dat, 0) | none => ([], 8)

set_option maxHeartbeats 400000 in
theorem read_calls {F : Nat → Prop} {p : Nat} {w : World} {d : St} (nm : ByteArray) (h : DiskAt w F p d) (ok : d.Ok) (hn : nm.size ≤ 140737488351232) :
    Calls Try.prog 55 #[.pointer (some ⟨p, 0, none⟩), .string nm] w fun e w' => ∃ v, e = .returned (.tuple #[v, .int .i64 (d.read nm).2]) ∧ Fresh w' w.heap.size v (d.read nm).1 ∧ Below w.heap.size w w' := by
  have hn1 : nm.size ≤ maxLen := by unfold maxLen; omega
  obtain ⟨m, L, hI, hL⟩ := h
  have b0 := sb_cell hI.blk 0
  simp at b0
  have hl := hI.map.look hn1
  have hla := look_abs hL nm
  unfold St.read
  rw [hla]
  cases hk : look FileC.nm nm L with
  | none =>
    rw [hk] at hl
    simp only [ptrOf] at hl
    simp only [Option.map_none]
    clear hk hla hL hI ok
    go_enter Try.func55, Try.ntmps55
    go_wp2
    go_ret2
    exact ⟨_, rfl, Kd.R_nil _ _ _ _ _, Below.refl _ _⟩
  | some c =>
    rw [hk] at hl
    simp only [ptrOf] at hl
    simp only [Option.map_some]
    obtain ⟨hcm, hcn⟩ := look_some hk
    have hf := hI.files c hcm
    obtain ⟨A, cap, hv, _, _⟩ := hf.2.2.1.form
    have c0 := sb_cell hf.1 0
    simp at c0
    have hd := hf.2.2.1
    rw [hv] at c0 hd
    have hsum := sumC_take (srt_abs hL ok.srt) hcm
    have htot := ok.tot
    rw [← sumC_abs hL] at htot
    have hlen : c.bs.length ≤ 140737488351232 := by omega
    have HD := Lib.hid hd
    clear hk hla hL hI ok hd hv hf hsum htot
    go_enter Try.func55, Try.ntmps55
    go_wp2_with (go_at_call 43; refine (fresh_calls _ _ c.bs _ (by exact HD.out.reads) hlen).mono ?_; rintro e w1 ⟨v, rfl, h1, h2⟩)
    go_ret2
    exact ⟨v, rfl, h1, h2⟩
end Go.Proofs.Ytflajlnknimjaaa.Dk

/- List of the disk. -/
namespace Go.Proofs.Ytflajlnknimjaaa.Dk
open Go.RowKit Go.Maps Go.Proofs.YtflajlnknimjaaaW.PrintWords Go.Proofs.YtflajlnknimjaaaW.PrintMore Go.Proofs.Ytflajlnknimjaaa.Syn

theorem keys_calls (mb : Option Nat) (w : World) : Calls Try.prog 42 #[.map mb] w fun e w' => e = .returned (.func (.func 61) #[] #[.pointer (some ⟨w.heap.size, 0, none⟩)]) ∧ w' = w.alloc (.cells #[.map mb] 62) :=
  callsIn_wide.1 (Try.maps_Keys_42 mb w)
theorem before_lt (a b : List UInt8) : bytesBefore a b = decide (a < b) := by
  induction a generalizing b with
  | nil => cases b <;> simp [bytesBefore]
  | cons x xs ih =>
    cases b with
    | nil => simp [bytesBefore]
    | cons y ys =>
      rw [bytesBefore, ih ys]
      by_cases h : x = y
      · subst h; simp [List.cons_lt_cons_iff]
      · have hne : ¬ x.toNat = y.toNat := fun e => h (UInt8.toNat_inj.mp e)
        simp [List.cons_lt_cons_iff, h, UInt8.lt_iff_toNat_lt]
theorem strKeys_mapD (L : List FileC) : strKeys (mapD L) = L.map fun c => bts c.nm := by simp [strKeys, mapD, entry, strOf]
theorem sort_srt {L : List FileC} (h : Srt FileC.nm L) : (L.map fun c => bts c.nm).mergeSort (fun x y => decide (x ≤ y)) = L.map fun c => bts c.nm := by
  apply List.mergeSort_of_pairwise
  rw [List.pairwise_map]
  refine List.Pairwise.imp ?_ h
  intro a b hab
  rw [before_lt] at hab
  simp only [decide_eq_true_eq] at hab ⊢
  exact List.le_of_lt hab
def names (d : St) : List ByteArray := d.fs.map Fl.nm

set_option maxHeartbeats 400000 in
theorem list_calls {F : Nat → Prop} {p : Nat} {w : World} {d : St} (h : DiskAt w F p d) (ok : d.Ok) :
    Calls Try.prog 18 #[.pointer (some ⟨p, 0, none⟩)] w fun e w' => ∃ v, e = .returned v ∧ Kd.R Kd.string 9 w' w.heap.size (fun _ => True) v (names d) ∧ Below w.heap.size w w' := by
  obtain ⟨m, L, hI, hL⟩ := h
  have b0 := sb_cell hI.blk 0
  simp at b0
  have hn : L.length = d.fs.length := by rw [← hL, List.length_map]
  have hle := ok.cnt
  have hsrt := srt_abs hL ok.srt
  have hnm : names d = L.map FileC.nm := by rw [names, ← hL, List.map_map]; rfl
  have HM := Lib.hid hI.map
  have HS := Lib.hid hsrt
  have HN := Lib.hid hnm
  have hle2 : L.length ≤ 1048576 := by omega
  have HL := Lib.hid hle2
  clear hI hL hn hle hle2 hsrt hnm ok
  go_enter Try.func18, Try.ntmps18
  go_wp2_with (first
    | (go_at_call 42; refine (keys_calls _ _).mono ?_; rintro e w' ⟨rfl, rfl⟩)
    | (go_at_call 41; refine (callsIn_wide.1 (Try.slices_Sorted_keys_41_42 m _ _ RP w (by exact HM.out) (by rw [size_mapD]; have := HL.out; unfold maxLen; omega) (by rw [size_mapD]; have := HL.out; omega))).mono ?_; rintro e w' ⟨v, ss, rfl, hS, hrow, hnil, hb⟩))
  go_ret
  refine ⟨v, rfl, ?_, ?_⟩
  · rw [strKeys_mapD] at hS
    have e1 := mergeSort_of_perm hS
    have e2 : ss.length = L.length := by rw [hS.length_eq, List.length_map]
    rw [show (ss.mergeSort fun x y => decide (x ≤ y)) = L.map fun c => bts c.nm from e1.trans (sort_srt HS.out)] at hrow
    rw [HN.out]
    refine Kd.R_lower (Kd.R_of_own ?_ (fun _ _ => trivial)) (by simp : w.heap.size ≤ (w.alloc (.cells #[.map (some m)] 62)).heap.size)
    rw [e2] at hrow
    simpa [encs, List.map_map, Function.comp_def, encStr] using hrow
  · exact ((Chg.alloc (F := fun _ => False) w _).same (Chg.of_below hb)).below (fun _ h => h.elim) (Nat.le_refl _)
end Go.Proofs.Ytflajlnknimjaaa.Dk

/- Files of the disk. -/
namespace Go.Proofs.Ytflajlnknimjaaa.Dk
open Go.RowKit Go.Maps Go.Proofs.YtflajlnknimjaaaW.PrintWords Go.Proofs.YtflajlnknimjaaaW.PrintMore Go.Proofs.YtflajlnknimjaaaW.PrintLast Go.Proofs.Ytflajlnknimjaaa.Syn Go.Proofs.Ytflajlnknimjaaa.PDiskLoads

abbrev SF := S36
abbrev kF : Kd SF := k36
def Fl.out (f : Fl) : SF := ⟨f.nm, f.dat, f.syn⟩
def filesOf (d : St) : List SF := d.fs.map Fl.out
def FileC.out (c : FileC) : SF := c.abs.out
/-- Files in memory that is new since base. -/
abbrev FilesR (w' : World) (base : Nat) (v : Value) (l : List SF) : Prop := kF.R 36 w' base (fun _ => True) v l

theorem apart_blk {w : World} {b b' e e' s s' n n' : Nat} {v v' : Value} {xs xs' : List Value} (h : w.ownsRow b e s v n xs) (h' : w.ownsRow b' e' s' v' n' xs') (hne : e ≠ e') : ∀ k, some k = v.ownBlock → some k ≠ v'.ownBlock := by
  intro k hk hk'
  obtain ⟨c, h1⟩ := own_typed h k hk.symm
  obtain ⟨c', h2⟩ := own_typed h' k hk'.symm
  rw [h1] at h2
  injection h2 with h2
  injection h2 with _ h2
  exact hne h2
theorem okName_size {s : ByteArray} (h : okName s = true) : s.size ≤ 32 := by
  simp [okName] at h
  omega

def filesT : Bool × List (List Nat × List Nat) := (true, [([], []), ([], []), ([], []), ([2], [2]), ([3], [3]), ([4], [4]), ([5], [5]), ([], []), ([7], [7]), ([8], [8]), ([9], [9]), ([1, 6, 10], [1, 6, 10]), ([11], [11]), ([0, 12, 6], [0, 12]), ([13, 13, 0, 1, 2, 3, 4, 5, 6, 7, 8, 9, 10, 11, 12, 13], [0, 13])])
def filesTB : List Nat := [0, 0, 0, 4, 12, 28, 60, 0, 128, 384, 896, 2046, 4094, 8191, 16383]
theorem filesT_tab : rtab .any (opsOf Try.f21 6) = filesT := by kernel_rfl
theorem filesT_bits : waitsOk filesT.2 filesTB = true := by kernel_rfl

theorem str_at {w : World} {A : Option Addr} {n : Nat} {xs : List ByteArray} (h : Kd.C Kd.string w A n xs) (k : Nat) (hk : k < xs.length) : ∃ ad, A = some ad ∧ w.cell? (ad.add k) = some (.string xs[k]) := by
  have hn := h.1
  obtain ⟨ad, c, e, _, hK, hc⟩ := Kd.C_get h (default : ByteArray) (k : Int) (by omega) (by omega)
  refine ⟨ad, e, ?_⟩
  have hK' : c = [.string (xs.getD k default)] := hK
  subst hK'
  have := hc 0 _ rfl
  simpa [Kd.string, Kd.scalar, hk] using this

set_option maxHeartbeats 1000000 in
set_option maxRecDepth 100000 in
theorem files_calls {F : Nat → Prop} {p : Nat} {w : World} {d : St} (h : DiskAt w F p d) (ok : d.Ok) :
    Calls Try.prog 21 #[.pointer (some ⟨p, 0, none⟩)] w fun e w' => ∃ v, e = .returned v ∧ FilesR w' w.heap.size v (filesOf d) ∧ Below w.heap.size w w' := by
  have hlist := list_calls h ok
  obtain ⟨m, L, hI, hL⟩ := h
  have hfs : filesOf d = L.map FileC.out := by rw [filesOf, ← hL, List.map_map]; rfl
  have hnm : names d = L.map FileC.nm := by rw [names, ← hL, List.map_map]; rfl
  have hsrt := srt_abs hL ok.srt
  have hcnt : L.length ≤ 256 := by have := ok.cnt; rw [← hL, List.length_map] at this; exact this
  have hsz : ∀ c ∈ L, c.nm.size ≤ 32 := fun c hc => okName_size (ok.named c.abs (by rw [← hL]; exact List.mem_map_of_mem hc))
  have hdl : ∀ c ∈ L, c.bs.length ≤ 140737488351232 := fun c hc => by
    have h1 := sumC_take hsrt hc
    have h2 := ok.tot
    rw [← sumC_abs hL] at h2
    omega
  rw [hfs]
  rw [hnm] at hlist
  have HI := Lib.hid hI
  have HS := Lib.hid hsrt
  have HC := Lib.hid hcnt
  have HZ := Lib.hid hsz
  have HD := Lib.hid hdl
  have HLI := Lib.hid hlist
  clear hI hL ok hfs hnm hsrt hcnt hsz hdl hlist
  go_enter Try.func21, Try.ntmps21
  go_wp2_with (go_at_call 18; refine (HLI.out).mono ?_; rintro e w1 ⟨v, rfl, hv, hb⟩; obtain ⟨A, cp, rfl, -, hrd⟩ := Kd.R_reads hv; have HR := Lib.hid hrd; have HB := Lib.hid hb; clear hv hrd hb)
  go_loopw [3, 10] (fun v3 v10 wr => ∃ k : Nat, k ≤ L.length ∧ v10 = .int .i64 k ∧ Hid (FilesR wr w1.heap.size v3 ((L.map FileC.out).take k)) ∧ Hid (Below w1.heap.size w1 wr)) (fun _ v10 _ => L.length - (intOf v10).toNat)
  case atStart => exact ⟨0, Nat.zero_le _, rfl, Lib.hid (Kd.R_nil _ _ _ _ _), Lib.hid (Below.refl _ _)⟩
  case round =>
    obtain ⟨k, hk, rfl, HO, HB2⟩ := hrel
    by_cases hlt : k < L.length
    · have hcm : L[k] ∈ L := List.getElem_mem hlt
      obtain ⟨c, hcd⟩ : ∃ c, c = L[k] := ⟨_, rfl⟩
      rw [← hcd] at hcm
      have hch : Chg (fun k => w.heap.size ≤ k) w wr := ((Chg.of_below HB.out).trans (Chg.of_below (HB2.out)) (fun _ h => .inl h))
      have hI2 := HI.out.chg hch (fun k hk h => by have := HI.out.lt k hk; omega)
      have b0 := sb_cell hI2.blk 0
      simp at b0
      have hl := hI2.map.look (nm := c.nm) (by have := HZ.out c hcm; unfold maxLen; omega)
      rw [HS.out.look hcm rfl] at hl
      simp only [ptrOf] at hl
      have hf := hI2.files c hcm
      have c0 := sb_cell hf.1 0
      have c1 := sb_cell hf.1 1
      simp at c0 c1
      obtain ⟨A', cap, hv, _, _⟩ := hf.2.2.1.form
      have hd := hf.2.2.1
      rw [hv] at c0 hd
      have hfw := HI.out.files c hcm
      have c0w := sb_cell hfw.1 0
      have c1w := sb_cell hfw.1 1
      simp [hv] at c0w c1w
      have HCW := Lib.hid (And.intro c0w c1w)
      clear c0w c1w hfw
      have hdr := hd.reads
      obtain ⟨ad, rfl, hat⟩ := str_at HR.out k (by rw [List.length_map]; exact hlt)
      replace hat := (HB2.out.cell (World.block_lt_of_cell? w1 _ hat)).trans hat
      simp only [List.getElem_map, ← hcd] at hat
      have HDR := Lib.hid hdr
      have HCM := Lib.hid hcm
      have HCH := Lib.hid hch
      have HCD := Lib.hid hcd
      clear hI2 hf hd hv hdr hcm hch hcd
      go_wp2
      have HOd := Lib.hid (Kd.R_drew HO.out)
      have HB2d := Lib.hid (below_drew1 HB2.out)
      have HDRd := Lib.hid (Kd.C_drew HDR.out)
      have c0d : wr.drew.cell? ⟨c.blk, 0, none⟩ = some (.slice A' c.bs.length cap) := c0
      have c1d : wr.drew.cell? ⟨c.blk, 1, none⟩ = some (.int .i64 c.syn) := c1
      clear HDR c0 c1 hat hl b0 HCH
      refine start_ (n := 15) (S := fun w' => w'.cell? ⟨c.blk, 0, none⟩ = some (.slice A' c.bs.length cap) ∧ w'.cell? ⟨c.blk, 1, none⟩ = some (.int .i64 c.syn)) (ds := []) #[false, false, false, false, false, false, false, false, false, false, false, false, false, false, false] (by kernel_rfl) rfl rfl ⟨c0d, c1d⟩ (fun hHeld => ?_)
      refine with_tabW filesT_tab filesT_bits (fun HT_ HW_ => ?_)
      generalize wr.drew = w6 at HOd HB2d HDRd c0d c1d hHeld ⊢
      refine pure_ (i := 0) (N := (some 20)) (v := ?_) (a' := ?_) #[true, false, false, false, false, false, false, false, false, false, false, false, false, false, false] rfl rfl (any_of HT_.out (by kernel_rfl)) (fun _ _ _ h => h) (Or.inl ⟨by rfl, ?_⟩) ?_ ?_
      rotate_left
      · intro w'
        go_simp
        with_reducible rfl
      rotate_left
      · simp only [Act.put, List.setIfInBounds_toArray, List.set_cons_zero, List.set_cons_succ, i64_w, i32_w]
        rfl
      refine pure_ (i := 1) (N := (some 21)) (v := ?_) (a' := ?_) #[true, true, false, false, false, false, false, false, false, false, false, false, false, false, false] rfl rfl (any_of HT_.out (by kernel_rfl)) (fun _ _ _ h => h) (Or.inl ⟨by rfl, ?_⟩) ?_ ?_
      rotate_left
      · intro w'
        go_simp
        with_reducible rfl
      rotate_left
      · simp only [Act.put, List.setIfInBounds_toArray, List.set_cons_zero, List.set_cons_succ, i64_w, i32_w]
        rfl
      refine pure_ (i := 2) (N := (some 22)) (v := ?_) (a' := ?_) #[true, true, true, false, false, false, false, false, false, false, false, false, false, false, false] rfl rfl (any_of HT_.out (by kernel_rfl)) (fun _ _ _ h => h) (Or.inl ⟨by rfl, ?_⟩) ?_ ?_
      rotate_left
      · intro w'
        go_simp
        with_reducible rfl
      rotate_left
      · simp only [Act.put, List.setIfInBounds_toArray, List.set_cons_zero, List.set_cons_succ, i64_w, i32_w]
        rfl
      refine pure_ (i := 3) (N := (some 23)) (v := ?_) (a' := ?_) #[true, true, true, true, false, false, false, false, false, false, false, false, false, false, false] rfl rfl (any_of HT_.out (by kernel_rfl)) (fun _ _ _ h => h) (Or.inl ⟨by rfl, ?_⟩) ?_ ?_
      rotate_left
      · intro w'
        go_simp
        with_reducible rfl
      rotate_left
      · simp only [Act.put, List.setIfInBounds_toArray, List.set_cons_zero, List.set_cons_succ, i64_w, i32_w]
        rfl
      refine pure_ (i := 4) (N := (some 24)) (v := ?_) (a' := ?_) #[true, true, true, true, true, false, false, false, false, false, false, false, false, false, false] rfl rfl (any_of HT_.out (by kernel_rfl)) (fun _ _ _ h => h) (Or.inl ⟨by rfl, ?_⟩) ?_ ?_
      rotate_left
      · intro w'
        go_simp
        with_reducible rfl
      rotate_left
      · simp only [Act.put, List.setIfInBounds_toArray, List.set_cons_zero, List.set_cons_succ, i64_w, i32_w]
        rfl
      refine pure_ (i := 7) (N := (some 27)) (v := ?_) (a' := ?_) #[true, true, true, true, true, false, false, true, false, false, false, false, false, false, false] rfl rfl (any_of HT_.out (by kernel_rfl)) (fun _ _ _ h => h) (Or.inl ⟨by rfl, ?_⟩) ?_ ?_
      rotate_left
      · intro w'
        go_simp
        with_reducible rfl
      rotate_left
      · simp only [Act.put, List.setIfInBounds_toArray, List.set_cons_zero, List.set_cons_succ, i64_w, i32_w]
        rfl
      refine pure_ (i := 8) (N := (some 28)) (v := ?_) (a' := ?_) #[true, true, true, true, true, false, false, true, true, false, false, false, false, false, false] rfl rfl (any_of HT_.out (by kernel_rfl)) (fun _ _ _ h => h) (Or.inl ⟨by rfl, ?_⟩) ?_ ?_
      rotate_left
      · intro w'
        go_simp
        with_reducible rfl
      rotate_left
      · simp only [Act.put, List.setIfInBounds_toArray, List.set_cons_zero, List.set_cons_succ, i64_w, i32_w]
        rfl
      refine pure_ (i := 9) (N := (some 29)) (v := ?_) (a' := ?_) #[true, true, true, true, true, false, false, true, true, true, false, false, false, false, false] rfl rfl (any_of HT_.out (by kernel_rfl)) (fun _ _ _ h => h) (Or.inl ⟨by rfl, ?_⟩) ?_ ?_
      rotate_left
      · intro w'
        go_simp
        with_reducible rfl
      rotate_left
      · simp only [Act.put, List.setIfInBounds_toArray, List.set_cons_zero, List.set_cons_succ, i64_w, i32_w]
        rfl
      refine take_ (i := 5) (N := (some 25)) (v := ?_) (a' := ?_) #[true, true, true, true, true, true, false, true, true, true, false, false, false, false, false] rfl rfl (take_ofW HT_.out HW_.out (by kernel_rfl)) (fun _ _ _ h => h) (Or.inl ⟨by rfl, ?_⟩) hHeld ?_ ?_
      rotate_left
      · rintro w' ⟨s0, s1⟩
        go_simp
        with_reducible rfl
      rotate_left
      · simp only [Act.put, List.setIfInBounds_toArray, List.set_cons_zero, List.set_cons_succ, i64_w, i32_w]
        rfl
      refine take_ (i := 10) (N := (some 30)) (v := ?_) (a' := ?_) #[true, true, true, true, true, true, false, true, true, true, true, false, false, false, false] rfl rfl (take_ofW HT_.out HW_.out (by kernel_rfl)) (fun _ _ _ h => h) (Or.inl ⟨by rfl, ?_⟩) hHeld ?_ ?_
      rotate_left
      · rintro w' ⟨s0, s1⟩
        go_simp
        with_reducible rfl
      rotate_left
      · simp only [Act.put, List.setIfInBounds_toArray, List.set_cons_zero, List.set_cons_succ, i64_w, i32_w]
        rfl
      refine one_ (i := 6) (N := (some 26)) #[true, true, true, true, true, true, true, true, true, true, true, false, false, false, false] rfl rfl (one_of HT_.out (by kernel_rfl)) (by decide) (fun K hK => ?_)
      refine goes_ Try.func43 (by kernel_rfl) rfl #[.slice A' c.bs.length cap] (by rfl) rfl rfl (by (try simp only [List.map_toArray, List.map_cons, List.map_nil]); rfl) ?_
      with_reducible refine (fresh_calls _ _ c.bs _ (by exact HDRd.out) (by exact HD.out c HCM.out)).mono ?_
      rintro e w7 ⟨v7, rfl, ho7, hb7⟩
      refine ⟨_, rfl, ?_⟩
      have c0' := (hb7.cell (World.block_lt_of_cell? w6 _ c0d)).trans c0d
      have c1' := (hb7.cell (World.block_lt_of_cell? w6 _ c1d)).trans c1d
      have HO7 := Lib.hid (Kd.R_below HOd.out hb7)
      have HB7 := Lib.hid (below_step HB2d.out hb7)
      obtain ⟨A7, c7, e7⟩ := Kd.R_slice ho7
      subst e7
      have HF7 := Lib.hid ho7
      clear hb7 ho7
      refine hK.out _ _ ⟨c0', c1'⟩ (fun hHeld => ?_)
      clear hK K
      refine norm_ (a' := ?_) ?_ ?_
      rotate_left
      · show Act.put _ (some 26) _ = _
        simp only [Act.put, List.setIfInBounds_toArray, List.set_cons_zero, List.set_cons_succ, i64_w, i32_w]
        rfl
      refine pure_ (i := 11) (N := (some 31)) (v := ?_) (a' := ?_) #[true, true, true, true, true, true, true, true, true, true, true, true, false, false, false] rfl rfl (any_of HT_.out (by kernel_rfl)) (fun _ _ _ h => h) (Or.inl ⟨by rfl, ?_⟩) ?_ ?_
      rotate_left
      · intro w'
        go_simp
        with_reducible rfl
      rotate_left
      · simp only [Act.put, List.setIfInBounds_toArray, List.set_cons_zero, List.set_cons_succ, i64_w, i32_w]
        rfl
      refine one_ (i := 12) (N := (some 32)) #[true, true, true, true, true, true, true, true, true, true, true, true, true, false, false] rfl rfl (one_of HT_.out (by kernel_rfl)) (by decide) (fun K hK => ?_)
      refine value_ (w1 := ?_) (v := ?_) (by rfl) rfl ?_ ?_
      rotate_left 2
      · go_simp
        constructor
        · rfl
        · rfl
      refine hK.out _ _ ⟨(World.cell?_alloc_lt _ _ _ (World.block_lt_of_cell? _ _ c0')).trans c0', (World.cell?_alloc_lt _ _ _ (World.block_lt_of_cell? _ _ c1')).trans c1'⟩ (fun hHeld => ?_)
      clear hK K
      refine norm_ (a' := ?_) ?_ ?_
      rotate_left
      · show Act.put _ (some 32) _ = _
        simp only [Act.put, List.setIfInBounds_toArray, List.set_cons_zero, List.set_cons_succ, i64_w, i32_w]
        rfl
      refine one_ (i := 13) (N := (some 33)) #[true, true, true, true, true, true, true, true, true, true, true, true, true, true, false] rfl rfl (one_of HT_.out (by kernel_rfl)) (by decide) (fun K hK => ?_)
      refine Kd.R_append_step kF (w0 := w1) w1.heap.size (by rfl) (.tmp 20) (.tmp 32) 27 36 (.agg #[(.string ⟨#[]⟩), (.slice none 0 0), (.int .i64 0)]) 48 rfl Try.underlying27 info36 rfl (by decide) (by omega) u3 ((L.map FileC.out).take k) c.out [.string c.nm, .slice A7 c.bs.length c7, .int .i64 c.syn] (fun _ => True) (fun k_ => some k_ = (.slice A7 c.bs.length c7 : Value).ownBlock) rfl rfl ?aP ?aK (fun _ _ => trivial) (by exact HO7.out) (by exact HB7.out) (by exact HB7.out.size) ?aL ?_
      (case aP => exact k36_mkM _ _ _ c.out (Kd.R_tight rfl (Kd.R_lower HF7.out HB2d.out.size)))
      (case aK =>
        obtain ⟨_, hx7⟩ := Kd.R_own HF7.out
        obtain ⟨_, hy7⟩ := Kd.R_own HO7.out
        exact fun k_ hk_ => ⟨trivial, apart_blk hx7 hy7 (by decide) k_ hk_⟩)
      (case aL => have := HC.out; simp only [List.length_take, List.length_map]; omega)
      intro v13 w13 ho13 hb13 _ _
      have HB13 := Lib.hid (below_step HB.out hb13)
      have HBX := Lib.hid hb13
      have HO13 := Lib.hid ho13
      have c0'' := (HB13.out.cell (World.block_lt_of_cell? w _ HCW.out.1)).trans HCW.out.1
      have c1'' := (HB13.out.cell (World.block_lt_of_cell? w _ HCW.out.2)).trans HCW.out.2
      clear hb13 ho13
      refine hK.out _ _ ⟨c0'', c1''⟩ (fun hHeld => ?_)
      clear hK K
      refine norm_ (a' := ?_) ?_ ?_
      rotate_left
      · show Act.put _ (some 33) _ = _
        simp only [Act.put, List.setIfInBounds_toArray, List.set_cons_zero, List.set_cons_succ, i64_w, i32_w]
        rfl
      refine pure_ (i := 14) (N := (some 3)) (v := ?_) (a' := ?_) #[true, true, true, true, true, true, true, true, true, true, true, true, true, true, true] rfl rfl (any_of HT_.out (by kernel_rfl)) (fun _ _ _ h => h) (Or.inl ⟨by rfl, ?_⟩) ?_ ?_
      rotate_left
      · intro w'
        go_simp
        with_reducible rfl
      rotate_left
      · simp only [Act.put, List.setIfInBounds_toArray, List.set_cons_zero, List.set_cons_succ, i64_w, i32_w]
        rfl
      refine done_ (done_of HT_.out (by kernel_rfl)) ?_
      have hk2 : wrap64 ((k : Int) + 1) = (k : Int) + 1 := by have := HC.out; unfold wrap64; omega
      go_wp2
      go_roundw
      case rel =>
        refine ⟨k + 1, by omega, by rw [hk2]; rfl, ?_, HBX⟩
        have := HO13.out
        rw [List.take_succ_eq_append_getElem (by rw [List.length_map]; omega), List.getElem_map, ← HCD.out]
        exact Lib.hid this
      case measure =>
        show L.length - (intOf (.int .i64 (wrap64 ((k : Int) + 1)))).toNat < L.length - (intOf (.int .i64 (k : Int))).toNat
        rw [hk2]
        show L.length - ((k : Int) + 1).toNat < L.length - (k : Int).toNat
        omega
    · have hkn : k = L.length := by omega
      subst hkn
      go_wp2
      go_ret
      refine ⟨_, rfl, Kd.R_lower ?_ HB.out.size, below_step HB.out HB2.out⟩
      have := HO.out
      rwa [List.take_of_length_le (by rw [List.length_map]; exact Nat.le_refl _)] at this
end Go.Proofs.Ytflajlnknimjaaa.Dk

/- What holds of every disk is kept by every operation. -/
namespace Go.Proofs.Ytflajlnknimjaaa.Dk
open Go.WideAt Go.WideShapes

theorem tick_cases (d : St) : (tick d).2.fs = d.fs ∧ (tick d).2.last = d.last ∧ (tick d).2.armed ≤ d.armed := by
  unfold tick; split <;> simp
theorem tick_ok {d : St} (h : d.Ok) : (tick d).2.Ok := by
  obtain ⟨h1, h2, h3⟩ := tick_cases d
  exact ⟨by rw [h1]; exact h.srt, by rw [h1]; exact h.syn, by rw [h1]; exact h.tot, by rw [h1]; exact h.cnt, by rw [h1, h2]; exact h.last, by rw [h1]; exact h.named, Nat.le_trans h3 h.armed⟩
theorem total_cons (x : Fl) (l : List Fl) : total (x :: l) = x.dat.length + total l := rfl
theorem total_ins (x : Fl) (l : List Fl) : total (ins Fl.nm x l) = x.dat.length + total l := by
  induction l with
  | nil => rfl
  | cons z r ih =>
    unfold ins
    split
    · rfl
    · rw [total_cons, ih, total_cons]; omega
theorem total_era (nm : ByteArray) (l : List Fl) : total (era Fl.nm nm l) ≤ total l := by
  induction l with
  | nil => exact Nat.le_refl _
  | cons z r ih =>
    unfold era at ih ⊢
    rw [List.filter_cons]
    split
    · rw [total_cons, total_cons]; omega
    · rw [total_cons]; omega
theorem total_era_mem {nm : ByteArray} {l : List Fl} {x : Fl} (hx : x ∈ l) (hn : x.nm = nm) : total (era Fl.nm nm l) + x.dat.length ≤ total l := by
  induction l with
  | nil => cases hx
  | cons z r ih =>
    rcases List.mem_cons.1 hx with rfl | hx
    · have := total_era nm r
      unfold era at this ⊢
      rw [List.filter_cons_of_neg (by simp [hn]), total_cons]
      omega
    · have := ih hx
      unfold era at this ⊢
      rw [List.filter_cons]
      split
      · rw [total_cons, total_cons]; omega
      · rw [total_cons]; omega
theorem upd_nm {nm : ByteArray} {g : Fl → Fl} (hg : ∀ x, (g x).nm = x.nm) (l : List Fl) : (upd nm g l).map Fl.nm = l.map Fl.nm := by
  unfold upd
  rw [List.map_map]
  apply List.map_congr_left
  intro x _
  simp only [Function.comp]
  split
  · exact hg x
  · rfl
theorem upd_srt {nm : ByteArray} {g : Fl → Fl} (hg : ∀ x, (g x).nm = x.nm) {l : List Fl} (h : Srt Fl.nm l) : Srt Fl.nm (upd nm g l) := by
  unfold Srt upd
  rw [List.pairwise_map]
  refine h.imp (fun {a b} hab => ?_)
  have e : ∀ x : Fl, (if x.nm = nm then g x else x).nm = x.nm := fun x => by split; exact hg x; rfl
  rw [e, e]
  exact hab
theorem mem_upd {nm : ByteArray} {g : Fl → Fl} {l : List Fl} {y : Fl} (h : y ∈ upd nm g l) : ∃ x ∈ l, (x.nm = nm ∧ y = g x) ∨ (x.nm ≠ nm ∧ y = x) := by
  obtain ⟨x, hx, rfl⟩ := List.mem_map.1 h
  by_cases hn : x.nm = nm
  · exact ⟨x, hx, .inl ⟨hn, by rw [if_pos hn]⟩⟩
  · exact ⟨x, hx, .inr ⟨hn, by rw [if_neg hn]⟩⟩
theorem upd_mem {nm : ByteArray} {g : Fl → Fl} (hg : ∀ x, (g x).nm = x.nm) {l : List Fl} {k : ByteArray} (h : ∃ x ∈ l, x.nm = k) : ∃ x ∈ upd nm g l, x.nm = k := by
  obtain ⟨x, hx, hk⟩ := h
  refine ⟨if x.nm = nm then g x else x, List.mem_map.2 ⟨x, hx, rfl⟩, ?_⟩
  split
  · rw [hg]; exact hk
  · exact hk
theorem total_upd_le {nm : ByteArray} {g : Fl → Fl} (hg : ∀ x, (g x).dat.length ≤ x.dat.length) (l : List Fl) : total (upd nm g l) ≤ total l := by
  induction l with
  | nil => exact Nat.le_refl _
  | cons z r ih =>
    show (if z.nm = nm then g z else z).dat.length + total (upd nm g r) ≤ _
    rw [total_cons]
    split
    · have := hg z; omega
    · omega
theorem total_upd_add {nm : ByteArray} {g : Fl → Fl} {b : Nat} (hg : ∀ x, (g x).dat.length ≤ x.dat.length + b) {l : List Fl} (hs : Srt Fl.nm l) : total (upd nm g l) ≤ total l + b := by
  induction l with
  | nil => exact Nat.zero_le _
  | cons z r ih =>
    have h' := List.pairwise_cons.1 hs
    show (if z.nm = nm then g z else z).dat.length + total (upd nm g r) ≤ _
    rw [total_cons]
    by_cases hz : z.nm = nm
    · rw [if_pos hz]
      have e : upd nm g r = r := by
        unfold upd
        conv => rhs; rw [← List.map_id r]
        apply List.map_congr_left
        intro x hx
        rw [if_neg (fun e => before_ne (h'.1 x hx) (hz.trans e.symm))]
        rfl
      rw [e]
      have := hg z
      omega
    · rw [if_neg hz]
      have := ih h'.2
      omega
theorem new_ok : St.new.Ok := ⟨List.Pairwise.nil, fun x hx => absurd hx (by simp [St.new]), Nat.zero_le _, Nat.zero_le _, .inl rfl, fun x hx => absurd hx (by simp [St.new]), Nat.zero_le _⟩
theorem arm_ok {d : St} (h : d.Ok) {n : Int} (hn : n ≤ 9223372036854775807) : (d.arm n).Ok := ⟨h.srt, h.syn, h.tot, h.cnt, h.last, h.named, by show n.toNat ≤ _; omega⟩
theorem last_ins {d : St} (h : d.Ok) (x : Fl) : d.last = nil_ ∨ ∃ y ∈ ins Fl.nm x d.fs, y.nm = d.last := h.last.imp id (fun ⟨y, hy, e⟩ => ⟨y, mem_ins.2 (.inr hy), e⟩)
theorem create_ok {d : St} (h : d.Ok) (nm : ByteArray) : (d.create nm).2.Ok := by
  unfold St.create
  split
  · exact h
  split
  · exact h
  split
  · exact h
  split
  · exact h
  split
  · exact tick_ok h
  · rename_i hd hk hh hc ht
    have hno : ∀ y ∈ d.fs, y.nm ≠ nm := look_none.1 (by simpa using hh)
    obtain ⟨h1, h2, h3⟩ := tick_cases d
    refine ⟨h.srt.ins hno, fun x hx => ?_, ?_, ?_, by show (tick d).2.last = _ ∨ _; rw [h2]; exact last_ins h _, fun x hx => ?_, Nat.le_trans h3 h.armed⟩
    · rcases mem_ins.1 hx with rfl | hx
      · exact Nat.le_refl _
      · exact h.syn x hx
    · show total (ins _ _ _) ≤ _
      rw [total_ins]
      have := h.tot
      simpa using this
    · show (ins _ _ _).length ≤ _
      rw [length_ins]
      omega
    · rcases mem_ins.1 hx with rfl | hx
      · simpa using hk
      · exact h.named x hx
theorem append_ok {d : St} (h : d.Ok) (nm : ByteArray) (b : List Int) : (d.append nm b).2.Ok := by
  unfold St.append
  split
  · exact h
  split
  · exact h
  · rename_i hd x hl
    split
    · exact h
    · rename_i hc
      obtain ⟨h1, h2, h3⟩ := tick_cases d
      obtain ⟨hx, hn⟩ := look_some hl
      refine ⟨upd_srt (fun _ => by rfl) h.srt, fun y hy => ?_, ?_, ?_, .inr (upd_mem (fun _ => by rfl) ⟨x, hx, hn⟩), fun y hy => ?_, Nat.le_trans h3 h.armed⟩
      · obtain ⟨z, hz, ⟨_, rfl⟩ | ⟨_, rfl⟩⟩ := mem_upd hy
        · have := h.syn z hz
          simp only [List.length_append]
          omega
        · exact h.syn _ hz
      · have := total_upd_add (nm := nm) (g := fun x => { x with dat := x.dat ++ if (tick d).1 = true then b.take (b.length / 2) else b }) (b := b.length) (fun y => by
          simp only [List.length_append]
          split
          · rw [List.length_take]; omega
          · omega) h.srt
        show total (upd _ _ _) ≤ _
        omega
      · show (upd _ _ _).length ≤ _
        unfold upd
        rw [List.length_map]
        exact h.cnt
      · obtain ⟨z, hz, ⟨_, rfl⟩ | ⟨_, rfl⟩⟩ := mem_upd hy
        · exact h.named z hz
        · exact h.named _ hz
theorem sync_ok {d : St} (h : d.Ok) (nm : ByteArray) : (d.sync nm).2.Ok := by
  unfold St.sync
  split
  · exact h
  split
  · exact h
  · split
    · exact tick_ok h
    · obtain ⟨h1, h2, h3⟩ := tick_cases d
      refine ⟨upd_srt (fun _ => by rfl) h.srt, fun y hy => ?_, Nat.le_trans (total_upd_le (fun _ => by exact Nat.le_refl _) _) h.tot, by show (upd _ _ _).length ≤ _; unfold upd; rw [List.length_map]; exact h.cnt, ?_, fun y hy => ?_, Nat.le_trans h3 h.armed⟩
      · obtain ⟨z, hz, ⟨_, rfl⟩ | ⟨_, rfl⟩⟩ := mem_upd hy
        · exact Nat.le_refl _
        · exact h.syn _ hz
      · show (tick d).2.last = _ ∨ _
        rw [h2]
        exact h.last.imp id (upd_mem (fun _ => by rfl))
      · obtain ⟨z, hz, ⟨_, rfl⟩ | ⟨_, rfl⟩⟩ := mem_upd hy
        · exact h.named z hz
        · exact h.named _ hz
theorem cut_ok {d : St} (h : d.Ok) (nm : ByteArray) (n : Int) : (d.cut nm n).2.Ok := by
  unfold St.cut
  split
  · exact h
  split
  · exact h
  · split
    · exact h
    split
    · exact tick_ok h
    · obtain ⟨h1, h2, h3⟩ := tick_cases d
      refine ⟨upd_srt (fun _ => by rfl) h.srt, fun y hy => ?_, Nat.le_trans (total_upd_le (fun x => by simp only [List.length_take]; omega) _) h.tot, by show (upd _ _ _).length ≤ _; unfold upd; rw [List.length_map]; exact h.cnt, ?_, fun y hy => ?_, Nat.le_trans h3 h.armed⟩
      · obtain ⟨z, hz, ⟨_, rfl⟩ | ⟨_, rfl⟩⟩ := mem_upd hy
        · have := h.syn z hz
          simp only [List.length_take]
          omega
        · exact h.syn _ hz
      · show (tick d).2.last = _ ∨ _
        rw [h2]
        exact h.last.imp id (upd_mem (fun _ => by rfl))
      · obtain ⟨z, hz, ⟨_, rfl⟩ | ⟨_, rfl⟩⟩ := mem_upd hy
        · exact h.named z hz
        · exact h.named _ hz
theorem rename_ok {d : St} (h : d.Ok) (a b : ByteArray) : (d.rename a b).2.Ok := by
  unfold St.rename
  split
  · exact h
  split
  · exact h
  · rename_i hd f hl
    split
    · exact h
    split
    · exact tick_ok h
    split
    · exact tick_ok h
    · rename_i hk ht hab
      obtain ⟨h1, h2, h3⟩ := tick_cases d
      obtain ⟨hf, hfn⟩ := look_some hl
      have hsub : ∀ y ∈ era Fl.nm b (era Fl.nm a d.fs), y ∈ d.fs ∧ y.nm ≠ a ∧ y.nm ≠ b := fun y hy => ⟨(mem_era.1 (mem_era.1 hy).1).1, (mem_era.1 (mem_era.1 hy).1).2, (mem_era.1 hy).2⟩
      refine ⟨((h.srt.era a).era b).ins (fun y hy => (hsub y hy).2.2), fun y hy => ?_, ?_, ?_, ?_, fun y hy => ?_, Nat.le_trans h3 h.armed⟩
      · rcases mem_ins.1 hy with rfl | hy
        · exact h.syn f hf
        · exact h.syn y (hsub y hy).1
      · show total (ins _ _ _) ≤ _
        rw [total_ins]
        have e1 := total_era b (era Fl.nm a d.fs)
        have e2 := total_era_mem hf hfn
        have e3 := h.tot
        simp only
        omega
      · show (ins _ _ _).length ≤ _
        rw [length_ins]
        have e1 : (era Fl.nm b (era Fl.nm a d.fs)).length ≤ (era Fl.nm a d.fs).length := List.length_filter_le _ _
        have e2 : (era Fl.nm a d.fs).length < d.fs.length := by
          unfold era
          exact List.length_filter_lt_length_iff_exists.2 ⟨f, hf, by simp [hfn]⟩
        have e3 := h.cnt
        omega
      · show (if d.last = a then b else if d.last = b then nil_ else d.last) = nil_ ∨ ∃ x ∈ ins Fl.nm _ _, Fl.nm x = (if d.last = a then b else if d.last = b then nil_ else d.last)
        split
        · exact .inr ⟨_, mem_ins.2 (.inl rfl), rfl⟩
        · rename_i ha
          split
          · exact .inl rfl
          · rename_i hb
            exact h.last.imp id (fun ⟨y, hy, e⟩ => ⟨y, mem_ins.2 (.inr (mem_era.2 ⟨mem_era.2 ⟨hy, fun e2 => ha (e.symm.trans e2)⟩, fun e2 => hb (e.symm.trans e2)⟩)), e⟩)
      · rcases mem_ins.1 hy with rfl | hy
        · simpa using hk
        · exact h.named y (hsub y hy).1
theorem remove_ok {d : St} (h : d.Ok) (nm : ByteArray) : (d.remove nm).2.Ok := by
  unfold St.remove
  split
  · exact h
  split
  · exact h
  · split
    · exact tick_ok h
    · obtain ⟨h1, h2, h3⟩ := tick_cases d
      refine ⟨h.srt.era nm, fun y hy => h.syn y (mem_era.1 hy).1, Nat.le_trans (total_era nm d.fs) h.tot, Nat.le_trans (List.length_filter_le _ _) h.cnt, ?_, fun y hy => h.named y (mem_era.1 hy).1, Nat.le_trans h3 h.armed⟩
      show (if d.last = nm then nil_ else d.last) = nil_ ∨ ∃ x ∈ era Fl.nm _ _, Fl.nm x = (if d.last = nm then nil_ else d.last)
      split
      · exact .inl rfl
      · rename_i ha
        exact h.last.imp id (fun ⟨y, hy, e⟩ => ⟨y, mem_era.2 ⟨hy, fun e2 => ha (e.symm.trans e2)⟩, e⟩)
theorem kept_le' (last : ByteArray) (keep : Int) (x : Fl) (h : x.syn ≤ x.dat.length) : kept last keep x ≤ x.dat.length := by unfold kept; split <;> omega
theorem crash_ok {d : St} (h : d.Ok) (keep : Int) : (d.crash keep).Ok := by
  refine ⟨?_, fun y hy => ?_, ?_, ?_, .inl rfl, fun y hy => ?_, Nat.zero_le _⟩
  · show Srt Fl.nm (d.fs.map _)
    unfold Srt
    rw [List.pairwise_map]
    exact h.srt
  · obtain ⟨x, hx, rfl⟩ := List.mem_map.1 hy
    have := kept_le' d.last keep x (h.syn x hx)
    simp only [List.length_take]
    omega
  · have : total (d.crash keep).fs ≤ total d.fs := by
      show total (d.fs.map _) ≤ _
      generalize d.fs = l
      induction l with
      | nil => exact Nat.le_refl _
      | cons z r ih =>
        rw [List.map_cons, total_cons, total_cons]
        simp only [List.length_take] at ih ⊢
        omega
    exact Nat.le_trans this h.tot
  · show (d.fs.map _).length ≤ _
    rw [List.length_map]
    exact h.cnt
  · obtain ⟨x, hx, rfl⟩ := List.mem_map.1 hy
    exact h.named x hx
end Go.Proofs.Ytflajlnknimjaaa.Dk

/- Several things in memory apart from each other, each in blocks of its own behind B; what a call does to one of them leaves the others. -/
namespace Go.Proofs.Ytflajlnknimjaaa.Dk
open Go.RowKit Go.Maps Go.Proofs.YtflajlnknimjaaaW.PrintWords Go.Proofs.YtflajlnknimjaaaW.PrintMore Go.Proofs.Ytflajlnknimjaaa.Syn Go.Proofs.Ytflajlnknimjaaa.PDiskLoads

/-- A thing: what it says of a world and of the blocks that are its own; it stays where those stay. -/
structure Thing where
  P : World → (Nat → Prop) → Prop
  stay : ∀ {w w' : World} {F : Nat → Prop}, (∀ k, F k → k < w.heap.size) → w.heap.size ≤ w'.heap.size → (∀ k, F k → w'.heap[k]? = w.heap[k]?) → P w F → P w' F

/-- The things D, apart from each other, all in blocks from B on; below B the world is as w0. -/
def Many (B : Nat) (w0 w : World) (D : List Thing) : Prop :=
  Below B w0 w ∧ B ≤ w.heap.size ∧ ∃ own : Nat → Nat, (∀ k, own k ≠ 0 → B ≤ k ∧ k < w.heap.size) ∧ ∀ i (t : Thing), D[i]? = some t → t.P w (fun k => own k = i + 1)

section
variable {B i : Nat} {w0 w w' : World} {D : List Thing} {t : Thing}
theorem Many.start (w : World) : Many w.heap.size w w [] := ⟨Below.refl _ _, Nat.le_refl _, fun _ => 0, fun k h => absurd rfl h, fun i t h => by simp at h⟩
theorem Many.below (h : Many B w0 w D) : Below B w0 w := h.1
theorem Many.size (h : Many B w0 w D) : B ≤ w.heap.size := h.2.1
/-- One of them, with its blocks. -/
theorem Many.get (h : Many B w0 w D) (hi : D[i]? = some t) : ∃ F : Nat → Prop, t.P w F ∧ (∀ k, F k → B ≤ k ∧ k < w.heap.size) ∧ (∀ (j : Nat) (u : Thing), j ≠ i → D[j]? = some u → ∃ G : Nat → Prop, u.P w G ∧ ∀ k, G k → k < w.heap.size ∧ ¬ F k) ∧
    ∀ {w' : World} {t' : Thing}, Chg F w w' → t'.P w' (Gr F w w') → Many B w0 w' (D.set i t') := by
  obtain ⟨h1, h2, own, h3, h4⟩ := h
  refine ⟨fun k => own k = i + 1, h4 i t hi, fun k hk => h3 k (by omega), fun j u hj hu => ⟨fun k => own k = j + 1, h4 j u hu, fun k hk => ⟨(h3 k (by omega)).2, fun e => hj (by omega)⟩⟩, fun {w' t'} hc ht => ?_⟩
  have hil := (List.getElem?_eq_some_iff.1 hi).1
  have hs := hc.size
  refine ⟨⟨hc.os.trans h1.os, hc.tape.trans h1.tape, hc.output.trans h1.output, Nat.le_trans h1.size hs, fun k hk => (hc.block k (by omega) (fun e => by have := (h3 k (by omega)).1; omega)).trans (h1.block k hk)⟩, Nat.le_trans h2 hs, fun k => if k < w.heap.size then own k else if k < w'.heap.size then i + 1 else 0, fun k hk => ?_, fun j u hj => ?_⟩
  · by_cases hk1 : k < w.heap.size
    · simp only [hk1, if_true] at hk
      have := h3 k hk
      omega
    · simp only [hk1, if_false] at hk
      by_cases hk2 : k < w'.heap.size
      · omega
      · simp [hk2] at hk
  · rw [List.getElem?_set] at hj
    by_cases hij : i = j
    · subst hij
      simp only [if_true, hil] at hj
      injection hj with hj
      subst hj
      have e : (fun k => (if k < w.heap.size then own k else if k < w'.heap.size then i + 1 else 0) = i + 1) = Gr (fun k => own k = i + 1) w w' := by
        funext k
        apply propext
        unfold Gr
        by_cases hk1 : k < w.heap.size
        · simp only [hk1, if_true]
          constructor
          · exact .inl
          · rintro (h | h)
            · exact h
            · omega
        · simp only [hk1, if_false]
          by_cases hk2 : k < w'.heap.size
          · simp only [hk2, if_true, true_iff]
            exact .inr ⟨by omega, trivial⟩
          · simp only [hk2, if_false]
            constructor
            · intro h; omega
            · rintro (h | h)
              · have := h3 k (by omega); omega
              · exact absurd h.2 (by simp)
      rw [e]
      exact ht
    · rw [if_neg hij] at hj
      have hu := h4 j u hj
      have e : (fun k => (if k < w.heap.size then own k else if k < w'.heap.size then i + 1 else 0) = j + 1) = fun k => own k = j + 1 := by
        funext k
        apply propext
        by_cases hk1 : k < w.heap.size
        · simp only [hk1, if_true]
        · simp only [hk1, if_false]
          constructor
          · intro h
            split at h <;> omega
          · intro h
            have := h3 k (by omega)
            omega
      rw [e]
      exact u.stay (fun k hk => (h3 k (by omega)).2) hs (fun k hk => hc.block k (h3 k (by omega)).2 (fun e => by omega)) hu
/-- Nothing has changed but what is new. -/
theorem Many.read (h : Many B w0 w D) (hb : Below w.heap.size w w') : Many B w0 w' D := by
  obtain ⟨h1, h2, own, h3, h4⟩ := h
  refine ⟨⟨hb.os.trans h1.os, hb.tape.trans h1.tape, hb.output.trans h1.output, Nat.le_trans h1.size hb.size, fun k hk => (hb.block k (by omega)).trans (h1.block k hk)⟩, Nat.le_trans h2 hb.size, own, fun k hk => ⟨(h3 k hk).1, Nat.lt_of_lt_of_le (h3 k hk).2 hb.size⟩, fun i t hi => t.stay (fun k hk => (h3 k (by omega)).2) hb.size (fun k hk => hb.block k (h3 k (by omega)).2) (h4 i t hi)⟩
/-- A new thing has come. -/
theorem Many.add (h : Many B w0 w D) (hb : Below w.heap.size w w') (ht : t.P w' (fun k => w.heap.size ≤ k ∧ k < w'.heap.size)) : Many B w0 w' (D ++ [t]) := by
  obtain ⟨h1, h2, own, h3, h4⟩ := h
  have hs := hb.size
  refine ⟨⟨hb.os.trans h1.os, hb.tape.trans h1.tape, hb.output.trans h1.output, Nat.le_trans h1.size hs, fun k hk => (hb.block k (by omega)).trans (h1.block k hk)⟩, Nat.le_trans h2 hs, fun k => if k < w.heap.size then (if own k ≤ D.length then own k else 0) else if k < w'.heap.size then D.length + 1 else 0, fun k hk => ?_, fun i u hi => ?_⟩
  · by_cases hk1 : k < w.heap.size
    · simp only [hk1, if_true] at hk
      split at hk
      · have := h3 k hk; omega
      · exact absurd rfl hk
    · simp only [hk1, if_false] at hk
      by_cases hk2 : k < w'.heap.size
      · omega
      · simp [hk2] at hk
  · rcases Nat.lt_or_ge i D.length with hil | hil
    · rw [List.getElem?_append_left hil] at hi
      have hu := h4 i u hi
      have e : (fun k => (if k < w.heap.size then (if own k ≤ D.length then own k else 0) else if k < w'.heap.size then D.length + 1 else 0) = i + 1) = fun k => own k = i + 1 := by
        funext k
        apply propext
        by_cases hk1 : k < w.heap.size
        · simp only [hk1, if_true]
          by_cases h5 : own k ≤ D.length
          · simp only [h5, if_true]
          · simp only [h5, if_false]
            constructor <;> (intro h; omega)
        · simp only [hk1, if_false]
          constructor
          · intro h
            split at h <;> omega
          · intro h
            have := h3 k (by omega)
            omega
      rw [e]
      exact u.stay (fun k hk => (h3 k (by omega)).2) hs (fun k hk => hb.block k (h3 k (by omega)).2) hu
    · have hie : i = D.length := by
        have := (List.getElem?_eq_some_iff.1 hi).1
        simp at this
        omega
      subst hie
      simp at hi
      subst hi
      have e : (fun k => (if k < w.heap.size then (if own k ≤ D.length then own k else 0) else if k < w'.heap.size then D.length + 1 else 0) = D.length + 1) = fun k => w.heap.size ≤ k ∧ k < w'.heap.size := by
        funext k
        apply propext
        by_cases hk1 : k < w.heap.size
        · simp only [hk1, if_true]
          constructor
          · intro h
            split at h <;> omega
          · intro h; omega
        · simp only [hk1, if_false]
          by_cases hk2 : k < w'.heap.size
          · simp only [hk2, if_true]
            exact ⟨fun _ => ⟨by omega, trivial⟩, fun _ => trivial⟩
          · simp only [hk2, if_false]
            exact ⟨fun h => by omega, fun h => absurd h.2 (by simp)⟩
      rw [e]
      exact ht
end

/-! the things -/
theorem DiskIs.stay {w w' : World} {F : Nat → Prop} {p m : Nat} {L : List FileC} {la : ByteArray} {ar : Nat} {dn : Bool} (h : DiskIs w F p m L la ar dn) (hs : w.heap.size ≤ w'.heap.size) (e : ∀ k, F k → w'.heap[k]? = w.heap[k]?) : DiskIs w' F p m L la ar dn :=
  ⟨(e p h.fp).trans h.blk, h.fp, h.fm, h.map.heap (e m h.fm), fun c hc' => (h.files c hc').heap (fun k hk => e k (by
    rcases hk with rfl | hk
    · exact (h.files c hc').2.1
    · exact (h.files c hc').2.2.2 k hk)) (fun _ h => h), h.sep, fun k hk => Nat.lt_of_lt_of_le (h.lt k hk) hs⟩
/-- A disk. -/
def DISK (p : Nat) (d : St) : Thing where
  P := fun w F => DiskAt w F p d ∧ d.Ok
  stay := fun _ hs he ⟨⟨m, L, h1, h2⟩, h3⟩ => ⟨⟨m, L, h1.stay hs he, h2⟩, h3⟩
/-- Files. -/
def FILES (v : Value) (l : List SF) : Thing where
  P := fun w F => kF.R 36 w 0 F v l
  stay := fun _ _ he h => Kd.R_move h he
/-- A row of bytes. -/
def BYTES (v : Value) (l : List Int) : Thing where
  P := fun w F => (Kd.int .u8).R 5 w 0 F v l
  stay := fun _ _ he h => Kd.R_move h he
/-- A row of strings. -/
def TEXTS (v : Value) (l : List ByteArray) : Thing where
  P := fun w F => Kd.string.R 9 w 0 F v l
  stay := fun _ _ he h => Kd.R_move h he
end Go.Proofs.Ytflajlnknimjaaa.Dk

/- fresh, Read of the disk. -/
import Derived.Test.YtflajlnknimjaaaDkW7
namespace Go.Proofs.Ytflajlnknimjaaa.Dk
open Go.RowKit Go.Maps Go.Proofs.YtflajlnknimjaaaW.PrintWords Go.Proofs.YtflajlnknimjaaaW.PrintMore Go.Proofs.Ytflajlnknimjaaa.Syn

/-- Bytes in memory that is new since base. -/
abbrev Fresh (w' : World) (base : Nat) (v : Value) (ys : List Int) : Prop := Kd.R (Kd.int .u8) 5 w' base (fun _ => True) v ys

/-- append of bytes onto a row of one's own, the source nil or not. -/
theorem own_append {w : World} {base : Nat} {v : Value} {xs ys : List Int} {A : Option Addr} {c : Nat} (ho : w.ownsRow base 5 1 v xs.length (nums .u8 xs)) (hx : Kd.C (Kd.int .u8) w A ys.length ys) (hb : xs.length + ys.length ≤ 140737488351232) (hbase : base ≤ w.heap.size) (ty : TypeId) :
    ∃ v' w', (Builtin.append_ #[34, 34] ty #[v, .slice A ys.length c]).run Try.prog w = .ok v' w' ∧ w'.ownsRow base 5 1 v' (xs ++ ys).length (nums .u8 (xs ++ ys)) ∧ w.grownBy w' v.ownBlock := by
  obtain ⟨i0, hi, hz0, hz1, hz2⟩ := info_parts PDiskLoads.info5
  have hu := Try.underlying34
  by_cases h0 : ys.length = 0
  · have hy : ys = [] := List.eq_nil_of_length_eq_zero h0
    subst hy
    refine ⟨v, w, ?_, by rw [List.append_nil]; exact ho, ⟨rfl, rfl, rfl, Nat.le_refl _, fun _ _ _ => rfl⟩⟩
    rcases ho.2 with ⟨rfl, _⟩ | ⟨g, cap, cur, rfl, _, _, h2, _⟩
    · cases A <;> simp [Builtin.append_, run_underlying hu, sizeOf, typeInfo, hi, Builtin.lenOf, Builtin.firstCells, loadCells, loadCellsFrom]
    · cases A <;> simp [Builtin.append_, run_underlying hu, sizeOf, typeInfo, hi, Builtin.lenOf, Builtin.firstCells, h2, storeCells, loadCells, loadCellsFrom]
  · obtain ⟨ad, rfl, hc⟩ := src_cells hx (by omega)
    obtain ⟨v', w', h1, h2, h3, _⟩ := run_append_own (P := Try.prog) w base 34 ty 5 i0 (.int .u8 0) 1 1 hu hi hz0 hz1 hz2 rfl (by decide) v xs.length (nums .u8 xs) ho ad ys.length c (nums .u8 ys) (by rw [nums_length, Nat.mul_one]) hc (nums_one ys) (by unfold maxLen; omega) (by omega) hbase
    exact ⟨v', w', h1, by rw [List.length_append, nums_append]; exact h2, h3⟩

set_option maxHeartbeats 400000 in
theorem fresh_calls (A : Option Addr) (cp : Nat) (ys : List Int) (w : World) (hx : Kd.C (Kd.int .u8) w A ys.length ys) (hy : ys.length ≤ 140737488351232) :
    Calls Try.prog 43 #[.slice A ys.length cp] w fun e w' => ∃ v, e = .returned v ∧ Fresh w' w.heap.size v ys ∧ Below w.heap.size w w' := by
  obtain ⟨i0, hi, hz0, hz1, hz2⟩ := info_parts PDiskLoads.info5
  obtain ⟨w1, hmk, ho1, hg1⟩ := run_make_own (P := Try.prog) w w.heap.size 34 5 i0 (.int .u8 0) 1 Try.underlying34 hi hz0 hz1 .i64 .i64 ys.length (by rw [hz2]; omega) (by unfold maxLen; omega) (Nat.le_refl _)
  have hb1 : Below w.heap.size w w1 := ⟨hg1.os, hg1.tape, hg1.output, hg1.size, fun k hk => hg1.block k hk (by simp)⟩
  obtain ⟨v2, w2, hrun, ho2, hg2⟩ := own_append (c := cp) (xs := []) ho1 (Kd.C_below hx hb1) (by simpa using hy) hg1.size 34
  have hown : ∀ k, (Value.slice (some ⟨w.heap.size, 0, none⟩) 0 ys.length).ownBlock = some k → w.heap.size ≤ k := fun k hk => by simp [Value.ownBlock] at hk; omega
  have hb2 : Below w.heap.size w w2 := hb1.grown hg2 hg1.size hown
  have HRUN := Lib.hid hrun
  have HO := Lib.hid ho2
  have HB := Lib.hid hb2
  clear hrun ho2 hb2 ho1 hg1 hb1 hg2 hown hi hz0 hz1 hz2 hx
  go_enter Try.func43, Try.ntmps43
  go_wp2_with (at_builtin; refine wpList_append_run _ rfl _ _ 34 34 rfl _ _ _ _ rfl rfl HRUN.out ?_)
  go_ret
  exact ⟨v2, rfl, Kd.R_of_own (by simpa [encs, nums] using HO.out) (fun _ _ => trivial), HB.out⟩

theorem DRow.reads {w : World} {A : Option Addr} {cap : Nat} {bs : List Int} (h : DRow w (.slice A bs.length cap) bs) : Kd.C (Kd.int .u8) w A bs.length bs := by
  have hm : bs.length ≤ 9223372036854775807 := by
    obtain ⟨_, cap', _, h2, h3⟩ := h.form
    unfold maxLen at h3
    omega
  refine ⟨rfl, hm, fun h0 => ?_⟩
  rcases h with ⟨_, rfl⟩ | ⟨g, cap', cur, hv, h1, h2, h3, h4, h5⟩
  · simp at h0
  · injection hv with e1 _ _
    subst e1
    refine ⟨_, rfl, fun j p hj => ⟨[.int .u8 p], rfl, rfl, fun i u hu => ?_⟩⟩
    have hi : i = 0 := by
      have := (List.getElem?_eq_some_iff.1 hu).1
      simpa using this
    subst hi
    have hu' : u = .int .u8 p := by simpa using hu.symm
    subst hu'
    rw [add_plain, sb_cell h1]
    have hjl := (List.getElem?_eq_some_iff.1 hj).1
    have e2 : j * (Kd.int .u8).sz + 0 = j := by show j * 1 + 0 = j; omega
    rw [e2, ← Array.getElem?_toList]
    have : (cur.toList.take bs.length)[j]? = (nums .u8 bs)[j]? := by rw [h5]
    rw [List.getElem?_take_of_lt hjl] at this
    rw [this]
    simp [nums, hj]
def St.read (nm : ByteArray) (d : St) : List Int × Int := match look Fl.nm nm d.fs with | some f => (f.dat, 0) | none => ([], 8)

set_option maxHeartbeats 400000 in
theorem read_calls {F : Nat → Prop} {p : Nat} {w : World} {d : St} (nm : ByteArray) (h : DiskAt w F p d) (ok : d.Ok) (hn : nm.size ≤ 140737488351232) :
    Calls Try.prog 55 #[.pointer (some ⟨p, 0, none⟩), .string nm] w fun e w' => ∃ v, e = .returned (.tuple #[v, .int .i64 (d.read nm).2]) ∧ Fresh w' w.heap.size v (d.read nm).1 ∧ Below w.heap.size w w' := by
  have hn1 : nm.size ≤ maxLen := by unfold maxLen; omega
  obtain ⟨m, L, hI, hL⟩ := h
  have b0 := sb_cell hI.blk 0
  simp at b0
  have hl := hI.map.look hn1
  have hla := look_abs hL nm
  unfold St.read
  rw [hla]
  cases hk : look FileC.nm nm L with
  | none =>
    rw [hk] at hl
    simp only [ptrOf] at hl
    simp only [Option.map_none]
    clear hk hla hL hI ok
    go_enter Try.func55, Try.ntmps55
    go_wp2
    go_ret2
    exact ⟨_, rfl, Kd.R_nil _ _ _ _ _, Below.refl _ _⟩
  | some c =>
    rw [hk] at hl
    simp only [ptrOf] at hl
    simp only [Option.map_some]
    obtain ⟨hcm, hcn⟩ := look_some hk
    have hf := hI.files c hcm
    obtain ⟨A, cap, hv, _, _⟩ := hf.2.2.1.form
    have c0 := sb_cell hf.1 0
    simp at c0
    have hd := hf.2.2.1
    rw [hv] at c0 hd
    have hsum := sumC_take (srt_abs hL ok.srt) hcm
    have htot := ok.tot
    rw [← sumC_abs hL] at htot
    have hlen : c.bs.length ≤ 140737488351232 := by omega
    have HD := Lib.hid hd
    clear hk hla hL hI ok hd hv hf hsum htot
    go_enter Try.func55, Try.ntmps55
    go_wp2_with (go_at_call 43; refine (fresh_calls _ _ c.bs _ (by exact HD.out.reads) hlen).mono ?_; rintro e w1 ⟨v, rfl, h1, h2⟩)
    go_ret2
    exact ⟨v, rfl, h1, h2⟩
end Go.Proofs.Ytflajlnknimjaaa.Dk

/- Walks: strings.Builder at the head of a block of any struct. -/
import Derived.Test.YtidfhfcplcfcmaaDoorLexToken
import Derived.Lib.Builder
import Derived.Lib.AppendStr
import Derived.Lib.UnsafeStr
import Derived.Lib.Strings
import Derived.Laws.Externs
import Derived.WalkKit
import Derived.Shelf.RegionOpenPlain
namespace Go.Proofs.YtidfhfcplcfcmaaDoor
open Go.RowKit OT

/-- a builder in the first two cells of block b, which holds further cells xs behind them -/
def BldAt (T : TypeId) (xs : List Value) (B b : Nat) (p : Value) (l : Str) (w : World) : Prop :=
  B ≤ b ∧ ∃ v, w.heap[b]? = some (.cells (p :: v :: xs).toArray T (0, 0)) ∧ w.ownsRow B 5 1 v l.length (Lib.byteCells l) ∧ v.ownBlock ≠ some b ∧ (l = [] → v = .slice none 0 0)
def Bld (T : TypeId) (xs : List Value) (B b : Nat) (l : Str) (w : World) : Prop :=
  BldAt T xs B b (.pointer none) l w ∨ BldAt T xs B b (.pointer (some ⟨b, 0, none⟩)) l w
/-- the structs that hold a builder at their head -/
def BldT (T : TypeId) (xs : List Value) : Prop :=
  (T ≠ 5) ∧ liesAt Tryd.prog Tryd.prog.depth T ((xs.length + 2) / Tryd.prog.cellsOf T) 0 79 1 = true

section
variable {T : TypeId} {xs : List Value} {B b : Nat} {p : Value} {l : Str} {w : World}
theorem BldAt.cell0 (h : BldAt T xs B b p l w) : w.cell? ⟨b, 0, none⟩ = some p := by
  obtain ⟨_, v, hb, _⟩ := h
  simp [World.cell?, hb]
theorem BldAt.cellx (h : BldAt T xs B b p l w) (j : Nat) : w.cell? ⟨b, j + 2, none⟩ = xs[j]? := by
  obtain ⟨_, v, hb, _⟩ := h
  simp [World.cell?, hb]
theorem BldAt.shape (h : BldAt T xs B b p l w) : w.shape? b = some (T, xs.length + 2) := by
  obtain ⟨_, v, hb, _⟩ := h
  simp [World.shape?, hb]
theorem BldAt.frozen (h : BldAt T xs B b p l w) (j : Nat) : w.frozen? ⟨b, j, none⟩ = false := by
  obtain ⟨_, v, hb, _⟩ := h
  simp [World.frozen?, hb]
theorem BldAt.lt (h : BldAt T xs B b p l w) : b < w.heap.size := by
  obtain ⟨_, v, hb, _⟩ := h
  rcases Nat.lt_or_ge b w.heap.size with h' | h'
  · exact h'
  · simp [Array.getElem?_eq_none h'] at hb
theorem BldAt.keep {w1 : World} (h : BldAt T xs B b p l w) (hb : Below w.heap.size w w1) : BldAt T xs B b p l w1 := by
  have hlt := h.lt
  obtain ⟨hB, v, hbk, hown, hne, hnil⟩ := h
  refine ⟨hB, v, (hb.block b hlt).trans hbk, ?_, hne, hnil⟩
  refine hown.kept (row := none) ⟨hb.os, hb.tape, hb.output, hb.size, fun i hi _ => hb.block i hi⟩ ?_
  cases v.ownBlock <;> simp
theorem BldAt.used (h : BldAt T xs B b p l w) (q : Value) : BldAt T xs B b q l (w.setCell ⟨b, 0, none⟩ q) := by
  obtain ⟨hB, v, hb, hown, hne, hnil⟩ := h
  refine ⟨hB, v, ?_, ?_, hne, hnil⟩
  · simp [World.setCell, Array.getElem?_modify, hb]
  · refine hown.kept (row := some b) ⟨rfl, rfl, rfl, by simp [World.setCell], fun k _ hk => Below.heap_setCell _ _ _ _ (fun e => hk (by simp [e]))⟩ ?_
    exact Or.inr hne
end
theorem Bld.keep {T : TypeId} {xs : List Value} {B b : Nat} {l : Str} {w w1 : World} (h : Bld T xs B b l w) (hb : Below w.heap.size w w1) : Bld T xs B b l w1 := h.imp (·.keep hb) (·.keep hb)
theorem bld_fresh (w : World) : Bld 79 [] w.heap.size w.heap.size [] (w.alloc (.cells #[.pointer none, .slice none 0 0] 79)) :=
  Or.inl ⟨Nat.le_refl _, .slice none 0 0, heap_alloc_new w _, World.ownsRow_nil _ _ _ _, by simp [Value.ownBlock], fun _ => rfl⟩

theorem Tryd.infoU8 : (Tryd.prog.info? 5).map (fun i => (i.zero, i.size, i.bytes)) = some (some (.int .u8 0), 1, 1) := by kernel_rfl
theorem Tryd.sizeBld : (Tryd.prog.info? 79).map (·.size) = some 2 := by kernel_rfl
theorem bldT_plain : BldT 79 [] := ⟨by decide, by kernel_rfl⟩

set_option maxHeartbeats 1000000 in
set_option maxRecDepth 100000 in
theorem copyCheck_used (b : Nat) (w : World) (h0 : w.cell? ⟨b, 0, none⟩ = some (.pointer (some ⟨b, 0, none⟩))) :
    Calls Tryd.prog 94 #[.pointer (some ⟨b, 0, none⟩)] w fun e w' => e = .returned (.tuple #[]) ∧ w = w' := by
  obtain ⟨j, hj, _⟩ := Option.map_eq_some_iff.1 Tryd.sizeBld
  go_enter Tryd.func94, Tryd.ntmps94
  go_wp2_with fail
  rw [Lib.run_neq_ptr_same w _ Tryd.underlying77 hj]
  go_wp2_with fail
  go_end0
  exact ⟨rfl, rfl⟩

set_option maxHeartbeats 1000000 in
set_option maxRecDepth 100000 in
theorem copyCheck_fresh {T : TypeId} {n : Nat} (hT : liesAt Tryd.prog Tryd.prog.depth T ((n + 2) / Tryd.prog.cellsOf T) 0 79 1 = true) (b : Nat) (w : World)
    (h0 : w.cell? ⟨b, 0, none⟩ = some (.pointer none)) (hsh : w.shape? b = some (T, n + 2)) (hfz : w.frozen? ⟨b, 0, none⟩ = false) :
    Calls Tryd.prog 94 #[.pointer (some ⟨b, 0, none⟩)] w fun e w' => e = .returned (.tuple #[]) ∧ w' = w.setCell ⟨b, 0, none⟩ (.pointer (some ⟨b, 0, none⟩)) := by
  obtain ⟨j, hj, hjs⟩ := Option.map_eq_some_iff.1 Tryd.sizeBld
  go_enter Tryd.func94, Tryd.ntmps94
  go_wp2_with fail
  rw [Lib.run_to_unsafe w ⟨b, 0, none⟩ Tryd.underlying77 Tryd.underlying160 hj (by rw [hjs]; decide) hsh (Nat.zero_lt_succ _)]
  simp only [Result.andThen]
  rw [Oper.upon_value]
  go_wp2_with fail
  rw [run_callFunc_extern Tryd.func129 (by kernel_rfl) (by kernel_rfl) (by kernel_rfl) (e := Extern.AbiNoEscape.same) (by kernel_rfl)]
  rw [Lib.run_noEscape]
  simp only [Result.andThen]
  rw [Oper.upon_value]
  go_wp2_with fail
  rw [Lib.run_from_unsafe w ⟨b, 0, none⟩ Tryd.underlying160 Tryd.underlying77 hj hsh hT]
  simp only [Result.andThen]
  rw [Oper.upon_value]
  go_wp2_with fail
  go_end0
  exact ⟨rfl, rfl⟩

theorem copyCheck_any {T : TypeId} {xs : List Value} (hT : BldT T xs) (B b : Nat) (l : Str) (w : World) (h : Bld T xs B b l w) :
    Calls Tryd.prog 94 #[.pointer (some ⟨b, 0, none⟩)] w fun e w' => e = .returned (.tuple #[]) ∧ BldAt T xs B b (.pointer (some ⟨b, 0, none⟩)) l w' ∧ Below B w w' := by
  rcases h with h | h
  · refine (copyCheck_fresh hT.2 b w h.cell0 h.shape (h.frozen 0)).mono ?_
    rintro e w' ⟨rfl, rfl⟩
    exact ⟨rfl, h.used _, (Below.refl B w).setCell (p := ⟨b, 0, none⟩) h.1 _⟩
  · refine (copyCheck_used b w h.cell0).mono ?_
    rintro e w' ⟨rfl, rfl⟩
    exact ⟨rfl, h, Below.refl B _⟩

theorem BldAt.put {T : TypeId} {xs : List Value} {B b : Nat} {p v v' : Value} {l' : Str} {w : World} (hT : T ≠ 5) (hB : B ≤ b) (hb : w.heap[b]? = some (.cells (p :: v :: xs).toArray T (0, 0)))
    (hown : w.ownsRow B 5 1 v' l'.length (Lib.byteCells l')) (hnil : l' = [] → v' = .slice none 0 0) : BldAt T xs B b p l' (w.setCell ⟨b, 1, none⟩ v') := by
  have hne := Lib.ownBlock_ne hown hb hT
  refine ⟨hB, v', ?_, ?_, hne, hnil⟩
  · simp [World.setCell, Array.getElem?_modify, hb]
  · exact hown.kept (row := some b) ⟨rfl, rfl, rfl, by simp [World.setCell], fun k _ hk => Below.heap_setCell _ _ _ _ (fun e => hk (by simp [e]))⟩ (Or.inr hne)

theorem byteCells_strs (l : Str) (s : ByteArray) : Lib.byteCells l ++ Lib.strCells s = Lib.byteCells (l ++ s.data.toList) := by
  simp [Lib.byteCells, Lib.strCells]

set_option maxHeartbeats 2000000 in
set_option maxRecDepth 100000 in
theorem writeString_any {T : TypeId} {xs : List Value} (hT : BldT T xs) (B b : Nat) (l : Str) (s : ByteArray) (w : World) (h : Bld T xs B b l w) (hlen : l.length + s.size ≤ 140737488355328) (hBw : B ≤ w.heap.size) :
    Calls Tryd.prog 50 #[.pointer (some ⟨b, 0, none⟩), .string s] w fun e w' => e = .returned (.tuple #[.int .i64 s.size, .nilIface]) ∧ Bld T xs B b (l ++ s.data.toList) w' ∧ Below B w w' := by
  obtain ⟨i0, hi, hz0, hz1, hz2⟩ := info_parts Tryd.infoU8
  go_enter Tryd.func50, Tryd.ntmps50
  go_wp2_with fail
  refine (copyCheck_any hT B b l w h).mono ?_
  rintro e w1 ⟨rfl, h1, hb1⟩
  obtain ⟨hB, v, hbk, hown, hne, hnil⟩ := h1
  have c0 : w1.cell? ⟨b, 0, none⟩ = some (.pointer (some ⟨b, 0, none⟩)) := by rw [Lib.cell_of_heap hbk]; rfl
  have c1 : w1.cell? ⟨b, 1, none⟩ = some v := by rw [Lib.cell_of_heap hbk]; rfl
  go_wp2_with (at_builtin; refine Lib.wpList_append_own_string _ rfl _ _ 43 9 rfl B 5 i0 Tryd.underlying43 Tryd.underlying9 hi hz0 hz1 hz2 _ _ _ rfl hown s rfl ?c3 ?c4 ?c5 ?_)
  case c3 => unfold maxLen; omega
  case c4 => omega
  case c5 => have := hb1.size; omega
  intro v' w2 hown' hgrow hnil'
  have hlt : b < w1.heap.size := by
    rcases Nat.lt_or_ge b w1.heap.size with h' | h'
    · exact h'
    · simp [Array.getElem?_eq_none h'] at hbk
  have hb2 : w2.heap[b]? = some (.cells (.pointer (some ⟨b, 0, none⟩) :: v :: xs).toArray T (0, 0)) := by
    rw [hgrow.block b hlt (fun e => hne e.symm)]
    exact hbk
  have d0 : w2.cell? ⟨b, 0, none⟩ = some (.pointer (some ⟨b, 0, none⟩)) := by rw [Lib.cell_of_heap hb2]; rfl
  have d1 : w2.cell? ⟨b, 1, none⟩ = some v := by rw [Lib.cell_of_heap hb2]; rfl
  have f1 : w2.frozen? ⟨b, 1, none⟩ = false := Lib.frozen_of_heap hb2 1
  obtain ⟨ao, n', cap, rfl⟩ : ∃ ao n' cap, v' = .slice ao n' cap := by
    rcases hown'.2 with ⟨hv, _⟩ | ⟨g, cap, cur, hv, _⟩
    · exact ⟨_, _, _, hv⟩
    · exact ⟨_, _, _, hv⟩
  rw [byteCells_strs, show l.length + s.size = (l ++ s.data.toList).length by simp] at hown'
  have hput : BldAt T xs B b (.pointer (some ⟨b, 0, none⟩)) (l ++ s.data.toList) (w2.setCell ⟨b, 1, none⟩ (.slice ao n' cap)) := by
    refine BldAt.put hT.1 hB hb2 hown' ?_
    intro h0
    obtain ⟨h1, h2⟩ := List.append_eq_nil_iff.1 h0
    refine hnil'.2 ⟨hnil h1, ?_⟩
    have := congrArg List.length h2
    simpa using this
  have hbel : Below B w (w2.setCell ⟨b, 1, none⟩ (.slice ao n' cap)) := (hb1.grown hgrow (by have := hb1.size; omega) (fun k hk => (hown.lt k hk).1)).setCell (p := ⟨b, 1, none⟩) hB _
  clear hnil'
  go_wp2_with fail
  go_ret2
  exact ⟨rfl, Or.inr hput, hbel⟩

set_option maxHeartbeats 2000000 in
set_option maxRecDepth 100000 in
theorem string_some {T : TypeId} {xs : List Value} (B b : Nat) (l : Str) (p : Value) (w : World) (h : BldAt T xs B b p l w) (h0 : l ≠ []) :
    Calls Tryd.prog 51 #[.pointer (some ⟨b, 0, none⟩)] w fun e w' => e = .returned (.string (bs l)) ∧ Below B w w' := by
  obtain ⟨hB, v, hbk, hown, hne, _⟩ := h
  have hl0 : l.length ≠ 0 := by simpa using h0
  obtain ⟨g, cap, cur, rfl, hbg, hg, hnc, hcm, hcs, htake⟩ : ∃ g cap cur, v = .slice (some ⟨g, 0, none⟩) l.length cap ∧ B ≤ g ∧ w.heap[g]? = some (.cells cur 5 (0, 0)) ∧ l.length ≤ cap ∧ cap ≤ maxLen ∧ cur.size = cap * 1 ∧ cur.toList.take (l.length * 1) = Lib.byteCells l := by
    rcases hown.2 with ⟨_, hz⟩ | ⟨g, cap, cur, hv, r⟩
    · exact absurd hz hl0
    · exact ⟨g, cap, cur, hv, r⟩
  have c1 : w.drew.cell? ⟨b, 1, none⟩ = some (.slice (some ⟨g, 0, none⟩) l.length cap) := by
    have : w.drew.heap[b]? = some (.cells (p :: .slice (some ⟨g, 0, none⟩) l.length cap :: xs).toArray T (0, 0)) := hbk
    rw [Lib.cell_of_heap this]; rfl
  have hSD : (Builtin.unsafeSliceData_ #[43] 129 #[.slice (some ⟨g, 0, none⟩) l.length cap]).run Tryd.prog w.drew = .ok (.pointer (some ⟨g, 0, none⟩)) w.drew :=
    Lib.run_unsafeSliceData_row _ _ _ _ _ _ (by omega)
  have hUS : (Builtin.unsafeString_ #[129, 3] 9 #[.pointer (some ⟨g, 0, none⟩), .int .i64 l.length]).run Tryd.prog w.drew = .ok (.string (bs l)) (w.drew.freeze ⟨g, 0, none⟩ l.length) := by
    refine Lib.run_unsafeString_row w.drew 129 3 9 5 Tryd.underlying129 (by kernel_rfl) g cur.size (by have hg' : w.drew.heap[g]? = some (.cells cur 5 (0, 0)) := hg; simp [World.shape?, hg']) l h0 (by omega) (by unfold maxLen at hcm; omega) ?_
    intro j x hx
    exact hown.cells (g := g) rfl j (.int .u8 x.toNat) (by simp [Lib.byteCells, hx])
  have mixed : Tryd.prog.follows Departure.mixedOrders = true := by kernel_rfl
  go_enter Tryd.func51, Tryd.ntmps51
  go_wp2_with fail
  go_region_o
  all_goals (go_wp2_with fail; go_ret; exact ⟨rfl, Lib.below_freeze (Below.drew (Below.refl B w)) (p := ⟨g, 0, none⟩) hbg _⟩)

set_option maxHeartbeats 2000000 in
set_option maxRecDepth 100000 in
theorem string_nil {T : TypeId} {xs : List Value} (B b : Nat) (p : Value) (w : World) (h : BldAt T xs B b p [] w) :
    Calls Tryd.prog 51 #[.pointer (some ⟨b, 0, none⟩)] w fun e w' => e = .returned (.string (bs [])) ∧ Below B w w' := by
  obtain ⟨hB, v, hbk, hown, hne, hnil⟩ := h
  obtain rfl := hnil rfl
  have c1 : w.drew.cell? ⟨b, 1, none⟩ = some (.slice none 0 0) := by
    have : w.drew.heap[b]? = some (.cells (p :: .slice none 0 0 :: xs).toArray T (0, 0)) := hbk
    rw [Lib.cell_of_heap this]; rfl
  have hUS := fun W q => Lib.run_unsafeString_none (P := Tryd.prog) W 129 3 9 q
  have hSD : (Builtin.unsafeSliceData_ #[43] 129 #[.slice none 0 0]).run Tryd.prog w.drew = .ok (.pointer none) w.drew := rfl
  have mixed : Tryd.prog.follows Departure.mixedOrders = true := by kernel_rfl
  go_enter Tryd.func51, Tryd.ntmps51
  go_wp2_with fail
  go_region_o
  all_goals (go_wp2_with fail; go_ret; exact ⟨rfl, Below.drew (Below.refl B w)⟩)

theorem string_any {T : TypeId} {xs : List Value} (B b : Nat) (l : Str) (w : World) (h : Bld T xs B b l w) :
    Calls Tryd.prog 51 #[.pointer (some ⟨b, 0, none⟩)] w fun e w' => e = .returned (.string (bs l)) ∧ Below B w w' := by
  by_cases h0 : l = []
  · subst h0
    rcases h with h | h
    · exact string_nil B b _ w h
    · exact string_nil B b _ w h
  · rcases h with h | h
    · exact string_some B b l _ w h h0
    · exact string_some B b l _ w h h0

end Go.Proofs.YtidfhfcplcfcmaaDoor

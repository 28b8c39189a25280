/- Walks: the texts of tokens, one behind the other. -/
import Derived.Test.YtidfhfcplcfcmaaDoorBuild
import Derived.Test.YtidfhfcplcfcmaaDoorLawLines
namespace Go.Proofs.YtidfhfcplcfcmaaDoor
open Go.RowKit OT

theorem joinT_take (l : List Tok) (k : Nat) (hk : k < l.length) : joinT (l.take (k + 1)) = joinT (l.take k) ++ (tokAt l k).text := by
  have : tokAt l k = l[k] := by simp [tokAt, List.getD_eq_getElem?_getD, List.getElem?_eq_getElem hk]
  rw [this, List.take_succ_eq_append_getElem hk]; simp only [joinT, List.map_append, List.flatten_append, List.map_cons, List.map_nil, List.flatten_cons, List.flatten_nil, List.append_nil]
theorem joinT_take_le (l : List Tok) (k : Nat) : (joinT (l.take k)).length ≤ (joinT l).length := by
  have : joinT l = joinT (l.take k) ++ joinT (l.drop k) := by
    unfold joinT; rw [← List.flatten_append, ← List.map_append, List.take_append_drop]
  rw [this, List.length_append]; omega

set_option maxRecDepth 100000 in
set_option maxHeartbeats 2000000 in
theorem join_any (v : Value) (l : List Tok) (hl : l.length ≤ 4000000000000) (hj : (joinT l).length ≤ 140737488355328) (w : World) (h : ToksAt w v l) :
    Calls Tryd.prog 27 #[v] w fun e w' => e = .returned (.string (bs (joinT l))) ∧ Below w.heap.size w w' := by
  by_cases h0 : l = []
  · subst h0
    obtain ⟨A, c, rfl⟩ := h.slice
    clear h
    go_enter Tryd.func27, Tryd.ntmps27
    go_wp2_with fail
    refine wp_loop_rounds 1 ?_
    rw [rounds_succ]
    go_wp2_with fail
    refine (string_any w.heap.size w.heap.size [] _ (bld_fresh w)).mono ?_
    rintro e w' ⟨rfl, hb⟩
    go_wp2_with fail
    go_ret
    exact ⟨rfl, ((Below.refl _ _).alloc (Nat.le_refl _) _).trans hb⟩
  · have hpos := List.length_pos_iff.2 h0
    obtain ⟨A, c, rfl⟩ := h.slice
    obtain ⟨b, o, rfl, hc⟩ := h.box hpos
    have HC := Lib.hid hc
    clear hc h h0
    have HJ := Lib.hid hj; clear hj
    go_enter Tryd.func27, Tryd.ntmps27
    go_wp2_with fail
    go_loopw [8] (fun i wr => ∃ k : Nat, k ≤ l.length ∧ i = .int .i64 k ∧ Hid (Bld 79 [] w.heap.size w.heap.size (joinT (l.take k)) wr) ∧ Hid (Below w.heap.size w wr)) (fun i _ => l.length - (intOf i).toNat)
    case atStart => exact ⟨0, Nat.zero_le _, rfl, Lib.hid (bld_fresh w), Lib.hid ((Below.refl _ _).alloc (Nat.le_refl _) _)⟩
    case round =>
      obtain ⟨k, hk, rfl, HD, HB⟩ := hrel
      by_cases hlt : k < l.length
      · obtain ⟨m1, m2, m3⟩ := HC.out k hlt
        replace m1 := cell_keep HB.out m1; replace m2 := cell_keep HB.out m2; replace m3 := cell_keep HB.out m3
        have i0 : (0 : Int) ≤ (k : Int) := Int.natCast_nonneg _
        have i1 : (k : Int) < (l.length : Int) := by omega
        have hjt := joinT_take l k hlt
        have hjl := joinT_take_le l (k + 1)
        have hj2 := HJ.out
        have hsz : (joinT (l.take k)).length + (bs (tokAt l k).text).size ≤ 140737488355328 := by
          rw [hjt, List.length_append] at hjl; rw [bs_size]; omega
        have hls : (bs (tokAt l k).text).data.toList = (tokAt l k).text := bs_list _
        have HT := Lib.hid hjt; have HSZ := Lib.hid hsz; have HLS := Lib.hid hls
        clear hjt hjl hj2 hsz hls
        generalize tokAt l k = t at m1 m2 m3 HT HSZ HLS
        have hBa : Below wr.heap.size wr (wr.alloc (.cells #[Value.int .u8 (t.kind : Int), .string (bs t.text), .int .i64 (t.pos : Int)] 33)) := (Below.refl _ _).alloc (Nat.le_refl _) _
        have HD2 := Lib.hid (HD.out.keep hBa)
        have HB2 := Lib.hid (HB.out.trans (hBa.mono HB.out.size)); clear hBa
        go_wp2_with fail
        refine (writeString_any bldT_plain w.heap.size w.heap.size _ (bs t.text) _ HD2.out HSZ.out HB2.out.size).mono ?_
        rintro e w2 ⟨rfl, hd, hb⟩
        rw [HLS.out, ← HT.out] at hd
        have HD3 := Lib.hid hd; clear hd
        have HB3 := Lib.hid (HB2.out.trans hb); clear hb
        go_wp2_with fail
        exact ⟨⟨k + 1, by omega, by go_num, HD3, HB3⟩, by simp only [intOf]; omega⟩
      · have hkk : k = l.length := by omega
        subst hkk
        rw [List.take_length] at HD
        go_wp2_with fail
        refine (string_any w.heap.size w.heap.size (joinT l) _ HD.out).mono ?_
        rintro e w' ⟨rfl, hb⟩
        have HB3 := Lib.hid (HB.out.trans hb); clear hb
        go_wp2_with fail
        go_ret
        exact ⟨rfl, HB3.out⟩

end Go.Proofs.YtidfhfcplcfcmaaDoor

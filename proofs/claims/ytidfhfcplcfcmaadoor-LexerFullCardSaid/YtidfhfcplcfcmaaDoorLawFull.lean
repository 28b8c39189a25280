/- Walks: the longest text, and one byte more. -/
import Derived.Test.YtidfhfcplcfcmaaDoorLawError
import Derived.Test.YtidfhfcplcfcmaaDoorShelf2
import Derived.Deep.RegionWith
namespace Go.Proofs.YtidfhfcplcfcmaaDoor
open Go.RowKit OT

theorem runLen_rep (p : UInt8 → Bool) (c : UInt8) (h : p c = true) : ∀ n, runLen p (List.replicate n c) = n
  | 0 => rfl
  | n + 1 => by simp [List.replicate_succ, runLen, h, runLen_rep p c h n]
theorem token_spaces (n : Nat) : token (List.replicate (n + 1) 32) = (4, n + 1) := by
  have h := runLen_rep space 32 (by decide) (n + 1)
  rw [List.replicate_succ] at h ⊢
  simp only [token]
  rw [h]
  rfl
theorem repeatL_one (c : UInt8) : ∀ n, Lib.repeatL [c] n = List.replicate n c
  | 0 => rfl
  | n + 1 => by
    rw [Lib.repeatL, repeatL_one c n, List.replicate_succ]; rfl
theorem lex_spaces : lex (List.replicate 65536 32) = ([⟨4, List.replicate 65536 32, 0⟩], 0, 0) := by
  have h := lexP_one (s := List.replicate 65536 32) (k := 4) (by decide) (by rw [List.length_replicate]; exact token_spaces 65535) 0
  exact lex_of_ok (by rw [List.length_replicate]; exact Nat.le_refl _) h

theorem repeat_sp (n : Nat) (c : UInt8) (hn : n ≤ 65536) (w : World) :
    Calls Tryd.prog 28 #[.string ⟨#[c]⟩, .int .i64 (n : Int)] w fun e w' => e = .returned (.string (bs (List.replicate n c))) ∧ Below w.heap.size w w' := by
  refine (Tryd.strings_Repeat ⟨#[c]⟩ n w (by omega) (by have : (⟨#[c]⟩ : ByteArray).size = 1 := rfl; rw [this]; omega)).mono ?_
  rintro e w' ⟨rfl, hb⟩
  refine ⟨?_, hb⟩
  rw [show (⟨#[c]⟩ : ByteArray).data.toList = [c] from rfl, repeatL_one]
  rfl

set_option maxRecDepth 100000 in
set_option maxHeartbeats 2000000 in
theorem lexerFull_walk (c : Int) (hc : 0 ≤ c ∧ c ≤ 255) (m : Int) (hm : 0 ≤ m ∧ m ≤ 255) (w : World) (hT : SpaceTab w) :
    Calls Tryd.prog 11 #[.int .u8 c, .int .u8 m] w (AwakePost w) := by
  have HT := Lib.hid hT; clear hT
  obtain ⟨m, rfl⟩ := Int.eq_ofNat_of_zero_le hm.1
  have hm' : m ≤ 255 := by omega
  have HSP := Lib.hid lex_spaces
  obtain ⟨cb, rfl⟩ : ∃ cb : UInt8, c = (cb.toNat : Int) := ⟨UInt8.ofNat c.toNat, by
    have : (UInt8.ofNat c.toNat).toNat = c.toNat := by rw [UInt8.toNat_ofNat']; omega
    rw [this]; omega⟩
  clear hc
  go_enter Tryd.func11, Tryd.ntmps11
  go_wp2_with fail
  refine (awake11 w HT.out).mono ?_
  rintro e w1 ⟨rfl, hb1⟩
  have HT1 := Lib.hid (HT.out.keep hb1)
  have HB1 := Lib.hid hb1; clear hb1
  go_wp2_with fail
  refine (repeat_sp 65536 32 (Nat.le_refl _) w1).mono ?_
  rintro e w2 ⟨rfl, hb2⟩
  have HT2 := Lib.hid (HT1.out.keep hb2)
  have HB2 := Lib.hid (HB1.out.trans (hb2.mono HB1.out.size)); clear hb2
  obtain ⟨sp, hsp⟩ : ∃ x, x = List.replicate 65536 (32 : UInt8) := ⟨_, rfl⟩
  have hspl : sp.length = 65536 := by rw [hsp, List.length_replicate]
  rw [← hsp] at HSP ⊢
  clear hsp
  go_wp2_with fail
  refine (lex_at (bs sp) (by rw [bs_size]; omega) [⟨4, sp, 0⟩] 0 0 (by rw [bs_list]; exact HSP.out) w2 HT2.out).mono ?_
  rintro e w3 ⟨A3, c3, rfl, _, hb3⟩
  have HT3 := Lib.hid (HT2.out.keep hb3)
  have HB3 := Lib.hid (HB2.out.trans (hb3.mono HB2.out.size)); clear hb3
  go_wp2_with fail
  have hT3 := HT3.out
  have hB3 := HB3.out
  have hw : IntKind.i64.wrap (m : Int) = m := by rw [IntKind.wrap_i64]; omega
  have hcv : ∀ (W : World) (N : Nat), W.cell? ⟨N, 0, none⟩ = some (.int .u8 (cb.toNat : Int)) → (convert 43 9 (.slice (some ⟨N, 0, none⟩) 1 1)).run Tryd.prog W = .ok (.string (bs [cb])) W := fun W N hW =>
    run_convert_bytes_back _ _ _ 5 ⟨N, 0, none⟩ 1 [cb] Tryd.underlying43 Tryd.underlying5 Tryd.underlying9 (fun j hj => by
      obtain rfl : j = 0 := by simpa using hj
      exact hW)
  have hcell : ∀ W : World, (W.alloc (.cells #[.int .u8 (cb.toNat : Int)] 5)).cell? ⟨W.heap.size, 0, none⟩ = some (.int .u8 (cb.toNat : Int)) := fun W => by
    rw [World.cell?_alloc_at _ _ _ _ rfl]
    rfl
  have hconv := hcv (w3.alloc (.cells #[.int .u8 (cb.toNat : Int)] 5)).drew _ (hcell w3)
  have HCV := Lib.hid hcv; have HCL := Lib.hid hcell
  clear hcv hcell
  have hs1 : (bs [cb]).size = 1 := by rw [bs_size]; rfl
  have hs2 : (bs sp).size = 65536 := by rw [bs_size]; exact hspl
  have hs3 : (bs (List.replicate m 63)).size = m := by rw [bs_size, List.length_replicate]
  have hs4 : (bs [cb] ++ bs sp).size = 65537 := by rw [ByteArray.size_append, hs1, hs2]
  have hs5 : (bs [cb] ++ bs sp ++ bs (List.replicate m 63)).size = 65537 + m := by rw [ByteArray.size_append, hs4, hs3]
  have hs6 : (bs [cb] ++ bs sp ++ bs (List.replicate m 63)).size ≤ 140737488351232 := by rw [hs5]; omega
  have hful : lex (bs [cb] ++ bs sp ++ bs (List.replicate m 63)).data.toList = ([], 0, 5) := lex_full (by
    show _ < (bs [cb] ++ bs sp ++ bs (List.replicate m 63)).data.toList.length
    rw [Array.length_toList]; show _ < (bs [cb] ++ bs sp ++ bs (List.replicate m 63)).size; rw [hs5]; omega)
  have hBa : Below w3.heap.size w3 (w3.alloc (.cells #[.int .u8 (cb.toNat : Int)] 5)).drew := ((Below.refl _ _).alloc (Nat.le_refl _) _).drew
  have HF := Lib.hid hful; have HS6 := Lib.hid hs6
  clear hful hs6
  have hBd : Below w3.heap.size w3 w3.drew := (Below.refl _ _).drew
  go_region_with
    ((first
      | (go_at_call 28; refine (repeat_sp m 63 (by omega) _).mono ?_; rintro en w4 ⟨rfl, hb4⟩; have hb34 := hBa.trans (hb4.mono hBa.size); have hconv4 := HCV.out w4 _ (cell_keep hb4 (HCL.out w3)))
      | (go_at_call 28; refine (repeat_sp m 63 (by omega) _).mono ?_; rintro en w4 ⟨rfl, hb4⟩; have hb34 := (hBd.trans (hb4.mono hBd.size)).alloc (hBd.trans (hb4.mono hBd.size)).size (.cells #[.int .u8 (cb.toNat : Int)] 5); have hconv4 := HCV.out (w4.alloc (.cells #[.int .u8 (cb.toNat : Int)] 5)) _ (HCL.out w4))
      | (go_at_call 18; refine (lex_at (bs [cb] ++ bs sp ++ bs (List.replicate m 63)) HS6.out [] 0 5 HF.out _ (hT3.keep hb34)).mono ?_; rintro en w5 ⟨A5, c5, rfl, ha5, hb5⟩; have hb35 := hb34.trans (hb5.mono hb34.size))))
  all_goals
    go_wp2_with fail
    go_ret
    exact ⟨rfl, HB3.out.trans (hb35.mono HB3.out.size)⟩

end Go.Proofs.YtidfhfcplcfcmaaDoor

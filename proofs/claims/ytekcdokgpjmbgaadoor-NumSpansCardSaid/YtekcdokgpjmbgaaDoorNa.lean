/- Contracts of the library's functions that num calls, in printed form. -/
import Derived.Test.YtekcdokgpjmbgaaDoorLaid
import Derived.Test.YtekcdokgpjmbgaaDoorBlk2
import Derived.Test.YtekcdokgpjmbgaaDoorShelf
import Derived.Test.YtekcdokgpjmbgaaDoorWMore
import Derived.Lib.ItoaMem
import Derived.Lib.IndexLaws
import Derived.Handy
import Derived.WalkSpells
import Derived.WalkLawsBesides
namespace Go.Proofs.YtekcdokgpjmbgaaDoor.Na
set_option linter.unusedVariables false
open Go.RowKit Go.Shelf Go.Sort Go.Lib Go.Proofs.YtekcdokgpjmbgaaDoorW.PrintWords Go.Proofs.YtekcdokgpjmbgaaDoor.Laid
theorem drawn_same {w w' : World} (h : w' = w) : Drawn0 w w' := ⟨0, h⟩
theorem grow_below {w : World} (k : Nat) (os : Array Obj) : Below w.heap.size w (grow (w.drewN k) os) := by
  refine ⟨rfl, rfl, rfl, ?_, fun i hi => ?_⟩
  · show w.heap.size ≤ ((w.drewN k).heap ++ os).size
    rw [World.heap_drewN, Array.size_append]; omega
  · show ((w.drewN k).heap ++ os)[i]? = _
    rw [World.heap_drewN, Array.getElem?_append_left (by omega)]
/-! ### strconv.FormatUint -/
set_option maxHeartbeats 6400000 in
set_option maxRecDepth 100000 in
theorem fu_inner (u : Nat) (hu64 : u < 18446744073709551616) (w : World) (htab : Lib.TabIs Tryd.prog w "internal/strconv.uint64pow10" .u64 Lib.pow10Tab) :
    Calls Tryd.prog 36 #[.int .u64 u, .int .i64 10] w fun e w' => e = .returned (.string ⟨(Lib.decDigits u).toArray⟩) ∧ Below w.heap.size w w' := by
  by_cases hs : u < 100
  · have h0 : decide ((u : Int) < 100) = true := by simp; omega
    clear htab
    go_enter Tryd.func36, Tryd.ntmps36
    go_wp2_with (go_at_call 46; refine (Tryd.internal_strconv_small u hs _).mono ?_; rintro e w' ⟨rfl, rfl⟩)
    go_ret
    exact ⟨rfl, Below.refl _ _⟩
  · have h0 : decide ((u : Int) < 100) = false := by simp; omega
    have hu1 : 1 ≤ u := by omega
    have hnd20 : Lib.nDigits u ≤ 20 := by have := Lib.numDigits_eq u hu1 hu64; split at this <;> omega
    have hal : Tryd.prog.arrayLen 69 = 24 := by kernel_rfl
    have hsl2 : ∀ W, (Instr.sliceAt 69 (.pointer (some ⟨w.heap.size, 0, none⟩)) none (some (.int .i64 (Lib.nDigits u : Int))) none).run Tryd.prog W = .ok (.slice (some ⟨w.heap.size, 0, none⟩) (Lib.nDigits u) 24) W := fun W => by
      rw [run_sliceAt_array_h W 69 ⟨w.heap.size, 0, none⟩ (by simp [Program.arrayLen, Program.elem, Tryd.underlying69]) .i64 (Lib.nDigits u : Int) (by omega) (by rw [hal]; omega)]
      go_simp
    have hH0 : Holds (fun (b : UInt8) => Value.int .u8 (b.toNat : Int)) (w.alloc (.cells Lib.zeros24 69)) w.heap.size 0 (Array.replicate (Lib.nDigits u) 0) := by
      intro j hj
      have hj' : j < Lib.nDigits u := by simpa using hj
      refine ⟨?_, World.frozen?_alloc_new _ _ _ _⟩
      rw [World.cell?_alloc_new, zeros24_at _ (by omega), getElem!_pos _ j hj]
      simp
    have hfmt := Tryd.internal_strconv_formatBase10 w.heap.size 0 24 u (Array.replicate (Lib.nDigits u) 0) (w.alloc (.cells Lib.zeros24 69)) hH0 (by rw [Array.size_replicate]; exact Lib.lt_pow_nDigits u) hu64 (by rw [Array.size_replicate]; omega)
    rw [Array.size_replicate] at hfmt
    have HH0 := Lib.hid hH0
    clear hH0 hal
    go_enter Tryd.func36, Tryd.ntmps36
    go_wp2_with (first | (go_at_call 47; refine (Tryd.internal_strconv_numDigits u hu1 hu64 _ (Lib.tabIs_alloc htab _)).mono ?_; rintro e w' ⟨rfl, rfl⟩))
    refine hfmt.mono ?_
    rintro e w' ⟨rfl, k, v', dk, rfl, hF⟩
    have hcv : (convert 72 9 (.slice (some ⟨w.heap.size, 0, none⟩) (Lib.nDigits u) 24)).run Tryd.prog ((putRow (fun (b : UInt8) => Value.int .u8 (b.toNat : Int)) (w.alloc (.cells Lib.zeros24 69)) w.heap.size 0 dk).drewN k) = .ok (.string ⟨(Lib.decDigits u).toArray⟩) ((putRow (fun (b : UInt8) => Value.int .u8 (b.toNat : Int)) (w.alloc (.cells Lib.zeros24 69)) w.heap.size 0 dk).drewN k) := by
      have h := run_convert_bytes_back (P := Tryd.prog) ((putRow (fun (b : UInt8) => Value.int .u8 (b.toNat : Int)) (w.alloc (.cells Lib.zeros24 69)) w.heap.size 0 dk).drewN k) 72 9 5 ⟨w.heap.size, 0, none⟩ 24 (Lib.decDigits u) Tryd.underlying72 Tryd.underlying5 Tryd.underlying9 (fun j hj => by
        rw [Lib.row_is_numeral hF j hj, Lib.add_plain, World.cell?_drewN]
        exact cell?_putRow (fun (b : UInt8) => Value.int .u8 (b.toNat : Int)) _ w.heap.size 0 _ dk HH0.out (by rw [hF.size, Array.size_replicate]) j (by rw [hF.size]; rw [Lib.decDigits_length] at hj; exact hj))
      rw [Lib.decDigits_length] at h
      exact h
    go_wp2
    go_ret
    refine ⟨rfl, ?_⟩
    rw [alloc_eq_grow]
    obtain ⟨os', _, e⟩ := putRow_grow_new (fun (b : UInt8) => Value.int .u8 (b.toNat : Int)) w #[.cells Lib.zeros24 69] w.heap.size 0 dk (Nat.le_refl _)
    rw [e]
    exact grow_below k os'
def fu.f (a0 a1 : Int) : Option ByteArray := if (0 ≤ a0 ∧ a0 < 18446744073709551616) ∧ a1 = 10 then some ⟨(Lib.decDigits a0.toNat).toArray⟩ else none
theorem fu.calls (a0 a1 : Int) (r : ByteArray) (w : World) (h : fu.f a0 a1 = some r) (hL_ : Laid w) :
    Calls Tryd.prog 28 #[.int .u64 a0, .int .i64 a1] w fun e w' => e = .returned (.string r) ∧ Below w.heap.size w w' := by
  unfold fu.f at h
  split at h
  · rename_i hb
    injection h with h
    subst h
    obtain ⟨⟨h0, h1⟩, rfl⟩ := hb
    obtain ⟨u, rfl⟩ : ∃ u : Nat, a0 = u := ⟨a0.toNat, by omega⟩
    have hI := fu_inner u (by omega) w hL_.1
    clear hL_
    go_enter Tryd.func28, Tryd.ntmps28
    go_wp2_with (go_at_call 36; refine hI.mono ?_; rintro e w' ⟨rfl, hb⟩)
    go_ret
    exact ⟨rfl, hb⟩
  · cases h
/-! ### strconv.FormatInt -/
def fi.f (a0 a1 : Int) : Option ByteArray := if (-9223372036854775808 ≤ a0 ∧ a0 ≤ 9223372036854775807) ∧ a1 = 10 then some ⟨(Lib.itoa a0).toArray⟩ else none
theorem fi.calls (a0 a1 : Int) (r : ByteArray) (w : World) (h : fi.f a0 a1 = some r) (hL_ : Laid w) :
    Calls Tryd.prog 23 #[.int .i64 a0, .int .i64 a1] w fun e w' => e = .returned (.string r) ∧ Below w.heap.size w w' := by
  unfold fi.f at h
  split at h
  · rename_i hb
    injection h with h
    subst h
    obtain ⟨⟨h0, h1⟩, rfl⟩ := hb
    refine (Tryd.strconv_FormatInt_10 a0 h0 h1 w hL_.1).mono ?_
    rintro e w' ⟨rfl, k, os, rfl⟩
    exact ⟨rfl, grow_below k os⟩
  · cases h
/-! ### strings.TrimRight, of noughts -/
def tr.f (a0 a1 : ByteArray) : Option ByteArray := if a0.size ≤ 9223372036854775807 ∧ a1.data = #[48] then some ⟨(Lib.trimRightB a0.data.toList 48).toArray⟩ else none
theorem tr.calls (a0 a1 : ByteArray) (r : ByteArray) (w : World) (h : tr.f a0 a1 = some r) :
    Calls Tryd.prog 29 #[.string a0, .string a1] w fun e w' => e = .returned (.string r) ∧ Drawn0 w w' := by
  unfold tr.f at h
  split at h
  · rename_i hb
    injection h with h
    subst h
    obtain ⟨h0, h1⟩ := hb
    obtain ⟨d⟩ := a1
    subst h1
    exact (Tryd.strings_TrimRight_one a0 48 (by decide) w h0).mono fun _ _ h => ⟨h.1, drawn_same h.2⟩
  · cases h
/-! ### strconv.ParseUint, ParseInt: of numerals -/
def pu.f (a0 : ByteArray) (a1 a2 : Int) : Option (Int × Option Int) := if a0.size ≤ 9223372036854775806 ∧ a1 = 10 ∧ a2 = 64 then (match Lib.parseUintB 64 a0.data.toList with | .ok u => some ((u : Int), none) | _ => none) else none
theorem pu.calls (a0 : ByteArray) (a1 a2 : Int) (r1 : Int) (r2 : Option Int) (w : World) (h : pu.f a0 a1 a2 = some (r1, r2)) :
    Calls Tryd.prog 26 #[.string a0, .int .i64 a1, .int .i64 a2] w fun e w' => e = .returned (.tuple #[.int .u64 r1, .nilIface]) ∧ Below w.heap.size w w' := by
  unfold pu.f at h
  split at h
  · rename_i hb
    obtain ⟨h0, rfl, rfl⟩ := hb
    split at h
    · rename_i u hu
      injection h with h
      injection h with h1 h2
      subst h1
      refine (Tryd.strconv_ParseUint_10_at64_ok a0 h0 u hu w).mono ?_
      rintro e w' ⟨rfl, hw⟩
      refine ⟨rfl, ?_⟩
      rcases hw with rfl | rfl
      · exact Below.refl _ _
      · exact Lib.bytesWorld_below w 5 a0
    · cases h
  · cases h
theorem pu_none {a0 : ByteArray} {a1 a2 x q : Int} (h : pu.f a0 a1 a2 = some (x, some q)) : False := by
  unfold pu.f at h
  split at h
  · split at h
    · injection h with h
      injection h with h1 h2
      cases h2
    · cases h
  · cases h
def pi.f (a0 : ByteArray) (a1 a2 : Int) : Option (Int × Option Int) := if a0.size ≤ 9223372036854775806 ∧ a1 = 10 ∧ a2 = 64 then (match Lib.parseIntB 64 a0.data.toList with | .ok u => some (u, none) | _ => none) else none
theorem pi.calls (a0 : ByteArray) (a1 a2 : Int) (r1 : Int) (r2 : Option Int) (w : World) (h : pi.f a0 a1 a2 = some (r1, r2)) :
    Calls Tryd.prog 22 #[.string a0, .int .i64 a1, .int .i64 a2] w fun e w' => e = .returned (.tuple #[.int .i64 r1, .nilIface]) ∧ Below w.heap.size w w' := by
  unfold pi.f at h
  split at h
  · rename_i hb
    obtain ⟨h0, rfl, rfl⟩ := hb
    split at h
    · rename_i u hu
      injection h with h
      injection h with h1 h2
      subst h1
      refine (Tryd.strconv_ParseInt_10_at64_ok a0 h0 u hu w).mono ?_
      rintro e w' ⟨rfl, hw⟩
      refine ⟨rfl, ?_⟩
      rcases hw with rfl | ⟨t, rfl⟩
      · exact Below.refl _ _
      · exact Lib.bytesWorld_below w 5 t
    · cases h
  · cases h
/-! ### strings.IndexByte -/
def ib.f (a0 : ByteArray) (a1 : Int) : Option Int := some (Lib.indexByte a0.data.toList a1.toNat.toUInt8)
theorem ib.calls (a0 : ByteArray) (a1 : Int) (r : Int) (w : World) (h : ib.f a0 a1 = some r) :
    Calls Tryd.prog 20 #[.string a0, .int .u8 a1] w fun e w' => e = .returned (.int .i64 r) ∧ Drawn0 w w' := by
  injection h with h
  subst h
  exact (Tryd.strings_IndexByte a0 a1 w).mono fun _ _ h => ⟨h.1, drawn_same h.2⟩
/-! ### strings.Cut at one byte -/
def cutF (s : ByteArray) (c : UInt8) : ByteArray × ByteArray × Bool :=
  if 0 ≤ Lib.indexByte s.data.toList c then (s.extract 0 (Lib.indexByte s.data.toList c).toNat, s.extract (Lib.indexByte s.data.toList c + 1).toNat s.size, true) else (s, ⟨#[]⟩, false)
theorem cut_inner (s : ByteArray) (c : UInt8) (w : World) (hs : s.size ≤ 9223372036854775806) :
    Calls Tryd.prog 34 #[.string s, .string ⟨#[c]⟩] w fun e w' => e = .returned (.tuple #[.string (cutF s c).1, .string (cutF s c).2.1, .bool (cutF s c).2.2]) ∧ Drawn0 w w' := by
  have hi := Lib.indexByte_ge s.data.toList c
  have hI := Tryd.stringslite_Index_one s c w
  unfold cutF
  obtain ⟨i, hie⟩ : ∃ i, Lib.indexByte s.data.toList c = i := ⟨_, rfl⟩
  rw [hie] at hi hI ⊢
  by_cases h0 : 0 ≤ i
  · obtain ⟨k, rfl⟩ : ∃ k : Nat, i = k := ⟨i.toNat, by omega⟩
    have hk := (Lib.indexByte_some hie).1
    have hlt := (List.getElem?_eq_some_iff.1 hk).1
    rw [Array.length_toList, ByteArray.size_data] at hlt
    have e1 : ((k : Int) + 1).toNat = k + 1 := by omega
    rw [if_pos h0, Int.toNat_natCast, e1]
    clear e1
    clear hk hie
    go_enter Tryd.func34, Tryd.ntmps34
    go_wp2_with (go_at_call 50; refine hI.mono ?_; rintro e w' ⟨rfl, rfl⟩)
    have l1 : (k : Int) ≤ (s.size : Int) := by omega
    have l2 : ((k + 1 : Nat) : Int) ≤ (s.size : Int) := by omega
    go_quiet (fail)
    go_wp2
    go_ret3
    exact ⟨rfl, ⟨nq, rfl⟩⟩
  · rw [if_neg h0]
    clear hie
    go_enter Tryd.func34, Tryd.ntmps34
    go_wp2_with (go_at_call 50; refine hI.mono ?_; rintro e w' ⟨rfl, rfl⟩)
    go_ret3
    exact ⟨rfl, ⟨0, rfl⟩⟩
def cut.f (a0 a1 : ByteArray) : Option (ByteArray × ByteArray × Bool) := if a0.size ≤ 9223372036854775806 ∧ a1.data = #[46] then some (cutF a0 46) else none
theorem cut.calls (a0 a1 : ByteArray) (r1 r2 : ByteArray) (r3 : Bool) (w : World) (h : cut.f a0 a1 = some (r1, r2, r3)) :
    Calls Tryd.prog 24 #[.string a0, .string a1] w fun e w' => e = .returned (.tuple #[.string r1, .string r2, .bool r3]) ∧ Drawn0 w w' := by
  unfold cut.f at h
  split at h
  · rename_i hb
    obtain ⟨h0, h1⟩ := hb
    obtain ⟨d⟩ := a1
    subst h1
    injection h with h
    have hI := cut_inner a0 46 w h0
    rw [h] at hI
    clear h
    go_enter Tryd.func24, Tryd.ntmps24
    go_wp2_with (go_at_call 34; refine hI.mono ?_; rintro e w' ⟨rfl, hd⟩)
    go_ret3
    exact ⟨rfl, hd⟩
  · cases h
end Go.Proofs.YtekcdokgpjmbgaaDoor.Na

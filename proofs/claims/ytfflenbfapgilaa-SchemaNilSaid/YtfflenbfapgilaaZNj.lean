/- Texts laid as one by shake.py, cut to what the claim needs: Blobs. (Names that begin with W and the print's groups (G..x, G..z): laid by the kit's print, cut.) -/
import Derived.Test.YtfflenbfapgilaaZNe
import Derived.Test.YtfflenbfapgilaaZNg
import Derived.Test.YtfflenbfapgilaaZNi
import Derived.Lib.Bytes
set_option linter.unusedVariables false
set_option linter.unusedSimpArgs false
namespace Go.Proofs.Ytfflenbfapgilaa.GVB
open Go.RowKit Go.Proofs.YtfflenbfapgilaaW.PrintWords
theorem w7 (i : Nat) (h : i ≤ 9) : wrap64 (7 * (i : Int)) = ((7 * i : Nat) : Int) := by rw [w64 _ (by omega) (by omega)]; omega
end Go.Proofs.Ytfflenbfapgilaa.GVB
namespace Go.Proofs.Ytfflenbfapgilaa.GVB
open Go.RowKit Go.Proofs.YtfflenbfapgilaaW.PrintWords
end Go.Proofs.Ytfflenbfapgilaa.GVB
namespace Go.Proofs.Ytfflenbfapgilaa
open Go.RowKit Go.Proofs.YtfflenbfapgilaaW.PrintWords
def blob (s : ByteArray) : List Int := ints (vb s.size) ++ bytesOf s
def blobs (ts : List ByteArray) : List Int := ts.flatMap blob
theorem blobs_step (ts : List ByteArray) (i : Nat) (h : i < ts.length) : blobs (ts.take (i + 1)) = blobs (ts.take i) ++ blob ts[i] := by
 unfold blobs
 rw [List.take_succ_eq_append_getElem h, List.flatMap_append]
 show _ ++ (blob ts[i] ++ []) = _
 rw [List.append_nil]
theorem blobs_cut (ts : List ByteArray) (i : Nat) (h : i < ts.length) : blobs ts = blobs (ts.take i) ++ (blob ts[i] ++ blobs (ts.drop (i + 1))) := by
 unfold blobs
 conv => lhs; rw [← List.take_append_drop i ts, List.drop_eq_getElem_cons h]
 rw [List.flatMap_append, List.flatMap_cons]
theorem blob_len (s : ByteArray) : (blob s).length = (vb s.size).length + s.size := by
 unfold blob
 rw [List.length_append, bytesOf_length]; simp [ints]
set_option maxHeartbeats 2000000 in
set_option maxRecDepth 100000 in
theorem list_any (A : Option Addr) (c : Nat) (l : List Int) (B : Option Addr) (cb : Nat) (ts : List ByteArray) (w : World) (hr : Kd.C (Kd.int .u8) w A l.length l) (hc : l.length ≤ c) (hs : Kd.C Kd.string w B ts.length ts) (hsc : ts.length ≤ cb)
  (hl : l.length + (blobs ts).length ≤ 140737488355000) :
  Calls Try.prog 85 #[.slice A l.length c, .slice B ts.length cb] w fun e w' => ∃ v : Value, e = .returned v ∧ Kd.R (Kd.int .u8) 5 w' w.heap.size (fun _ => True) v (l ++ blobs ts) ∧ Below w.heap.size w w' := by
 have HC := Lib.hid hr
 have HS := Lib.hid hs
 have HL := Lib.hid hl
 have htm : ts.length ≤ 9223372036854775807 := hs.2.1
 clear hr hs hl
 go_enter Try.func85, Try.ntmps85
 go_wp2_with fail
 refine (clone_any A c l _ HC.out hc (by have := HL.out; omega)).mono ?_
 rintro e w1 ⟨v1, rfl, ho1, hb1⟩
 have HO1 := Lib.hid ho1
 clear ho1
 go_wp2_with fail
 go_loopw [5, 12] (fun u5 u12 wr => ∃ (i : Nat), i ≤ ts.length ∧ u12 = .int .i64 i ∧ Kd.R (Kd.int .u8) 5 wr w.heap.size (fun _ => True) u5 (l ++ blobs (ts.take i)) ∧ Below w.heap.size w wr) (fun _ v _ => ts.length - (intOf v).toNat)
 case atStart => exact ⟨0, by omega, rfl, by simpa [blobs] using HO1.out, hb1⟩
 case round =>
  obtain ⟨i, hi, rfl, ho, hbl⟩ := hrel
  by_cases hlt : i < ts.length
  ·have hcell := Kd.at_string (Kd.C_below HS.out hbl) (i : Int) (by omega) (by omega)
   obtain ⟨ad, rfl, hcell⟩ := hcell
   rw [Int.toNat_natCast] at hcell
   have hbc := congrArg List.length (blobs_cut ts i hlt)
   have hbs := blobs_step ts i hlt
   obtain ⟨s, hsd⟩ : ∃ s, ts[i] = s := ⟨_, rfl⟩
   have hz : rdOf ByteArray.empty ts (i : Int) = s := by simp [rdOf, hlt, hsd]
   rw [hz] at hcell
   rw [hsd] at hbc hbs
   obtain ⟨xs, HXS⟩ : ∃ xs, Hid (l ++ blobs (ts.take i) = xs) := ⟨_, rfl⟩
   have hbound : xs.length + (vb s.size).length + s.size ≤ 140737488355000 := by
    rw [← HXS.out, List.length_append]
    rw [List.length_append, List.length_append, blob_len] at hbc
    have := HL.out
    omega
   rw [HXS.out] at ho
   have HB := Lib.hid hbound
   have hm1 : s.size ≤ 140737488355000 := by omega
   have hm2 : s.size < 18446744073709551616 := by omega
   have hm3 : IntKind.u64.wrap (s.size : Int) = (s.size : Int) := by rw [IntKind.wrap_u64]; omega
   obtain ⟨A5, c5, rfl⟩ := Kd.R_slice ho
   have HO := Lib.hid (Kd.R_reads' ho)
   have HST := Lib.hid hbs
   clear ho hbc hbs hbound hz
   go_wp2_with (fail)
   refine (put_any A5 c5 xs s.size _ HO.out.2.2 HO.out.2.1 (by have := HB.out; omega) hm2).mono ?_
   rintro e w2 ⟨v2, rfl, ho2, hb2⟩
   have HO2 := Lib.hid (Kd.R_lower ho2 hbl.size)
   have hb3 := hbl.trans (hb2.mono hbl.size)
   clear ho2
   go_wp2_with (at_builtin; refine Halt.mk ?_)
   refine Halt.of ?_
   refine print_append_str (w0 := w) w.heap.size rfl (.tmp 20) (.tmp 21) 22 9 5 rfl Try.underlying22 Try.underlying9 info_u8 v2 (xs ++ ints (vb s.size)) s rfl rfl (Kd.own_of_R HO2.out) hb3 hb3.size (by have := HB.out; rw [List.length_append, show (ints (vb s.size)).length = (vb s.size).length by simp [ints]]; omega) ?_
   intro v3 w3 hown hb4 hg
   have ho3 : Kd.R (Kd.int .u8) 5 w3 w.heap.size (fun _ => True) v3 (xs ++ ints (vb s.size) ++ bytesOf s) := Kd.R_of_own hown (fun _ _ => trivial)
   have HO3 := Lib.hid ho3
   clear ho3 hown hg
   go_wp2
   go_roundw
   case rel => exact ⟨i + 1, by omega, by go_num, by rw [HST.out, blob, ← List.append_assoc, ← List.append_assoc, HXS.out]; exact HO3.out, hb4⟩
   case measure => simp [intOf]; omega
  ·obtain rfl : i = ts.length := by omega
   rw [List.take_of_length_le (Nat.le_refl _)] at ho
   go_wp2_with fail
   go_ret
   exact ⟨_, rfl, ho, hbl⟩
attribute [local go_sem] Go.Proofs.YtfflenbfapgilaaW.PrintMore.max2_int
section
open Go.Proofs.Ytfflenbfapgilaa.GVB
variable (A : Option Addr) (c : Nat) (l : List Int) (lim : Int) (w : World)
set_option maxHeartbeats 1000000
end
end Go.Proofs.Ytfflenbfapgilaa
namespace Go.Proofs.Ytfflenbfapgilaa
open Go.RowKit Go.Proofs.YtfflenbfapgilaaW.PrintWords
section
open Go.Proofs.Ytfflenbfapgilaa.GVB
variable (l : List Int) (lim : Int) (w : World)
set_option maxHeartbeats 1000000
end
theorem blobs_one (s : ByteArray) : blobs [s] = blob s := by
 show blob s ++ [] = _
 rw [List.append_nil]
theorem C_block_str (W : World) (b : Nat) (e : TypeId) (fr : Nat × Nat) (xs : List ByteArray) (h : W.heap[b]? = some (.cells (xs.map Value.string).toArray e fr)) (hx : xs.length ≤ 9223372036854775807) :
  Kd.C Kd.string W (some ⟨b, 0, none⟩) xs.length xs := by
 refine ⟨rfl, hx, fun _ => ⟨_, rfl, fun j p hj => ⟨[.string p], rfl, rfl, fun i u hu => ?_⟩⟩⟩
 match i with
 | 0 =>
  have e0 : (⟨b, 0, none⟩ : Addr).add (j * Kd.string.sz + 0) = ⟨b, j, none⟩ := by simp [Addr.add, Kd.string, Kd.scalar]; omega
  rw [e0]
  simp only [World.cell?, h, Option.isSome_none, Bool.false_eq_true, if_false]
  simp only [List.getElem?_toArray, List.getElem?_map, hj, Option.map_some]
  simpa using hu
 | i + 1 => simp at hu
set_option maxHeartbeats 1000000 in
theorem bput_any (A : Option Addr) (c : Nat) (l : List Int) (s : ByteArray) (w : World) (hr : Kd.C (Kd.int .u8) w A l.length l) (hc : l.length ≤ c) (hl : l.length + (blob s).length ≤ 140737488355000) :
  Calls Try.prog 55 #[.slice A l.length c, .string s] w fun e w' => ∃ v : Value, e = .returned v ∧ Kd.R (Kd.int .u8) 5 w' w.heap.size (fun _ => True) v (l ++ blob s) ∧ Below w.heap.size w w' := by
 have HC := Lib.hid hr
 have HL := Lib.hid hc
 have HZ := Lib.hid hl
 clear hr hc hl
 go_enter Try.func55, Try.ntmps55
 go_wp2_with fail
 have hb0 := (Below.refl w.heap.size w).alloc (Nat.le_refl _) (.cells #[.string s] 9)
 have hS := C_block_str (w.alloc (.cells #[.string s] 9)) w.heap.size 9 (0, 0) [s] (heap_new _ _) (by simp)
 refine (list_any A c l (some ⟨w.heap.size, 0, none⟩) 1 [s] _ (Kd.C_below HC.out hb0) HL.out hS (Nat.le_refl _) (by rw [blobs_one]; exact HZ.out)).mono ?_
 rintro e w1 ⟨v, rfl, ho, hb1⟩
 rw [blobs_one] at ho
 have HO := Lib.hid (Kd.R_lower ho hb0.size)
 have hb2 := hb0.trans (hb1.mono hb0.size)
 clear ho hb0 hb1 hS
 go_wp2_with fail
 go_ret
 exact ⟨_, rfl, HO.out, hb2⟩
end Go.Proofs.Ytfflenbfapgilaa

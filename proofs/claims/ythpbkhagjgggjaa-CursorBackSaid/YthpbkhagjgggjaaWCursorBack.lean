/- Texts, and numbers, that are laid with how many they are ahead are taken as they were: the law CursorBack returns true, and writes nothing that was there (up to 30 of each, of 60 bytes). -/
import Derived.Test.YthpbkhagjgggjaaCuY
import Derived.Test.YthpbkhagjgggjaaDeep
set_option linter.unusedVariables false
set_option linter.unusedSimpArgs false
namespace Go.Proofs.Ythpbkhagjgggjaa
open Go.RowKit Go.Proofs.Ythpbkhagjgggjaa.GVB Go.Proofs.YthpbkhagjgggjaaW.PrintWords

set_option maxHeartbeats 1000000 in
set_option maxRecDepth 100000 in
theorem rlist_any (B : Option Addr) (cb : Nat) (ts : List ByteArray) (w : World) (hs : Kd.C Kd.string w B ts.length ts) (hsc : ts.length ≤ cb) (hsz : ∀ s ∈ ts, s.size ≤ 1000000000) (hl : (blobs ts).length ≤ 140737488355000) :
    Calls Try.prog 16 #[.slice B ts.length cb] w fun e w' => e = .returned (.string (strOfNums (blobs ts))) ∧ Below w.heap.size w w' := by
  have HS := Lib.hid hs
  have HL := Lib.hid hl
  have HZ := Lib.hid hsz
  have htm : ts.length ≤ 9223372036854775807 := hs.2.1
  clear hs hl hsz
  go_enter Try.func16, Try.ntmps16
  go_wp2_with fail
  go_loopw [3, 4] (fun u3 u4 wr => ∃ (i : Nat), i ≤ ts.length ∧ u4 = .int .i64 i ∧ u3 = .string (strOfNums (blobs (ts.take i))) ∧ Below w.heap.size w wr) (fun _ v _ => ts.length - (intOf v).toNat)
  case atStart => exact ⟨0, by omega, rfl, rfl, Below.refl _ _⟩
  case round =>
    obtain ⟨i, hi, rfl, rfl, hbl⟩ := hrel
    by_cases hlt : i < ts.length
    · have hcell := Kd.at_string (Kd.C_below HS.out hbl) (i : Int) (by omega) (by omega)
      obtain ⟨ad, rfl, hcell⟩ := hcell
      rw [Int.toNat_natCast] at hcell
      have hbc := congrArg List.length (blobs_cut ts i hlt)
      have hbs := blobs_step ts i hlt
      have hsm := HZ.out ts[i] (List.getElem_mem _)
      obtain ⟨s, hsd⟩ : ∃ s, ts[i] = s := ⟨_, rfl⟩
      have hz : rdOf ByteArray.empty ts (i : Int) = s := by simp [rdOf, hlt, hsd]
      rw [hz] at hcell
      rw [hsd] at hbc hbs hsm
      have hbound : (strOfNums (blobs (ts.take i))).size + (strOfNums (blob s)).size ≤ 9223372036854775807 := by
        rw [strOfNums_size, strOfNums_size]
        rw [List.length_append, List.length_append] at hbc
        have := HL.out
        omega
      have HST := Lib.hid (congrArg strOfNums hbs)
      have HB := Lib.hid hbound
      have HSM := Lib.hid hsm
      clear hbc hbs hz hbound hsm
      go_wp2_with fail
      refine (rbput_any s HSM.out _).mono ?_
      rintro e w1 ⟨rfl, hb1⟩
      have hb2 := hbl.trans (hb1.mono hbl.size)
      have hbd := HB.out
      clear hb1 hbl
      go_wp2
      go_roundw
      case rel => exact ⟨i + 1, by omega, by go_num, by rw [HST.out, strOfNums_app], hb2⟩
      case measure => simp [intOf]; omega
    · obtain rfl : i = ts.length := by omega
      rw [List.take_of_length_le (Nat.le_refl _)]
      go_wp2_with fail
      go_ret
      exact ⟨rfl, hbl⟩
end Go.Proofs.Ythpbkhagjgggjaa
namespace Go.Proofs.Ythpbkhagjgggjaa
open Go.RowKit Go.Proofs.YthpbkhagjgggjaaW.PrintWords Go.Proofs.Ythpbkhagjgggjaa.GVB

theorem bytesOf_byte (s : ByteArray) : ∀ x ∈ bytesOf s, 0 ≤ x ∧ x < 256 := by
  intro x hx
  simp only [bytesOf, List.mem_map] at hx
  obtain ⟨y, _, rfl⟩ := hx
  have := y.toNat_lt
  omega
theorem blob_bytes (s : ByteArray) (hs : s.size < 18446744073709551616) : ∀ x ∈ blob s, 0 ≤ x ∧ x < 256 := by
  intro x hx
  rcases List.mem_append.1 hx with hx | hx
  · exact ints_bytes _ (vb_bytes _ hs) x hx
  · exact bytesOf_byte s x hx
theorem nats_app (u v : List Int) : nats (u ++ v) = nats u ++ nats v := by simp [nats]
/-- a blob behind others is read as it -/
theorem bget_blob (l : List Int) (s : ByteArray) (u : List Int) (lim : Int) (hs : s.size ≤ 1000000000) (hlim : (s.size : Int) ≤ lim) :
    bgetS (l ++ (blob s ++ u)) (l.length : Int) lim = (s, ((l.length + (blob s).length : Nat) : Int), 0) := by
  have hv := vb_len10 s.size (by omega)
  have hbl := blob_len s
  have hd : (nats (l ++ (blob s ++ u))).drop l.length = vb s.size ++ (nats (bytesOf s) ++ nats u) := by
    rw [nats_app, show l.length = (nats l).length by simp [nats], List.drop_left]
    unfold blob
    rw [nats_app, nats_app, nats_ints, List.append_assoc]
  have hg : getS (l ++ (blob s ++ u)) (l.length : Int) = ((s.size : Int), ((l.length + (vb s.size).length : Nat) : Int), 0) := by
    unfold getS
    rw [if_neg (by simp only [List.length_append]; omega), Int.toNat_natCast, hd, dec_vb0 _ _ (by omega)]
    rfl
  unfold bgetS
  rw [hg, if_neg (by simp), if_neg (by split <;> omega), if_neg (by simp only [List.length_append]; omega)]
  have e1 : (((l.length + (vb s.size).length : Nat) : Int)).toNat = (l ++ ints (vb s.size)).length := by rw [Int.toNat_natCast, List.length_append]; simp [ints]
  have e2 : ((s.size : Int)).toNat = (bytesOf s).length := by rw [Int.toNat_natCast, bytesOf_length]
  have e3 : ((l ++ (blob s ++ u)).take ((l ++ ints (vb s.size)).length + (bytesOf s).length)).drop (l ++ ints (vb s.size)).length = bytesOf s := by
    rw [show l ++ (blob s ++ u) = (l ++ ints (vb s.size)) ++ (bytesOf s ++ u) by unfold blob; simp only [List.append_assoc], List.take_append, List.take_of_length_le (by omega), List.drop_left, Nat.add_sub_cancel_left, List.take_left]
  simp only [e1, e2, e3, bytes_str]
  congr 2
  rw [hbl]
  omega
/-- a number's bytes behind others are read as it -/
theorem get_vb (p : List Int) (n : Nat) (u : List Int) (hn : n < 18446744073709551616) : getS (p ++ (ints (vb n) ++ u)) (p.length : Int) = ((n : Int), ((p.length + (vb n).length : Nat) : Int), 0) := by
  have hd : (nats (p ++ (ints (vb n) ++ u))).drop p.length = vb n ++ nats u := by
    rw [nats_app, nats_app, nats_ints, show p.length = (nats p).length by simp [nats], List.drop_left]
  have hv := vb_len10 n hn
  unfold getS
  rw [if_neg (by simp only [List.length_append]; omega), Int.toNat_natCast, hd, dec_vb0 _ _ (by omega)]
  unfold outS
  rw [if_pos rfl]
/-- The bytes of all. -/
def vbsI (ns : List Int) : List Int := (ns.map fun n => ints (vb n.toNat)).flatten
theorem vbsI_cons (n : Int) (ns : List Int) : vbsI (n :: ns) = ints (vb n.toNat) ++ vbsI ns := by simp [vbsI]
theorem vbsI_step (ns : List Int) (i : Nat) (h : i < ns.length) : vbsI (ns.take (i + 1)) = vbsI (ns.take i) ++ ints (vb ns[i].toNat) := by
  unfold vbsI
  rw [List.take_succ_eq_append_getElem h, List.map_append, List.flatten_append]; simp
theorem vbsI_bytes (ns : List Int) (h : ∀ n ∈ ns, 0 ≤ n ∧ n < 18446744073709551616) : ∀ x ∈ vbsI ns, 0 ≤ x ∧ x < 256 := by
  intro x hx
  obtain ⟨y, hy, hxy⟩ := List.mem_flatten.1 hx
  obtain ⟨n, hn, rfl⟩ := List.mem_map.1 hy
  exact ints_bytes _ (vb_bytes _ (by have := h n hn; omega)) x hxy
theorem vbsI_len : ∀ (ns : List Int), (∀ n ∈ ns, 0 ≤ n ∧ n < 18446744073709551616) → (vbsI ns).length ≤ 10 * ns.length := by
  intro ns
  induction ns with
  | nil => intro _; simp [vbsI]
  | cons n ns ih =>
    intro h
    have h1 := ih (fun x hx => h x (by simp [hx]))
    have h2 := vb_len10 n.toNat (by have := h n (by simp); omega)
    rw [vbsI_cons, List.length_append, List.length_cons, show (ints (vb n.toNat)).length = (vb n.toNat).length by simp [ints]]
    omega
theorem cuNum_vb (p : List Int) (n : Int) (u : List Int) (hn : 0 ≤ n ∧ n < 18446744073709551616) : cuNum (p ++ (ints (vb n.toNat) ++ u)) (p.length : Int) 0 = (n, (((p ++ ints (vb n.toNat)).length : Nat) : Int), 0) := by
  have h := get_vb p n.toNat u (by omega)
  unfold cuNum
  rw [h, if_neg (by simp), if_neg (by simp)]
  simp only [Prod.mk.injEq, and_true]
  exact ⟨by omega, by rw [List.length_append]; simp [ints]⟩
theorem numsL_all : ∀ (ns acc p : List Int), (∀ n ∈ ns, 0 ≤ n ∧ n < 18446744073709551616) → numsL (p ++ vbsI ns) ns.length acc (p.length : Int) = (acc ++ ns, (((p ++ vbsI ns).length : Nat) : Int), 0) := by
  intro ns
  induction ns with
  | nil => intro acc p _; simp [numsL, vbsI]
  | cons n ns ih =>
    intro acc p h
    have hc := cuNum_vb p n (vbsI ns) (h n (by simp))
    have := ih (acc ++ [n]) (p ++ ints (vb n.toNat)) (fun x hx => h x (by simp [hx]))
    rw [vbsI_cons, List.length_cons, numsL, hc, if_neg (by simp)]
    rw [List.append_assoc] at this
    rw [List.append_assoc] at this
    simpa using this
theorem vb_k (k : Nat) (h : k < 128) : ints (vb ((k : Int).toNat)) = [(k : Int)] := by rw [Int.toNat_natCast, vb_small k h]; rfl
theorem cuNums_all (ns : List Int) (hk : ns.length ≤ 30) (h : ∀ n ∈ ns, 0 ≤ n ∧ n < 18446744073709551616) : cuNums ((ns.length : Int) :: vbsI ns) 30 0 0 = (ns, ((((ns.length : Int) :: vbsI ns).length : Nat) : Int), 0) := by
  have h0 := cuNum_vb [] (ns.length : Int) (vbsI ns) (by omega)
  rw [vb_k ns.length (by omega)] at h0
  have h1 := numsL_all ns [] [(ns.length : Int)] h
  simp only [List.nil_append, List.length_nil, List.cons_append, List.singleton_append] at h0 h1
  unfold cuNums
  rw [show ((0 : Nat) : Int) = 0 from rfl] at h0
  rw [h0, if_neg (by unfold mx0; dsimp only; omega), if_neg (by simp)]
  dsimp only
  rw [Int.toNat_natCast]
  exact h1
theorem cuNums_end (l : List Int) : cuNums l 5 (l.length : Int) 0 = ([], (l.length : Int), 2) := by
  have h : cuNum l (l.length : Int) 0 = (0, (l.length : Int), 2) := by
    unfold cuNum
    rw [get_end, if_neg (by simp), if_pos (by simp)]
  unfold cuNums
  rw [h, if_neg (by unfold mx0; simp), if_pos (by simp)]
theorem cuText_blob (p : List Int) (s : ByteArray) (u : List Int) (lim : Int) (hs : s.size ≤ 1000000000) (hlim : (s.size : Int) ≤ lim) : cuText (p ++ (blob s ++ u)) lim (p.length : Int) 0 = (s, (((p ++ blob s).length : Nat) : Int), 0) := by
  have h := bget_blob p s u lim hs hlim
  unfold cuText
  rw [h, if_neg (by simp), if_neg (by simp)]
  simp only [Prod.mk.injEq, and_true, true_and]
  rw [List.length_append]
theorem blobs_cons' (s : ByteArray) (ts : List ByteArray) : blobs (s :: ts) = blob s ++ blobs ts := by simp [blobs]
theorem textsL_all (lim : Int) : ∀ (ts acc : List ByteArray) (p : List Int), (∀ s ∈ ts, s.size ≤ 1000000000 ∧ (s.size : Int) ≤ lim) → textsL (p ++ blobs ts) lim ts.length acc (p.length : Int) = (acc ++ ts, (((p ++ blobs ts).length : Nat) : Int), 0) := by
  intro ts
  induction ts with
  | nil => intro acc p _; simp [textsL, blobs]
  | cons s ts ih =>
    intro acc p h
    have hs := h s (by simp)
    have hc := cuText_blob p s (blobs ts) lim hs.1 hs.2
    have := ih (acc ++ [s]) (p ++ blob s) (fun x hx => h x (by simp [hx]))
    rw [blobs_cons', List.length_cons, textsL, hc, if_neg (by simp)]
    rw [List.append_assoc] at this
    rw [List.append_assoc] at this
    simpa using this
theorem cuTexts_all (ts : List ByteArray) (hk : ts.length ≤ 30) (h : ∀ s ∈ ts, s.size ≤ 60) : cuTexts ((ts.length : Int) :: blobs ts) 60 30 0 0 = (ts, ((((ts.length : Int) :: blobs ts).length : Nat) : Int), 0) := by
  have h0 := cuNum_vb [] (ts.length : Int) (blobs ts) (by omega)
  rw [vb_k ts.length (by omega)] at h0
  have h1 := textsL_all 60 ts [] [(ts.length : Int)] (fun s hs => by have := h s hs; omega)
  simp only [List.nil_append, List.length_nil, List.cons_append, List.singleton_append] at h0 h1
  unfold cuTexts
  rw [show ((0 : Nat) : Int) = 0 from rfl] at h0
  rw [h0, if_neg (by unfold mx0; dsimp only; omega), if_neg (by simp)]
  dsimp only
  rw [Int.toNat_natCast]
  exact h1
end Go.Proofs.Ythpbkhagjgggjaa
namespace Go.Proofs.Ythpbkhagjgggjaa
open Go.RowKit Go.Proofs.YthpbkhagjgggjaaW.PrintWords Go.Proofs.Ythpbkhagjgggjaa.GVB

set_option maxRecDepth 100000 in
set_option maxHeartbeats 4000000 in
theorem taken_any (A : Option Addr) (c : Nat) (ns : List Int) (w : World) (hC : Kd.C (Kd.int .u64) w A ns.length ns) (hc : ns.length ≤ c) (hk : ns.length ≤ 30) (hn : ∀ n ∈ ns, 0 ≤ n ∧ n < 18446744073709551616) :
    Calls Try.prog 23 #[.slice A ns.length c] w fun e w' => e = .returned (.bool true) ∧ Below w.heap.size w w' := by
  have HC := Lib.hid hC
  have HN := Lib.hid hn
  have hw8 : (ns.length : Int) % 256 = (ns.length : Int) := by omega
  clear hC hn
  obtain ⟨w1, hw1⟩ : ∃ w1, w.alloc (.cells #[.int .u8 (ns.length : Int)] 5) = w1 := ⟨_, rfl⟩
  have HR0 := Lib.hid (R_block .u8 w1 w.heap.size w.heap.size 5 [(ns.length : Int)] (fun _ => True) (hw1 ▸ heap_new _ _) (Nat.le_refl _) (by simp [maxLen]) trivial)
  have HB0 := Lib.hid (show Below w.heap.size w w1 by rw [← hw1]; exact (Below.refl _ _).alloc (Nat.le_refl _) _)
  go_enter Try.func23, Try.ntmps23
  go_wp2_with fail
  clear hw1 hw8
  go_loopw [3, 13] (fun u3 u13 wr => ∃ (i : Nat), i ≤ ns.length ∧ u13 = .int .i64 i ∧ Hid (Kd.R (Kd.int .u8) 5 wr w.heap.size (fun _ => True) u3 ((ns.length : Int) :: vbsI (ns.take i))) ∧ Hid (Below w.heap.size w wr)) (fun _ v _ => ns.length - (intOf v).toNat)
  case atStart => exact ⟨0, by omega, rfl, HR0, HB0⟩
  case round =>
    obtain ⟨i, hi, rfl, HR, HB⟩ := hrel
    by_cases hlt : i < ns.length
    · obtain ⟨ad, he, hcell⟩ := Kd.at_int (Kd.C_below HC.out HB.out) (i : Int) (by omega) (by omega)
      subst he
      rw [Int.toNat_natCast] at hcell
      have hnr := HN.out ns[i] (List.getElem_mem _)
      have hx : rd ns (i : Int) = ns[i] := by simp [rd, hlt]
      have hst := vbsI_step ns i hlt
      obtain ⟨m0, hm0⟩ : ∃ m : Nat, ns[i] = (m : Int) := ⟨ns[i].toNat, by omega⟩
      rw [hx, hm0] at hcell
      rw [hm0, Int.toNat_natCast] at hst
      have hm0l : m0 < 18446744073709551616 := by omega
      have HST := Lib.hid hst
      have HTL := Lib.hid (show ((ns.length : Int) :: vbsI (ns.take (i + 1))).length ≤ 1000 by have := vbsI_len (ns.take (i + 1)) (fun n hn => HN.out n (List.mem_of_mem_take hn)); rw [List.length_take] at this; rw [List.length_cons]; omega)
      clear hx hst hm0 hnr
      obtain ⟨A3, c3, rfl⟩ := Kd.R_slice HR.out
      go_wp2_with fail
      clear hcell
      go_loopw [3, 5] (fun u3 u5 wr => ∃ (m : Nat) (acc : List Int), u5 = .int .u64 m ∧ m < 18446744073709551616 ∧ Hid (acc ++ ints (vb m) = (ns.length : Int) :: vbsI (ns.take (i + 1))) ∧ Hid (Kd.R (Kd.int .u8) 5 wr w.heap.size (fun _ => True) u3 acc) ∧ Hid (Below w.heap.size w wr)) (fun _ v _ => (intOf v).toNat)
      case atStart => exact ⟨m0, _, rfl, hm0l, Lib.hid (by rw [HST.out]; rfl), HR, HB⟩
      case round =>
        obtain ⟨m, acc, rfl, hm, HE, HR, HB⟩ := hrel
        obtain ⟨A3, c3, rfl⟩ := Kd.R_slice HR.out
        by_cases hg : (128 : Int) ≤ (m : Int)
        · have d := decide_eq_true hg
          go_wp2_with (at_builtin; refine Halt.mk ?_)
          refine Halt.of ?_
          have hbx := HB.out.alloc HB.out.size (.cells #[.int .u8 ((m : Int) % 128 + 128)] 5)
          have hlen := congrArg List.length HE.out
          rw [List.length_append] at hlen
          have htl := HTL.out
          refine Kd.R_append_rows (Kd.int .u8) (w0 := w) w.heap.size rfl (.tmp 21) (.tmp 26) 25 5 (.int .u8 0) 1 rfl Try.underlying25 info_u8 rfl (by decide) (by omega) _ acc [(m : Int) % 128 + 128] _ _ _ (fun _ => True) (fun _ => False) rfl rfl (Kd.R_below HR.out ((Below.refl _ _).alloc (Nat.le_refl _) _)) (C_block .u8 (wr.alloc (.cells #[.int .u8 ((m : Int) % 128 + 128)] 5)) wr.heap.size 5 (0, 0) [(m : Int) % 128 + 128] (heap_new _ _) (by simp)) (fun _ _ h => h) (fun _ h => h.elim) (fun _ _ => trivial) hbx hbx.size (by omega) ?_
          intro v1 w2 HO1 hb1 _ _
          have HO1 := Lib.hid HO1
          have HB1 := Lib.hid hb1
          clear hbx hlen htl hb1
          go_wp2
          go_roundw
          case rel => exact ⟨m / 128, acc ++ [(m : Int) % 128 + 128], by simp, by omega, Lib.hid (by rw [← HE.out, vb_great m (by omega)]; simp [ints]), HO1, HB1⟩
          case measure => simp [intOf]; omega
        · have d := decide_eq_false hg
          go_wp2_with (at_builtin; refine Halt.mk ?_)
          refine Halt.of ?_
          have hbx := HB.out.alloc HB.out.size (.cells #[.int .u8 ((m : Int))] 5)
          have hlen := congrArg List.length HE.out
          rw [List.length_append] at hlen
          have htl := HTL.out
          refine Kd.R_append_rows (Kd.int .u8) (w0 := w) w.heap.size rfl (.tmp 28) (.tmp 31) 25 5 (.int .u8 0) 1 rfl Try.underlying25 info_u8 rfl (by decide) (by omega) _ acc [(m : Int)] _ _ _ (fun _ => True) (fun _ => False) rfl rfl (Kd.R_below HR.out ((Below.refl _ _).alloc (Nat.le_refl _) _)) (C_block .u8 (wr.alloc (.cells #[.int .u8 ((m : Int))] 5)) wr.heap.size 5 (0, 0) [(m : Int)] (heap_new _ _) (by simp)) (fun _ _ h => h) (fun _ h => h.elim) (fun _ _ => trivial) hbx hbx.size (by omega) ?_
          intro v1 w2 HO1 hb1 _ _
          have HO1 := Lib.hid HO1
          have HB1 := Lib.hid hb1
          clear hbx hlen htl hb1
          go_wp2
          go_roundw
          case rel => exact ⟨i + 1, by omega, by go_num, Lib.hid (by rw [← HE.out, vb_small m (by omega)]; exact HO1.out), HB1⟩
          case measure => simp [intOf]; omega
    · obtain rfl : i = ns.length := by omega
      have htk : ns.take ns.length = ns := List.take_length
      rw [htk] at HR
      have hlb := vbsI_len ns HN.out
      have hby : ∀ x ∈ (ns.length : Int) :: vbsI ns, 0 ≤ x ∧ x < 256 := by
        intro x hx
        rcases List.mem_cons.1 hx with rfl | hx
        · omega
        · exact vbsI_bytes ns HN.out x hx
      have hcu := cuNums_all ns hk HN.out
      have hbl : ((ns.length : Int) :: vbsI ns).length ≤ 1000 := by rw [List.length_cons]; omega
      obtain ⟨bs, hbs⟩ : ∃ bs, (ns.length : Int) :: vbsI ns = bs := ⟨_, rfl⟩
      rw [hbs] at HR hby hcu hbl
      clear hbs hlb htk
      obtain ⟨A3, c3, rfl⟩ := Kd.R_slice HR.out
      have hrr := Kd.R_reads' HR.out
      have HNW := Lib.hid (new_any A3 c3 bs 0 wr hrr.2.2 hrr.2.1 (by omega))
      have HBY := Lib.hid hby
      have HCU := Lib.hid hcu
      have hN0 : newAt bs 0 = 0 := by unfold newAt; rw [if_neg (by omega)]
      have hE0 : newE bs 0 = 0 := by unfold newE; rw [if_neg (by omega)]
      unfold NewPost at HNW
      rw [hN0, hE0] at HNW
      clear hrr hby hcu hN0 hE0
      go_wp2_with fail
      refine HNW.out.mono ?_
      rintro en w2 ⟨g, w0, rfl, hbw, hI, hB, _⟩
      have hN3 := numbers_any w0 w2 g bs 0 0 30 hI hB HBY.out (by omega) (by omega) (by omega)
      rw [HCU.out] at hN3
      unfold NumsPost at hN3
      have HN3 := Lib.hid hN3
      have hg : w.heap.size ≤ g := by obtain ⟨_, _, _, h, _⟩ := hI; have := hbw.size; have := HB.out.size; omega
      have HB2 := Lib.hid (And.intro (HB.out.trans ((hbw.trans (hB.mono hbw.size)).mono HB.out.size)) hg)
      clear hN3 hI hB hbw hg
      go_wp2_with fail
      refine HN3.out.mono ?_
      rintro en w3 ⟨v3, rfl, hR3, hI3, hg3, hB3⟩
      obtain ⟨A4, c4, rfl, hc4, hC4⟩ := Kd.R_reads hR3
      have hb3 := HB2.out.1.grown hg3 HB2.out.1.size (fun k hk => by cases hk; exact HB2.out.2)
      have HS := Lib.hid (tephraref04_SameNumbers.calls 1000001 _ _ ns _ _ ns true w3 hC4 hc4 (Kd.C_below HC.out hb3) hc (same_nums_f ns (by omega)))
      have HI3 := Lib.hid hI3
      have HB3 := Lib.hid hb3
      clear hR3 hI3 hg3 hB3 hC4 hc4 hb3
      go_wp2_with fail
      refine HS.out.mono ?_
      rintro en w4 ⟨rfl, hd4⟩
      have HI4 := Lib.hid (HI3.out.keep hd4.below)
      have HB4 := Lib.hid (HB3.out.trans (hd4.below.mono HB3.out.size))
      clear hd4
      go_wp2_with fail
      refine (err_any w0 w4 g bs _ _ HI4.out).mono ?_
      rintro en w5 ⟨rfl, rfl⟩
      have hsub : (bs.length : Int) - (bs.length : Int) = 0 := by omega
      go_wp2_with fail
      refine (left_any w0 w4 g bs _ _ HI4.out (by omega) (by omega)).mono ?_
      rintro en w6 ⟨rfl, hb6⟩
      have HB6 := Lib.hid (HB4.out.trans (hb6.mono HB4.out.size))
      clear hb6
      go_wp2_with fail
      go_ret
      exact ⟨rfl, HB6.out⟩
end Go.Proofs.Ythpbkhagjgggjaa
namespace Go.Proofs.Ythpbkhagjgggjaa.WCursorBack
open Go.RowKit Go.Proofs.YthpbkhagjgggjaaW.PrintWords Go.Proofs.Ythpbkhagjgggjaa.GVB

theorem bytesOf_str (l : List Int) (hb : ∀ x ∈ l, 0 ≤ x ∧ x < 256) : bytesOf (strOfNums l) = l := by
  unfold bytesOf
  rw [strOfNums_data, List.map_map]
  conv => rhs; rw [← List.map_id l]
  apply List.map_congr_left
  intro x hx
  have := hb x hx
  simp; omega
theorem blobs_bytes (ts : List ByteArray) (h : ∀ s ∈ ts, s.size ≤ 60) : ∀ x ∈ blobs ts, 0 ≤ x ∧ x < 256 := by
  intro x hx
  obtain ⟨s, hs, hx⟩ := List.mem_flatMap.1 hx
  exact blob_bytes s (by have := h s hs; omega) x hx
theorem blobs_short : ∀ (ts : List ByteArray), (∀ s ∈ ts, s.size ≤ 60) → (blobs ts).length ≤ 70 * ts.length := by
  intro ts
  induction ts with
  | nil => intro _; simp [blobs]
  | cons s ts ih =>
    intro h
    have h1 := ih (fun x hx => h x (by simp [hx]))
    have h2 := h s (by simp)
    have h3 := vb_len10 s.size (by omega)
    rw [blobs_cons', List.length_append, List.length_cons, blob_len]
    omega
set_option maxRecDepth 100000 in
set_option maxHeartbeats 4000000 in
theorem back_great (B A : Option Addr) (cb c : Nat) (ts : List ByteArray) (ns : List Int) (w : World) (hg : 30 < (ts.length : Int) ∨ ¬ 30 < (ts.length : Int) ∧ 30 < (ns.length : Int)) (h1 : ts.length ≤ 9223372036854775807) (h2 : ns.length ≤ 9223372036854775807) :
    Calls Try.prog 3 #[.slice B ts.length cb, .slice A ns.length c] w fun e w' => e = .returned (.bool true) ∧ Below w.heap.size w w' := by
  rcases hg with h | ⟨h, h'⟩
  · have d0 : decide (30 < (ts.length : Int)) = true := decide_eq_true h
    go_enter Try.func3, Try.ntmps3
    go_wp2_with (go_at_call 15; refine (fixed4_any _).mono ?_; rintro e w1 ⟨rfl, hb⟩)
    go_ret
    exact ⟨rfl, hb⟩
  · have d0 : decide (30 < (ts.length : Int)) = false := decide_eq_false h
    have d1 : decide (30 < (ns.length : Int)) = true := decide_eq_true h'
    go_enter Try.func3, Try.ntmps3
    go_wp2_with (go_at_call 15; refine (fixed4_any _).mono ?_; rintro e w1 ⟨rfl, hb⟩)
    go_ret
    exact ⟨rfl, hb⟩
set_option maxRecDepth 100000 in
set_option maxHeartbeats 4000000 in
theorem back_main (B A : Option Addr) (cb c : Nat) (ts : List ByteArray) (ns : List Int) (w : World) (hs : Kd.C Kd.string w B ts.length ts) (hsc : ts.length ≤ cb) (hle : ts.length ≤ 30) (hsz : ∀ s ∈ ts, s.size ≤ maxLen) (hC : Kd.C (Kd.int .u64) w A ns.length ns) (hc : ns.length ≤ c) (hk : ns.length ≤ 30) (hn : ∀ n ∈ ns, 0 ≤ n ∧ n < 18446744073709551616) :
    Calls Try.prog 3 #[.slice B ts.length cb, .slice A ns.length c] w fun e w' => e = .returned (.bool true) ∧ Below w.heap.size w w' := by
  have HS := Lib.hid hs
  have HM := Lib.hid (fun s h => by have := hsz s h; simp only [maxLen] at this; exact this : ∀ s ∈ ts, s.size ≤ 9223372036854775807)
  have HT := Lib.hid (fun (W : World) (h : Below w.heap.size w W) => taken_any A c ns W (Kd.C_below hC h) hc hk hn)
  clear hs hsz hC hn
  have d0 : decide (30 < (ts.length : Int)) = false := decide_eq_false (by omega)
  have d1 : decide (30 < (ns.length : Int)) = false := decide_eq_false (by omega)
  go_enter Try.func3, Try.ntmps3
  go_wp2_with fail
  go_loopw [21] (fun u21 wr => ∃ (i : Nat), i ≤ ts.length ∧ u21 = .int .i64 i ∧ (∀ s ∈ ts.take i, s.size ≤ 60) ∧ Below w.heap.size w wr) (fun v _ => ts.length - (intOf v).toNat)
  case atStart => exact ⟨0, by omega, rfl, by simp, Below.refl _ _⟩
  case round =>
    obtain ⟨i, hi, rfl, hsm, hbl⟩ := hrel
    by_cases hlt : i < ts.length
    · have hcell := Kd.at_string (Kd.C_below HS.out hbl) (i : Int) (by omega) (by omega)
      obtain ⟨ad, rfl, hcell⟩ := hcell
      rw [Int.toNat_natCast] at hcell
      have hsx := HM.out ts[i] (List.getElem_mem _)
      have hst : ts.take (i + 1) = ts.take i ++ [ts[i]] := List.take_succ_eq_append_getElem hlt
      obtain ⟨s, hsd⟩ : ∃ s, ts[i] = s := ⟨_, rfl⟩
      have hz : rdOf ByteArray.empty ts (i : Int) = s := by simp [rdOf, hlt, hsd]
      rw [hz] at hcell
      rw [hsd] at hsx hst
      have HST := Lib.hid hst
      have HSM := Lib.hid hsm
      clear hz hst hsm
      by_cases h100 : 60 < s.size
      · have b1 : decide (60 < (s.size : Int)) = true := decide_eq_true (by omega)
        go_wp2_with fail
        refine (fixed4_any _).mono ?_
        rintro e w1 ⟨rfl, hb1⟩
        go_wp2_with fail
        go_ret
        exact ⟨rfl, hbl.trans (hb1.mono hbl.size)⟩
      · have b1 : decide (60 < (s.size : Int)) = false := decide_eq_false (by omega)
        go_wp2
        go_roundw
        case rel =>
          refine ⟨i + 1, by omega, by go_num, ?_, hbl⟩
          rw [HST.out]
          intro u hu
          rcases List.mem_append.1 hu with hu | hu
          · exact HSM.out u hu
          · simp at hu; subst hu; omega
        case measure => simp [intOf]; omega
    · obtain rfl : i = ts.length := by omega
      rw [List.take_of_length_le (Nat.le_refl _)] at hsm
      have hbl3 := blobs_short ts hsm
      have HZ := Lib.hid (fun s h => by have := hsm s h; omega : ∀ s ∈ ts, s.size ≤ 1000000000)
      have HLB := Lib.hid (show (blobs ts).length ≤ 140737488355000 by omega)
      have hby : ∀ x ∈ (ts.length : Int) :: blobs ts, 0 ≤ x ∧ x < 256 := by
        intro x hx
        rcases List.mem_cons.1 hx with rfl | hx
        · omega
        · exact blobs_bytes ts hsm x hx
      have hcu := cuTexts_all ts hle hsm
      have hss : strOfNums ((ts.length : Int) :: blobs ts) = strOfNums [(ts.length : Int)] ++ strOfNums (blobs ts) := by rw [← strOfNums_app]; rfl
      have hbl4 : ((ts.length : Int) :: blobs ts).length ≤ 3000 := by rw [List.length_cons]; omega
      have HSZ := Lib.hid (show (strOfNums [(ts.length : Int)]).size + (strOfNums (blobs ts)).size ≤ 9223372036854775807 by rw [strOfNums_size, strOfNums_size]; show 1 + _ ≤ _; omega)
      obtain ⟨bs, hbs⟩ : ∃ bs, (ts.length : Int) :: blobs ts = bs := ⟨_, rfl⟩
      rw [hbs] at hby hcu hss hbl4
      have HBY := Lib.hid hby
      have HCU := Lib.hid hcu
      have HSR := Lib.hid hss.symm
      have HBL := Lib.hid hbl4
      clear hbs hby hcu hss hbl3 hbl4 hsm
      go_wp2_with fail
      refine region_calmA (n := 9) (byList [isV (.slice B ts.length cb), isV (.int .i64 (ts.length : Int)), isV (.int .u8 (ts.length : Int)), (isC (Kd.int .u8) [(ts.length : Int)]), isV (.string (strOfNums [(ts.length : Int)])), isV (.slice B ts.length cb), isV (.string (strOfNums (blobs ts))), isV (.string (strOfNums bs)), isV (.string (strOfNums bs))]) (by kernel_rfl) rfl (byList_lasts ?_) (by kernel_rfl) (by kernel_rfl) (show AllLt 9 _ from ?_) ?_
      · intro p hp
        simp only [List.mem_cons, List.not_mem_nil, or_false] at hp
        rcases hp with rfl | rfl | rfl | rfl | rfl | rfl | rfl | rfl | rfl <;> first | exact isV_lasts | exact isC_lasts
      · refine allLt_succ (allLt_succ (allLt_succ (allLt_succ (allLt_succ (allLt_succ (allLt_succ (allLt_succ (allLt_succ (allLt_zero _) ?_) ?_) ?_) ?_) ?_) ?_) ?_) ?_) ?_
        · refine StepOkA.run (o := ?o0) ?ho0 ?hg0 ?h0
          case ho0 => simp only [List.getElem?_toArray, List.getElem?_cons_succ, List.getElem?_cons_zero]; rfl
          case hg0 => rfl
          case h0 =>
          intro a W hS hB hd
          have e0 : a.tmps[0]? = some (.slice B ts.length cb) := hS.get rfl rfl
          refine wp_value (c := .slice B ts.length cb) ?_ rfl
          go_simp
        · refine StepOkA.run (o := ?o1) ?ho1 ?hg1 ?h1
          case ho1 => simp only [List.getElem?_toArray, List.getElem?_cons_succ, List.getElem?_cons_zero]; rfl
          case hg1 => rfl
          case h1 =>
          intro a W hS hB hd
          have e30 : a.tmps[30]? = some (.slice B ts.length cb) := (hd 0 rfl).bool rfl rfl rfl
          refine wp_value (c := .int .i64 (ts.length : Int)) ?_ rfl
          go_simp
        · refine StepOkA.run (o := ?o2) ?ho2 ?hg2 ?h2
          case ho2 => simp only [List.getElem?_toArray, List.getElem?_cons_succ, List.getElem?_cons_zero]; rfl
          case hg2 => rfl
          case h2 =>
          intro a W hS hB hd
          have e31 : a.tmps[31]? = some (.int .i64 (ts.length : Int)) := (hd 1 rfl).bool rfl rfl rfl
          refine wp_value (c := .int .u8 (ts.length : Int)) ?_ rfl
          have hw8 : IntKind.u8.wrap (ts.length : Int) = (ts.length : Int) := by rw [IntKind.wrap_u8]; omega
          have hw9 : (ts.length : Int) % 256 = (ts.length : Int) := by omega
          go_simp
        · refine StepOkA.run (o := ?o3) ?ho3 ?hg3 ?h3
          case ho3 => simp only [List.getElem?_toArray, List.getElem?_cons_succ, List.getElem?_cons_zero]; rfl
          case hg3 => rfl
          case h3 =>
          intro a W hS hB hd
          have e32 : a.tmps[32]? = some (.int .u8 (ts.length : Int)) := (hd 2 rfl).bool rfl rfl rfl
          refine wp_new (v := .slice (some ⟨W.heap.size, 0, none⟩) 1 1) (W' := W.alloc (.cells #[.int .u8 (ts.length : Int)] 5)) ?_ ⟨_, _, rfl, Nat.le_refl _, C_block .u8 _ W.heap.size 5 (0, 0) [(ts.length : Int)] (heap_new _ _) (by simp)⟩ ((Below.refl _ _).alloc (Nat.le_refl _) _)
          go_simp
        · refine StepOkA.run (o := ?o4) ?ho4 ?hg4 ?h4
          case ho4 => simp only [List.getElem?_toArray, List.getElem?_cons_succ, List.getElem?_cons_zero]; rfl
          case hg4 => rfl
          case h4 =>
          intro a W hS hB hd
          obtain ⟨u33, e33, p33⟩ := (hd 3 rfl).get rfl rfl
          replace p33 : (isC (Kd.int .u8) [(ts.length : Int)]) u33 W := p33
          obtain ⟨A33, c33, rfl, hl33, hC33⟩ := p33
          refine wp_value (c := .string (strOfNums [(ts.length : Int)])) ?_ rfl
          have hcv := Kd.C_string (P := Try.prog) (w := W) (src := 25) (dst := 9) (e := 5) (A := A33) (n := 1) (c := c33) (xs := [(ts.length : Int)]) Try.underlying25 Try.underlying5 Try.underlying9 hC33
          go_simp
        · refine StepOkA.run (o := ?o5) ?ho5 ?hg5 ?h5
          case ho5 => simp only [List.getElem?_toArray, List.getElem?_cons_succ, List.getElem?_cons_zero]; rfl
          case hg5 => rfl
          case h5 =>
          intro a W hS hB hd
          have e0 : a.tmps[0]? = some (.slice B ts.length cb) := hS.get rfl rfl
          refine wp_value (c := .slice B ts.length cb) ?_ rfl
          go_simp
        · refine StepOkA.run (o := ?o6) ?ho6 ?hg6 ?h6
          case ho6 => simp only [List.getElem?_toArray, List.getElem?_cons_succ, List.getElem?_cons_zero]; rfl
          case hg6 => rfl
          case h6 =>
          intro a W hS hB hd
          have e35 : a.tmps[35]? = some (.slice B ts.length cb) := (hd 5 rfl).bool rfl rfl rfl
          refine wp_called Try.func16 (by kernel_rfl) rfl #[.slice B ts.length cb] rfl (by simp [Act.eval, *]) ?_
          refine (rlist_any B cb ts W (Kd.C_below HS.out (hbl.trans (hB.mono hbl.size))) hsc HZ.out HLB.out).mono ?_
          rintro e9 w9 ⟨rfl, hb9⟩
          exact ⟨_, rfl, rfl, hb9⟩
        · refine StepOkA.run (o := ?o7) ?ho7 ?hg7 ?h7
          case ho7 => simp only [List.getElem?_toArray, List.getElem?_cons_succ, List.getElem?_cons_zero]; rfl
          case hg7 => rfl
          case h7 =>
          intro a W hS hB hd
          have e34 : a.tmps[34]? = some (.string (strOfNums [(ts.length : Int)])) := (hd 4 rfl).bool rfl rfl rfl
          have e36 : a.tmps[36]? = some (.string (strOfNums (blobs ts))) := (hd 6 rfl).bool rfl rfl rfl
          refine wp_value (c := .string (strOfNums bs)) ?_ rfl
          have hsr := HSR.out
          have hsz := HSZ.out
          go_simp
        · refine StepOkA.run (o := ?o8) ?ho8 ?hg8 ?h8
          case ho8 => simp only [List.getElem?_toArray, List.getElem?_cons_succ, List.getElem?_cons_zero]; rfl
          case hg8 => rfl
          case h8 =>
          intro a W hS hB hd
          have e37 : a.tmps[37]? = some (.string (strOfNums bs)) := (hd 7 rfl).bool rfl rfl rfl
          refine wp_value (c := .string (strOfNums bs)) ?_ rfl
          go_simp
      · intro a W hS hB hh
        have e7 : a.tmps[7]? = some (.string (strOfNums bs)) := (hh 8 (by omega)).bool rfl rfl rfl
        have HBR := Lib.hid hB
        have hlit := same_lit hS
        clear hh hS hB
        simp only [List.filterMap_cons, List.filterMap_nil, List.foldl_cons, List.foldl_nil, List.setIfInBounds_toArray, List.set_cons_zero, List.set_cons_succ] at hlit
        rw [show a.tmps.getD 7 undef = .string (strOfNums bs) by simp [Array.getD_eq_getD_getElem?, e7]] at hlit
        generalize a.tmps.getD 30 undef = z30 at hlit
        generalize a.tmps.getD 31 undef = z31 at hlit
        generalize a.tmps.getD 32 undef = z32 at hlit
        generalize a.tmps.getD 33 undef = z33 at hlit
        generalize a.tmps.getD 34 undef = z34 at hlit
        generalize a.tmps.getD 35 undef = z35 at hlit
        generalize a.tmps.getD 36 undef = z36 at hlit
        generalize a.tmps.getD 37 undef = z37 at hlit
        clear e7
        subst hlit
        have HBW := Lib.hid (hbl.trans (HBR.out.mono hbl.size))
        clear hbl
        have hsz0 : (strOfNums bs).size = bs.length := strOfNums_size bs
        have kb := fun W => print_bytes (P := Try.prog) 9 25 5 Try.underlying9 Try.underlying25 Try.underlying5 (strOfNums bs) W
        obtain ⟨cap, hcap⟩ : ∃ cap, grownCap W bs.length 0 5 = cap := ⟨_, rfl⟩
        have hge : bs.length ≤ cap := by rw [← hcap]; exact grownCap_ge _ _ _ _
        obtain ⟨wb, hwb⟩ : ∃ wb, Lib.bytesWorld W 5 (strOfNums bs) = wb := ⟨_, rfl⟩
        have hwbb : Below w.heap.size w wb := by rw [← hwb]; exact bytes_below HBW.out HBW.out.size _ _
        have hrd := bytes_reads W 5 (strOfNums bs) (by have := HBL.out; omega)
        rw [bytesOf_str bs HBY.out, hwb, hsz0] at hrd
        have hCb := Kd.C_of_reads (d := (0 : Int)) (h1 := fun _ => rfl) hrd
        have HNW := Lib.hid (new_any (some ⟨W.heap.size, 0, none⟩) cap bs 0 wb hCb hge (by have := HBL.out; omega))
        have hN0 : newAt bs 0 = 0 := by unfold newAt; rw [if_neg (by omega)]
        have hE0 : newE bs 0 = 0 := by unfold newE; rw [if_neg (by omega)]
        unfold NewPost at HNW
        rw [hN0, hE0] at HNW
        have HBB := Lib.hid hwbb
        clear hrd hCb hN0 hE0 hwbb hge
        go_wp2_with fail
        refine HNW.out.mono ?_
        rintro en w2 ⟨g, w0, rfl, hbw, hI, hB, _⟩
        clear kb hcap hwb hsz0
        have hT3 := texts_any w0 w2 g bs 0 0 30 60 hI hB HBY.out (by have := HBL.out; omega) (by omega) (by omega) (by omega)
        rw [HCU.out] at hT3
        unfold TextsPost at hT3
        have HT3 := Lib.hid hT3
        have hg : w.heap.size ≤ g := by obtain ⟨_, _, _, h, _⟩ := hI; have := hbw.size; have := HBB.out.size; omega
        have HB2 := Lib.hid (And.intro (HBB.out.trans ((hbw.trans (hB.mono hbw.size)).mono HBB.out.size)) hg)
        clear hT3 hI hB hbw hg
        go_wp2_with fail
        refine HT3.out.mono ?_
        rintro en w3 ⟨v3, rfl, hR3, hI3, hg3, hB3⟩
        obtain ⟨A4, c4, rfl, hc4, hC4⟩ := Kd.R_reads hR3
        have hb3 := HB2.out.1.grown hg3 HB2.out.1.size (fun k hk => by cases hk; exact HB2.out.2)
        have HI3 := Lib.hid hI3
        have HB3 := Lib.hid (And.intro hb3 hB3)
        have HC4 := Lib.hid (And.intro hC4 hc4)
        clear hR3 hI3 hg3 hB3 hC4 hc4 hb3
        go_wp2_with fail
        refine (fixed4_any _).mono ?_
        rintro en w4 ⟨rfl, hb4⟩
        have HI4 := Lib.hid (HI3.out.keep hb4)
        have HB4 := Lib.hid (And.intro (HB3.out.1.trans (hb4.mono HB3.out.1.size)) (HB3.out.2.trans (hb4.mono HB3.out.2.size)))
        have HSM := Lib.hid (tephraref04_Same.calls 1000001 _ _ ts _ _ ts true w4 (Kd.C_below HC4.out.1 hb4) HC4.out.2 (Kd.C_below HS.out HB4.out.1) hsc (same_strs_f ts (by omega)))
        clear hb4
        go_wp2_with fail
        refine HSM.out.mono ?_
        rintro en w5 ⟨rfl, hd5⟩
        have HI5 := Lib.hid (HI4.out.keep hd5.below)
        have HB5 := Lib.hid (And.intro (HB4.out.1.trans (hd5.below.mono HB4.out.1.size)) (HB4.out.2.trans (hd5.below.mono HB4.out.2.size)))
        clear hd5
        go_wp2_with fail
        refine (err_any w0 w5 g bs _ _ HI5.out).mono ?_
        rintro en w6 ⟨rfl, rfl⟩
        have hsub : (bs.length : Int) - (bs.length : Int) = 0 := by omega
        go_wp2_with fail
        refine (left_any w0 w5 g bs _ _ HI5.out (by have := HBL.out; omega) (by omega)).mono ?_
        rintro en w6 ⟨rfl, hb6⟩
        have HI6 := Lib.hid (HI5.out.keep hb6)
        have HB6 := Lib.hid (And.intro (HB5.out.1.trans (hb6.mono HB5.out.1.size)) (HB5.out.2.trans (hb6.mono HB5.out.2.size)))
        clear hb6
        have hN5 := numbers_any w0 w6 g bs _ _ 5 HI6.out HB6.out.2 HBY.out (by have := HBL.out; omega) (by omega) (by omega)
        rw [cuNums_end bs] at hN5
        unfold NumsPost at hN5
        have HN5 := Lib.hid hN5
        clear hN5
        go_wp2_with fail
        refine HN5.out.mono ?_
        rintro en w7 ⟨v7, rfl, hR7, hI7, hg7, hB7⟩
        obtain ⟨A7, c7, rfl⟩ := Kd.R_slice hR7
        have HI7 := Lib.hid hI7
        have HB7 := Lib.hid (HB6.out.1.grown hg7 HB6.out.1.size (fun k hk => by cases hk; exact HB2.out.2))
        clear hR7 hI7 hg7 hB7
        go_wp2_with fail
        refine (err_any w0 w7 g bs _ _ HI7.out).mono ?_
        rintro en w8 ⟨rfl, rfl⟩
        go_wp2_with fail
        refine (HT.out w7 HB7.out).mono ?_
        rintro en w8 ⟨rfl, hb8⟩
        have HB8 := Lib.hid (HB7.out.trans (hb8.mono HB7.out.size))
        clear hb8
        go_wp2_with fail
        go_ret
        exact ⟨rfl, HB8.out⟩
theorem walk (v0 : Value) (x0 : Option Addr × Nat × List ByteArray) (a1 : Option Addr) (len1 cap1 : Nat) (z1 : List Int) (w : World) (w0 : IsStrs w v0 x0) (w1 : (a1 = none ∧ len1 = 0 ∧ cap1 = 0 ∧ z1 = []) ∨ ∃ x, a1 = some x ∧ len1 ≤ cap1 ∧ cap1 ≤ maxLen ∧ z1.length = cap1 ∧ (∀ i, i < z1.length → w.cell? (x.add i) = some (.int .u64 (z1.getD i 0))) ∧ ∀ n ∈ z1, (Lit.int .u64 n).wf = true) (y1 : len1 * 8 ≤ 140737488351232) :
    Calls Try.prog 3 #[v0, .slice a1 len1 cap1] w fun e w' => e = .returned (.bool true) ∧ Below w.heap.size w w' := by
  obtain ⟨B0, c0, ts⟩ := x0
  obtain ⟨rfl, hc0, hs0, hm0⟩ := w0
  obtain ⟨l, rfl, hr, hm, hb, hc⟩ := ReadsInt.ofRowC w1
  have hr := Kd.C_of_reads (d := (0 : Int)) (h1 := fun _ => rfl) hr
  have hn : ∀ n ∈ l, 0 ≤ n ∧ n < 18446744073709551616 := fun n h => by have := hb n h; simp [Lit.wf, IntKind.min, IntKind.max, IntKind.signed, IntKind.bits] at this; omega
  by_cases h : 30 < (ts.length : Int) ∨ (¬ 30 < (ts.length : Int) ∧ 30 < (l.length : Int))
  · exact back_great B0 a1 c0 cap1 ts l w h hs0.2.1 hr.2.1
  · exact back_main B0 a1 c0 cap1 ts l w hs0 hc0 (by omega) hm0 hr hc (by omega) hn
end Go.Proofs.Ythpbkhagjgggjaa.WCursorBack

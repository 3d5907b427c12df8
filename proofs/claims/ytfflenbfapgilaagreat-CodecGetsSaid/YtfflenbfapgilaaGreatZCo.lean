/- Texts laid as one by shake.py, cut to what the claim needs: SchA. (Names that begin with W and the print's groups (G..x, G..z): laid by the kit's print, cut.) -/
import Derived.Test.YtfflenbfapgilaaGreatZCj
import Derived.Test.YtfflenbfapgilaaGreatZCn
import Derived.Test.YtfflenbfapgilaaGreatZCk
set_option linter.unusedVariables false
set_option linter.unusedSimpArgs false
namespace Go.Proofs.YtfflenbfapgilaaGreat
open Go.RowKit Go.Proofs.YtfflenbfapgilaaGreatW.PrintWords
def IsW (B:Nat) (W:World) (g t:Nat) (bs:List Int):Prop:=
 ∃v,W.heap[g]? =some (.cells #[v,.pointer (some ⟨t,0,none⟩)] 97 (0,0))∧Kd.R (Kd.int .u8) 5 W B (fun k=>k≠g) v bs
theorem IsW.put {B:Nat} {W W5:World} {g t:Nat} {old v:Value} {bs:List Int} (hk:W.heap[g]? =some (.cells #[old,.pointer (some ⟨t,0,none⟩)] 97 (0,0)))
  (hR:Kd.R (Kd.int .u8) 5 W5 W.heap.size (fun _=>True) v bs) (hb:Below W.heap.size W W5) (hB:B≤W.heap.size):
  IsW B (W5.setCell ⟨g,0,none⟩ v) g t bs∧Kp W (W5.setCell ⟨g,0,none⟩ v) (fun k=>k=g):=by
 have hlt:=blk_lt hk
 have hk5:=blk_below hk hb
 have h1:=Kd.R_mono (Kd.R_bound hR) (ok':=fun k=>k≠g) (fun k hk'=>by have:=hk'.2.1;omega)
 refine⟨⟨v,by simpa using blk_set hk5 0 v,Kd.R_lower (Kd.R_far (p:=⟨g,0,none⟩) h1 (fun k hk'=>hk') v) hB⟩, ?_⟩
 exact(Kp.of_below hb (fun k=>k=g)).setCell (p:=⟨g,0,none⟩) (.inl rfl) v
theorem IsW.keep {B:Nat} {W W':World} {g t:Nat} {bs:List Int} (h:IsW B W g t bs) (hb:Below W.heap.size W W'):IsW B W' g t bs:=by
 obtain⟨v,hk,hR⟩:=h
 exact⟨v,blk_below hk hb,Kd.R_below hR hb⟩
structure Wr (B:Nat) (W:World) (S:Nat→Prop) (g t:Nat) (T:List ByteArray) (bs:List Int):Prop where
 w:IsW B W g t bs
 le:B≤W.heap.size
 tab:Tab W S t T
 ne: ¬S g
theorem Wr.keep {B:Nat} {W W':World} {S:Nat→Prop} {g t:Nat} {T:List ByteArray} {bs:List Int} (h:Wr B W S g t T bs) (hb:Below W.heap.size W W'):Wr B W' S g t T bs:=
 ⟨h.w.keep hb,Nat.le_trans h.le hb.size,h.tab.keep (Kp.of_below hb (fun _=>False)) (fun _ _ h=>h),h.ne⟩
theorem Wr.step {B:Nat} {W W':World} {S:Nat→Prop} {g t:Nat} {T:List ByteArray} {bs bs':List Int} (h:Wr B W S g t T bs) (hw:IsW B W' g t bs') (hk:Kp W W' (fun k=>k=g)):Wr B W' S g t T bs':=
 ⟨hw,Nat.le_trans h.le hk.size,h.tab.keep hk (fun k hs e=>h.ne (e ▸ hs)),h.ne⟩
def WrPost (B:Nat) (W:World) (S:Nat→Prop) (g t:Nat) (T:List ByteArray) (bs:List Int) (e:Ending) (W':World):Prop:=e= .returned (.tuple #[])∧Wr B W' S g t T bs∧Kp W W' (fun k=>k=g)
section
variable {B:Nat} {W:World} {S:Nat→Prop} {g t:Nat} {T:List ByteArray} {bs:List Int}
theorem number_any (h:Wr B W S g t T bs) (n:Int) (hl:bs.length≤1000000) (hn:0≤n∧n<18446744073709551616):
  Calls Tryz.prog 68 #[.pointer (some ⟨g,0,none⟩),.int .u64 n] W (WrPost B W S g t T (bs++ints (vb n.toNat))):=by
 obtain⟨v,hk,hR⟩:=h.w
 obtain⟨A,c,rfl⟩:=Kd.R_slice hR
 have h2:=Kd.R_reads' hR
 obtain⟨m,rfl⟩:=Int.eq_ofNat_of_zero_le hn.1
 have HP:=hQ (put_any A c bs m W h2.2.2 h2.2.1 (by omega) (by omega))
 have a0:=bcl hk 0 rfl
 have HK:=hQ hk
 have HH:=hQ h
 rw[Int.toNat_natCast]
 clear h2 hR hk h hl hn
 generalize bs++ints (vb m)=b2 at*
 go_enter Tryz.func68,Tryz.ntmps68
 go_wp2_with fail
 refine HP.out.mono ?_
 rintro e w5 ⟨v5,rfl,hR5,hb⟩
 obtain⟨A5,c5,rfl⟩:=Kd.R_slice hR5
 have hp:=hQ (IsW.put HK.out hR5 hb HH.out.le)
 have f0:=blk_frozen (blk_below HK.out hb) 0
 have a1:w5.cell? ⟨g,0,none⟩=some (.slice A bs.length c):=(blk_cell (blk_below HK.out hb) 0).trans rfl
 clear hR5 hb a0
 go_wp2_with fail
 (try simp only[Exit.inBlock,Exit.then])
 first|go_end0|refine bodyPost_ret (results_none rfl _ _ _) rfl ?_
 exact⟨rfl,HH.out.step hp.out.1 hp.out.2,hp.out.2⟩
theorem wblob_any (h:Wr B W S g t T bs) (s:ByteArray) (hl:bs.length≤1000000) (hs:s.size≤1000000):
  Calls Tryz.prog 67 #[.pointer (some ⟨g,0,none⟩),.string s] W (WrPost B W S g t T (bs++blob s)):=by
 obtain⟨v,hk,hR⟩:=h.w
 obtain⟨A,c,rfl⟩:=Kd.R_slice hR
 have h2:=Kd.R_reads' hR
 have HP:=hQ (bput_any A c bs s W h2.2.2 h2.2.1 (by rw[blob_len];have:=vb_len10 s.size (by omega);omega))
 have a0:=bcl hk 0 rfl
 have HK:=hQ hk
 have HH:=hQ h
 clear h2 hR hk h hl hs
 generalize bs++blob s=b2 at*
 go_enter Tryz.func67,Tryz.ntmps67
 go_wp2_with fail
 refine HP.out.mono ?_
 rintro e w5 ⟨v5,rfl,hR5,hb⟩
 obtain⟨A5,c5,rfl⟩:=Kd.R_slice hR5
 have hp:=hQ (IsW.put HK.out hR5 hb HH.out.le)
 have f0:=blk_frozen (blk_below HK.out hb) 0
 have a1:w5.cell? ⟨g,0,none⟩=some (.slice A bs.length c):=(blk_cell (blk_below HK.out hb) 0).trans rfl
 clear hR5 hb a0
 go_wp2_with fail
 (try simp only[Exit.inBlock,Exit.then])
 first|go_end0|refine bodyPost_ret (results_none rfl _ _ _) rfl ?_
 exact⟨rfl,HH.out.step hp.out.1 hp.out.2,hp.out.2⟩
def numE (T:List ByteArray) (s:ByteArray):List Int:=ints (vb (atI T s).toNat)
theorem wknown_any (h:Wr B W S g t T bs) (s:ByteArray) (hl:bs.length≤1000000) (hs:s.size≤maxLen):
  Calls Tryz.prog 66 #[.pointer (some ⟨g,0,none⟩),.string s] W (WrPost B W S g t T (bs++numE T s)):=by
 obtain⟨v,hk,hR⟩:=h.w
 have a1:=bcl hk 1 rfl
 have HF:=hQ (find_any h.tab s hs)
 have hbd:=atI_bd T s h.tab.len
 have HN:=hQ (number_any h (atI T s) hl (by omega))
 unfold numE
 clear hk hR h hbd hl hs
 generalize atI T s=n at*
 generalize isIn T s=b at*
 go_enter Tryz.func66,Tryz.ntmps66
 go_wp2_with fail
 refine HF.out.mono ?_
 rintro e w5 ⟨rfl,rfl⟩
 go_wp2_with fail
 refine HN.out.mono ?_
 rintro e w6 ⟨rfl,hw,hk⟩
 have HW:=hQ hw
 have HK:=hQ hk
 clear hw hk
 go_wp2_with fail
 (try simp only[Exit.inBlock,Exit.then])
 first|go_end0|refine bodyPost_ret (results_none rfl _ _ _) rfl ?_
 exact⟨rfl,HW.out,HK.out⟩
end
end Go.Proofs.YtfflenbfapgilaaGreat

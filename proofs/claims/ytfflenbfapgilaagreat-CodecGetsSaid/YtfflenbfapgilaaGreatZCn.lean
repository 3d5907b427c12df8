/- Texts laid as one by shake.py, cut to what the claim needs: TabC. (Names that begin with W and the print's groups (G..x, G..z): laid by the kit's print, cut.) -/
import Derived.Test.YtfflenbfapgilaaGreatZCm
import Derived.Test.YtfflenbfapgilaaGreatZCe
set_option linter.unusedVariables false
set_option linter.unusedSimpArgs false
set_option maxHeartbeats 8000000
set_option maxRecDepth 100000
namespace Go.Proofs.YtfflenbfapgilaaGreat
open Go.RowKit Go.Proofs.YtfflenbfapgilaaGreatW.PrintWords
open Go.Maps (Keyed)
theorem id_any {w:World} {S:Nat→Prop} {g:Nat} {l:List ByteArray} (h:Tab w S g l) (s:ByteArray) (hsz:s.size≤maxLen) (hlen:l.length<1000000):
  Calls Tryz.prog 37 #[.pointer (some ⟨g,0,none⟩),.string s] w fun e w'=>e= .returned (.tuple #[.int .u64 (posOf l s:Int),.bool (!isIn l s)])∧TabDone w w' S g (tput l s):=by
 have HP:=hQ (tput_any h s hsz hlen)
 have hpos:=posOf_le l s
 go_enter Tryz.func37,Tryz.ntmps37
 generalize posOf l s=p at*
 generalize (!isIn l s)=b at*
 generalize tput l s=l2 at*
 go_wp2_with fail
 refine HP.out.mono ?_
 rintro e w1 ⟨rfl,hd⟩
 have HD:=hQ hd
 clear hd
 go_wp2_with fail
 go_ret2
 exact⟨rfl,HD.out⟩
def NewTab (w w':World) (g:Nat) (l:List ByteArray):Prop:=∃S,Tab w' S g l∧(∀k,S k→w.heap.size≤k)∧Below w.heap.size w w'
theorem NewTab.put {w w1 w2:World} {g:Nat} {l2:List ByteArray} {S:Nat→Prop} (hs: ∀k,S k→w.heap.size≤k) (hb:Below w.heap.size w w1) (h:TabDone w1 w2 S g l2):NewTab w w2 g l2:=by
 obtain⟨S',h1,h2,h3⟩:=h
 refine⟨S',h1,fun k hk=>(h2 k hk).elim (hs k) (fun h=>Nat.le_trans hb.size h), ?_⟩
 exact((Kp.of_below hb S).trans h3 (fun k hk=> .inl hk)).to_below hs
theorem NewTab.below {w w':World} {g:Nat} {l:List ByteArray} (h:NewTab w w' g l):Below w.heap.size w w':=h.choose_spec.2.2
theorem new_any (B:Option Addr) (cb:Nat) (ts:List ByteArray) (w:World) (hs:Kd.C Kd.string w B ts.length ts) (hsc:ts.length≤cb) (hz: ∀s∈ts,s.size≤maxLen) (hl:ts.length<1000000):
  Calls Tryz.prog 17 #[.slice B ts.length cb] w fun e w'=>e= .returned (.pointer (some ⟨w.heap.size,0,none⟩))∧NewTab w w' w.heap.size (tnew ts):=by
 have HS:=hQ hs
 have HZ:=hQ hz
 clear hs hz
 go_enter Tryz.func17,Tryz.ntmps17
 go_wp2_with fail
 have h0:NewTab w (w.alloc (.cells #[.slice none 0 0,.map none] 88)) w.heap.size []:=by
  refine⟨fun k=>k=w.heap.size,⟨fun k hk=>by simp[hk],rfl,by simp,by simp,by simp,_,_,heap_new w _,.inl (Kd.R_nil _ _ _ _ _),.inl ⟨rfl,rfl⟩⟩,fun k hk=>by omega,(Below.refl _ _).alloc (Nat.le_refl _) _⟩
 have H0:=hQ h0
 clear h0
 obtain⟨g,hg⟩: ∃g,g=w.heap.size:=⟨_,rfl⟩
 rw[←hg]at H0
 have HGE:=hQ hg
 clear hg
 generalize w.alloc (.cells #[.slice none 0 0,.map none] 88)=w0 at*
 rw[←HGE.out]
 go_loopw [10] (fun u10 wr=>∃(i:Nat),i≤ts.length∧u10= .int .i64 i∧Hid (NewTab w wr g (tnew (ts.take i)))) (fun v _=>ts.length-(intOf v).toNat)
 case atStart=>exact⟨0,by omega,rfl,H0⟩
 case round=>
  obtain⟨i,hi,rfl,hrel⟩:=hrel
  by_cases hlt:i<ts.length
  ·obtain⟨S,hT,hS,hbl⟩:=hrel.out
   have hcell:=Kd.at_string (Kd.C_below HS.out hbl) (i:Int) (by omega) (by omega)
   obtain⟨ad,rfl,hcell⟩:=hcell
   rw[Int.toNat_natCast]at hcell
   have hst:=tnew_take ts i hlt
   have hsz:=HZ.out ts[i] (List.getElem_mem _)
   have hln:=tnew_len (ts.take i)
   rw[List.length_take]at hln
   obtain⟨s,hsd⟩:=eX (ts[i])
   have hzz:rdOf ByteArray.empty ts (i:Int)=s:=by simp[rdOf,hlt,hsd]
   rw[hzz]at hcell
   rw[hsd]at hst hsz
   have HP:=hQ (tput_any hT s hsz (by omega))
   rw[←hst]at HP
   have HST:=hQ hst
   have HSS:=hQ hS
   have HBL:=hQ hbl
   clear hst hsz hln hzz hT hS hbl hrel hsd
   go_wp2_with fail
   refine HP.out.mono ?_
   rintro e w2 ⟨rfl,hd⟩
   have HN:=hQ (NewTab.put HSS.out HBL.out hd)
   clear hd
   go_wp2
   go_roundw
   case rel=>exact⟨i+1,by omega,by go_num,HN⟩
   case measure=>simp[intOf];omega
  ·obtain rfl:i=ts.length:=by omega
   rw[List.take_of_length_le (Nat.le_refl _)]at hrel
   go_wp2_with fail
   go_ret
   rw[←HGE.out]
   exact⟨rfl,hrel.out⟩
theorem copy_any {w:World} {S:Nat→Prop} {g:Nat} {l:List ByteArray} (h:Tab w S g l) (hlen:l.length<1000000):
  Calls Tryz.prog 45 #[.pointer (some ⟨g,0,none⟩)] w fun e w'=>e= .returned (.pointer (some ⟨w.heap.size,0,none⟩))∧NewTab w w' w.heap.size l:=by
 obtain⟨A,c,mv,hc0,hc1,hc,hC,_⟩:=h.cells
 have HN:=hQ (new_any A c l w hC hc h.wide hlen)
 rw[tnew_self h.nodup]at HN
 clear hC h
 go_enter Tryz.func45,Tryz.ntmps45
 go_wp2_with fail
 refine HN.out.mono ?_
 rintro e w1 ⟨rfl,hd⟩
 have HD:=hQ hd
 clear hd
 go_wp2_with fail
 go_ret
 exact⟨rfl,HD.out⟩
end Go.Proofs.YtfflenbfapgilaaGreat

/- Texts laid as one by shake.py, cut to what the claim needs: FrB. (Names that begin with W and the print's groups (G..x, G..z): laid by the kit's print, cut.) -/
import Derived.Test.YtfflenbfapgilaaGreatZCA
import Derived.Test.YtfflenbfapgilaaGreatZCj
import Derived.Test.YtfflenbfapgilaaGreatZCg
import Derived.Test.YtfflenbfapgilaaGreatZCd
import Derived.Laws.Concat
set_option linter.unusedVariables false
set_option linter.unusedSimpArgs false
set_option maxHeartbeats 8000000
set_option maxRecDepth 100000
open Go.RowKit Go.Proofs.YtfflenbfapgilaaGreatW.PrintWords
namespace Go.Proofs.YtfflenbfapgilaaGreat
open Go.Proofs.YtfflenbfapgilaaGreat.GVB
def frameL (l:List Int):List Int:=blob (strOfNums l)++crcB (Crc.sum (nats (blob (strOfNums l))))
theorem fput_ok (B:Option Addr) (cb:Nat) (m:List Int) (A:Option Addr) (c:Nat) (l:List Int) (w:World) (hB:Kd.C (Kd.int .u8) w B m.length m) (hcb:m.length≤cb) (hm:m.length≤1000000) (hC:Kd.C (Kd.int .u8) w A l.length l) (hc:l.length≤c) (hl:1≤l.length∧l.length≤2048) (hbl:(blob (strOfNums l)).length≤3000) (hbb: ∀x∈blob (strOfNums l),0≤x∧x<256):
  Calls Tryz.prog 19 #[.slice B m.length cb,.slice A l.length c] w fun e w'=>∃(A4:Option Addr) (c4:Nat),e= .returned (.tuple #[.slice A4 (m++frameL l).length c4,.int .i64 0])∧Kd.R (Kd.int .u8) 5 w' w.heap.size (fun _=>True) (.slice A4 (m++frameL l).length c4) (m++frameL l)∧Below w.heap.size w w':=by
 have d1:decide ((l.length:Int)<1)=false:=decide_eq_false (by omega)
 have d2:decide (2048<(l.length:Int))=false:=decide_eq_false (by omega)
 have hcv:=Kd.C_string (P:=Tryz.prog) (A:=A) (c:=c) Tryz.underlying22 Tryz.underlying5 Tryz.underlying9 hC
 have HBP:=hQ (bput_any none 0 [] (strOfNums l) w (Kd.C_nil _ _) (Nat.le_refl _) (by simp;omega))
 have HCB:=hQ (fun(W:World) (h:Below w.heap.size w W)=>Kd.C_below hB h)
 have HL:=hQ (And.intro hcb (And.intro hm (And.intro hbl hbb)))
 clear hB hC hcb hm hbl hbb
 go_enter Tryz.func19,Tryz.ntmps19
 go_wp2_with fail
 refine HBP.out.mono ?_
 rintro e w1 ⟨v1,rfl,hR1,hb1⟩
 obtain⟨A1,c1,rfl⟩:=Kd.R_slice hR1
 rw[List.nil_append]at hR1
 have HS:=hQ (sealed_any A1 c1 (blob (strOfNums l)) w1 (Kd.R_reads' hR1).2.2 (Kd.R_reads' hR1).2.1 HL.out.2.2.2 (by have:=HL.out.2.2.1;omega))
 have HB1:=hQ hb1
 clear hR1 hb1 hcv
 go_wp2_with fail
 refine HS.out.mono ?_
 rintro e w2 ⟨v2,rfl,hR2,hb2⟩
 obtain⟨A2,c2,rfl⟩:=Kd.R_slice hR2
 have HR2:=hQ (show Kd.R (Kd.int .u8) 5 w2 w1.heap.size (fun _=>True) (.slice A2 (frameL l).length c2) (frameL l) from hR2)
 have HB2:=hQ (HB1.out.trans (hb2.mono HB1.out.size))
 have hfl:(blob (strOfNums l)++crcB (Crc.sum (nats (blob (strOfNums l))))).length=(frameL l).length:=rfl
 have hfz:(frameL l).length≤3004:=by
  have:=HL.out.2.2.1
  unfold frameL
  rw[List.length_append,show(crcB (Crc.sum (nats (blob (strOfNums l))))).length=4 from rfl];omega
 rw[hfl]
 have HFZ:=hQ hfz
 clear hR2 hb2 hfl hfz
 go_wp2_with fail
 have hA:=HCB.out _ (HB2.out.alloc HB2.out.size (.cells #[.slice B m.length cb,.slice A2 (frameL l).length c2] 22))
 have hBr:=Kd.C_below (Kd.R_reads' HR2.out).2.2 ((Below.refl w2.heap.size w2).alloc (Nat.le_refl _) (.cells #[.slice B m.length cb,.slice A2 (frameL l).length c2] 22))
 have hlen:([m,frameL l]:List (List Int)).flatten=m++frameL l:=by simp
 have hcat:=concat_any (some ⟨w2.heap.size,0,none⟩) 2 [m,frameL l] _ (rows_two (heap_new w2 _) hA hBr HL.out.1 (Kd.R_reads' HR2.out).2.1) (Nat.le_refl _) (by rw[hlen,List.length_append];have:=HL.out.2.1;have:=HFZ.out;omega)
 rw[hlen]at hcat
 have HCT:=hQ hcat
 have HB3:=hQ (HB2.out.alloc HB2.out.size (.cells #[.slice B m.length cb,.slice A2 (frameL l).length c2] 22))
 clear hA hBr hlen hcat
 refine HCT.out.mono ?_
 rintro e w4 ⟨v4,rfl,hR4,hb4⟩
 obtain⟨A4,c4,rfl⟩:=Kd.R_slice hR4
 have HP:=hQ (And.intro (Kd.R_lower hR4 HB3.out.size) (HB3.out.trans (hb4.mono HB3.out.size)))
 clear hR4 hb4
 go_wp2_with fail
 go_ret2
 exact⟨A4,c4,by first|rfl|(rw[List.length_append];rfl),HP.out.1,HP.out.2⟩
end Go.Proofs.YtfflenbfapgilaaGreat
namespace Go.Proofs.YtfflenbfapgilaaGreat
open Go.Proofs.YtfflenbfapgilaaGreatW.PrintMore
open Go.Proofs.YtfflenbfapgilaaGreat.GVB
theorem bt_num (l:List Int) (h: ∀x∈l,0≤x∧x<256) (i:Nat) (hi:i<l.length):bt (strOfNums l) (i:Int)=((l[i].toNat:Nat):Int):=by
 have hs:(strOfNums l).size=l.length:=strOfNums_size l
 unfold bt
 rw[dif_pos (by rw[Int.toNat_natCast,hs];exact hi)]
 have hx:=h l[i] (List.getElem_mem _)
 have h2:((strOfNums l)[(i:Int).toNat]'(by rw[Int.toNat_natCast,hs];exact hi)).toNat=l[i].toNat:=by
  simp[strOfNums,ByteArray.getElem_eq_getElem_data]
  omega
 rw[h2]
theorem xor_u32 (a b:Nat) (ha:a<4294967296) (hb:b<4294967296):Go.bits .xor .u32 (a:Int) (b:Int)=((a^^^b:Nat):Int):=u32_xor_nat a b ha hb
theorem top_sub (x:Nat) (h:x<4294967296):4294967295-x=4294967295^^^x:=by
 apply Nat.eq_of_testBit_eq
 intro i
 have h1:=Nat.testBit_two_pow_sub_succ (n:=32) (x:=x) (by omega) i
 have h2:=Nat.testBit_two_pow_sub_one 32 i
 rw[show 4294967295-x=2^32-(x+1)by omega,h1,Nat.testBit_xor,show(4294967295:Nat)=2^32-1 by omega,h2]
 by_cases hi:i<32
 ·simp[hi]
 ·have:x.testBit i=false:=Nat.testBit_lt_two_pow (Nat.lt_of_lt_of_le h (by rw[show(4294967296:Nat)=2^32 by decide];exact Nat.pow_le_pow_right (by decide) (by omega)))
  simp[hi,this]
theorem rsum_l1 (s:ByteArray) (x4:Int) (b:Nat) (h0:0≤x4) (h1:x4<(s.size:Int)) (hb:bt s x4=(b:Int)) (hb2:b<256): ∀(n j k c:Nat),j+n=8→c<4294967296→ 
  tephraref03_Sum.l1 (k+n+1) s (c:Int) x4 (j:Int)=tephraref03_Sum.l0 k s ((Crc.bitsFrom n c (b/2^j):Nat):Int) (wrap64 (x4+1)):=by
 intro n
 induction n with
 |zero=>
  intro j k c hj hc
  simp only[tephraref03_Sum.l1]
  rw[if_neg (by omega)];rfl
 | succ n ih=>
  intro j k c hj hc
  obtain⟨q,hq⟩: ∃q,q=k+n+1:=⟨_,rfl⟩
  rw[show k+(n+1)+1=q+1 by omega]
  simp only[tephraref03_Sum.l1]
  have hw:IntKind.u64.wrap ((j:Int)+1)=((j+1:Nat):Int):=by
   simp[IntKind.wrap,IntKind.signed,IntKind.bits];omega
  have hs:(shr .u8 (bt s x4) (j:Int)%4294967296)%2=(((b/2^j)%2:Nat):Int):=by
   rw[hb];unfold shr
   rw[Int.toNat_natCast,show min j IntKind.u8.bits=j from Nat.min_eq_left (by show j≤8;omega)]
   have:((b:Int)/2^j)=((b/2^j:Nat):Int):=by simp
   rw[this]
   have:b/2^j<256:=Nat.lt_of_le_of_lt (Nat.div_le_self _ _) hb2
   omega
  have hm:Int.tmod (c:Int) 2=((c%2:Nat):Int):=by simp[Int.tmod]
  have hd:(Int.tdiv (c:Int) 2)%4294967296=((c/2:Nat):Int):=by
   have:Int.tdiv (c:Int) 2=((c/2:Nat):Int):=by simp[Int.tdiv]
   rw[this];omega
  have hx:Go.bits .xor .u32 ((c/2:Nat):Int) 3988292384=((c/2^^^Crc.poly:Nat):Int):=xor_u32 (c/2) Crc.poly (by omega) (by decide)
  rw[if_pos (by omega),if_pos h0,if_pos h1,if_pos (by omega),hs,hm,hd,hw,hx]
  have hpow:b/2^j/2=b/2^(j+1):=by rw[Nat.div_div_eq_div_mul,Nat.pow_succ]
  by_cases e:c%2=b/2^j%2
  ·rw[if_pos (by omega)]
   have hb:Crc.bitStep c (b/2^j%2)=c/2:=by unfold Crc.bitStep;rw[if_neg (by omega)]
   rw[hq,ih (j+1) k (c/2) (by omega) (by omega)]
   simp only[Crc.bitsFrom]
   rw[hb,hpow]
  ·rw[if_neg (by omega)]
   have hb:Crc.bitStep c (b/2^j%2)=c/2^^^Crc.poly:=by unfold Crc.bitStep;rw[if_pos e]
   have hlt:c/2^^^Crc.poly<4294967296:=Nat.xor_lt_two_pow (n:=32) (by omega) (by decide)
   rw[hq,ih (j+1) k (c/2^^^Crc.poly) (by omega) hlt]
   simp only[Crc.bitsFrom]
   rw[hb,hpow]
theorem rsum_l0 (l:List Int) (h: ∀x∈l,0≤x∧x<256) (hl:l.length≤1000000): ∀(d i k c:Nat),l.length=i+d→c<4294967296→
  tephraref03_Sum.l0 (k+10*d+1) (strOfNums l) (c:Int) (i:Int)=some (((Crc.top^^^Crc.run c (nats (l.drop i)):Nat)):Int):=by
 intro d
 induction d with
 |zero=>
  intro i k c hi hc
  have hs:(strOfNums l).size=l.length:=strOfNums_size l
  simp only[tephraref03_Sum.l0]
  rw[if_neg (by rw[hs];omega),List.drop_of_length_le (by omega)]
  congr 1
  show((4294967295-(c:Int))%4294967296)=((4294967295^^^c:Nat):Int)
  rw[←top_sub c hc];omega
 | succ d ih=>
  intro i k c hi hc
  have hs:(strOfNums l).size=l.length:=strOfNums_size l
  have hlt:i<l.length:=by omega
  have hx:=h l[i] (List.getElem_mem _)
  obtain⟨q,hq⟩: ∃q,q=(k+10*d+1)+8+1:=⟨_,rfl⟩
  rw[show k+10*(d+1)+1=q+1 by omega]
  simp only[tephraref03_Sum.l0]
  rw[if_pos (by rw[hs];omega)]
  have h1:=rsum_l1 (strOfNums l) (i:Int) l[i].toNat (by omega) (by rw[hs];omega) (bt_num l h i hlt) (by omega) 8 0 (k+10*d+1) c (by omega) hc
  rw[show((0:Nat):Int)=0 from rfl]at h1
  rw[hq,h1]
  have hw:wrap64 ((i:Int)+1)=((i+1:Nat):Int):=by unfold wrap64;omega
  have hbf:Crc.bitsFrom 8 c (l[i].toNat/2^0)=Crc.byte c l[i].toNat:=by
   rw[Nat.pow_zero,Nat.div_one,Crc.bitsFrom_eq 8 c _ (by omega)];rfl
  rw[hw,hbf,ih (i+1) k _ (by omega) (Crc.byte_lt c _ hc (by omega)),List.drop_eq_getElem_cons hlt]
  rfl
theorem rsum_is (l:List Int) (h: ∀x∈l,0≤x∧x<256) (hl:l.length≤1000000):tephraref03_Sum.f (10*l.length+1) (strOfNums l)=some ((Crc.sum (nats l):Nat):Int):=by
 have:=rsum_l0 l h hl l.length 0 0 4294967295 (by omega) (by omega)
 rw[Nat.zero_add,List.drop_zero]at this
 exact this
theorem rsum_any (l:List Int) (h: ∀x∈l,0≤x∧x<256) (hl:l.length≤1000000) (w:World):
  Calls Tryz.prog 26 #[.string (strOfNums l)] w fun e w'=>e= .returned (.int .u32 (Crc.sum (nats l):Nat))∧Below w.heap.size w w':=by
 have:=tephraref03_Sum.calls _ (strOfNums l) _ w (rsum_is l h hl)
 exact this.mono (fun e w' hh=>⟨hh.1,hh.2.below⟩)
end Go.Proofs.YtfflenbfapgilaaGreat
namespace Go.Proofs.YtfflenbfapgilaaGreat
open Go.Proofs.YtfflenbfapgilaaGreat.GVB
theorem tl_nums {l m:List Int} (hl: ∀x∈l,0≤x∧x<256) (hm: ∀x∈m,0≤x∧x<256):(strOfNums l).toList=(strOfNums m).toList↔l=m:=by
 constructor
 ·intro h
  have hc: ∀{k:List Int},(∀x∈k,0≤x∧x<256)→ints (nats k)=k:=by
   intro k hk
   unfold ints nats
   rw[List.map_map]
   conv=>rhs;rw[←List.map_id k]
   apply List.map_congr_left
   intro x hx
   have:=hk x hx
   simp;omega
  have h2:=str_inj (nats l) (nats m) (by intro x hx;simp[nats]at hx;obtain⟨y,hy,rfl⟩:=hx;have:=hl y hy;omega) (by intro x hx;simp[nats]at hx;obtain⟨y,hy,rfl⟩:=hx;have:=hm y hy;omega) (by rw[hc hl,hc hm];exact h)
  rw[←hc hl,←hc hm,h2]
 ·rintro rfl;rfl
theorem rbytes_is (c:Nat) (h:c<4294967296):tephraref03_Bytes.f (c:Int)=some (strOfNums (crcB c)):=by
 unfold tephraref03_Bytes.f crcB
 have h0:(0:Int)≤(c:Int)∧(c:Int)<4294967296:=by omega
 generalize (c:Int)=s at h0
 rw[Int.tmod_eq_emod_of_nonneg h0.1,Int.tdiv_eq_ediv_of_nonneg h0.1,Int.tdiv_eq_ediv_of_nonneg h0.1,Int.tdiv_eq_ediv_of_nonneg h0.1]
 congr 2
 simp only[List.cons.injEq,and_true]
 omega
theorem headL_len (v:Int):(headL v).length=8:=rfl
end Go.Proofs.YtfflenbfapgilaaGreat

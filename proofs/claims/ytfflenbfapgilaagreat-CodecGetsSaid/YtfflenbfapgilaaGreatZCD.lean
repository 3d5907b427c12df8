/- Texts laid as one by shake.py, cut to what the claim needs: FrC, FrD, FrE, FrU. (Names that begin with W and the print's groups (G..x, G..z): laid by the kit's print, cut.) -/
import Derived.Test.YtfflenbfapgilaaGreatZCB
import Derived.Laws.IdiomStrings
import Derived.Test.YtfflenbfapgilaaGreatZCh
import Derived.Test.YtfflenbfapgilaaGreatZCk
import Derived.RegionTactic
import Derived.BigRegion
import Derived.ChangeAlike
import Derived.Test.YtfflenbfapgilaaGreatZCg
set_option linter.unusedVariables false
set_option linter.unusedSimpArgs false
set_option maxHeartbeats 8000000
set_option maxRecDepth 100000
open Go.RowKit Go.Proofs.YtfflenbfapgilaaGreatW.PrintWords
namespace Go.Proofs.YtfflenbfapgilaaGreat
open Go.Proofs.YtfflenbfapgilaaGreat.GVB
def Fresh (base:Nat) (W:World) (v:Value) (p:List Int):Prop:=
 ∃(b c:Nat) (C:Array Value) (fr:Nat×Nat),v= .slice (some ⟨b,0,none⟩) p.length c∧p.length≤c∧base≤b∧W.heap[b]? =some (.cells C 5 fr)∧(∀i,i<p.length→W.frozen? ⟨b,i,none⟩=false)∧Kd.C (Kd.int .u8) W (some ⟨b,0,none⟩) p.length p
theorem Fresh.below {base:Nat} {W W':World} {v:Value} {p:List Int} (h:Fresh base W v p) (hb:Below W.heap.size W W'):Fresh base W' v p:=by
 obtain⟨b,c,C,fr,h1,h2,h3,h4,h5,h6⟩:=h
 have hlt:b<W.heap.size:=(Array.getElem?_eq_some_iff.1 h4).1
 refine⟨b,c,C,fr,h1,h2,h3,(hb.block b hlt).trans h4,fun i hi=> ?_,Kd.C_below h6 hb⟩
 have:=h5 i hi
 simp only[World.frozen?]at this ⊢
 rw[hb.block b hlt];exact this
theorem Fresh.grown {base:Nat} {W W':World} {v:Value} {p:List Int} {row:Option Nat} (h:Fresh base W v p) (hg:W.grownBy W' row) (hr: ∀k,row=some k→∀C fr,W.heap[k]? ≠some (.cells C 5 fr)):Fresh base W' v p:=by
 obtain⟨b,c,C,fr,h1,h2,h3,h4,h5,h6⟩:=h
 have hlt:b<W.heap.size:=(Array.getElem?_eq_some_iff.1 h4).1
 have hne:some b≠row:=fun e=>hr b e.symm C fr h4
 have hblk:W'.heap[b]? =W.heap[b]? :=hg.block b hlt hne
 refine⟨b,c,C,fr,h1,h2,h3,hblk.trans h4,fun i hi=> ?_, ?_⟩
 ·have:=h5 i hi
  simp only[World.frozen?]at this ⊢
  rw[hblk];exact this
 ·refine⟨h6.1,h6.2.1,fun hn=> ?_⟩
  obtain⟨ad,e,hc⟩:=h6.2.2 hn
  cases e
  refine⟨_,rfl,fun j q hj=> ?_⟩
  obtain⟨cs,hk,hcs,hcell⟩:=hc j q hj
  refine⟨cs,hk,hcs,fun i u hu=> ?_⟩
  have hbk:((⟨b,0,none⟩:Addr).add (j*(Kd.int IntKind.u8).sz+i)).block=b:=by unfold Addr.add;split<;>rfl
  rw[hg.cell_far _ (by rw[hbk];exact hlt) (by rw[hbk];exact hne)]
  exact hcell i u hu
theorem Fresh.lower {base base':Nat} {W:World} {v:Value} {p:List Int} (h:Fresh base W v p) (hb:base'≤base):Fresh base' W v p:=by
 obtain⟨b,c,C,fr,h1,h2,h3,h⟩:=h
 exact⟨b,c,C,fr,h1,h2,Nat.le_trans hb h3,h⟩
theorem f_bytesOf_byte (s:ByteArray): ∀x∈bytesOf s,0≤x∧x<256:=by
 intro x hx
 simp only[bytesOf,List.mem_map]at hx
 obtain⟨y,_,rfl⟩:=hx
 have:=y.toNat_lt
 omega
theorem bytes_C (W:World) (L:List Int) (b cap:Nat) (fr:Nat×Nat) (hb: ∀x∈L,0≤x∧x<256) (hl:L.length≤9223372036854775807) (h:W.heap[b]? =some (.cells (bytesRow (strOfNums L) cap) 5 fr)):
  Kd.C (Kd.int .u8) W (some ⟨b,0,none⟩) L.length L:=by
 refine⟨rfl,hl,fun _=>⟨_,rfl,fun j p hj=>⟨[.int .u8 p],rfl,rfl,fun i u hu=> ?_⟩⟩⟩
 match i with
 | 0=>
  obtain⟨hj1,hj2⟩:=List.getElem?_eq_some_iff.1 hj
  have hs:(strOfNums L).data.size=L.length:=strOfNums_size L
  have h2:=bytesRow_at (strOfNums L) cap j (by rw[hs];exact hj1)
  have hp:=hb p (by rw[←hj2];exact List.getElem_mem _)
  have h3:(((strOfNums L).data[j]'(by rw[hs];exact hj1)).toNat:Int)=p:=by
   simp only[strOfNums,List.getElem_toArray,List.getElem_map,UInt8.toNat_ofNat']
   rw[hj2];omega
  rw[h3]at h2
  have hu':Value.int .u8 p=u:=by simpa using hu
  subst hu'
  have e0:(Addr.add ⟨b,0,none⟩ (j*(Kd.int IntKind.u8).sz+0):Addr)=⟨b,j,none⟩:=by
   simp[Addr.add,Kd.int,Kd.scalar]
   try (intro h;omega)
  rw[e0]
  show(World.cell? W ⟨b,j,none⟩)=_
  simp only[World.cell?,h]
  exact h2
 |i+1=>simp at hu
theorem fresh_bytes (w:World) (s:ByteArray) (cap:Nat) (hs:s.size≤cap) (hm:s.size≤9223372036854775807):
  Fresh w.heap.size (w.drew.alloc (.cells (bytesRow s cap) 5 ((bytesRow s cap).size,(bytesRow s cap).size+1))) (.slice (some ⟨w.heap.size,0,none⟩) s.size cap) (bytesOf s):=by
 have hl:(bytesOf s).length=s.size:=bytesOf_length s
 have hh:(w.drew.alloc (.cells (bytesRow s cap) 5 ((bytesRow s cap).size,(bytesRow s cap).size+1))).heap[w.heap.size]? =some (.cells (bytesRow s cap) 5 ((bytesRow s cap).size,(bytesRow s cap).size+1)):=heap_new w.drew _
 have hsz:(bytesRow s cap).size=cap:=by
  unfold bytesRow
  rw[Array.size_append,Array.size_map,Array.size_replicate]
  show s.size+_=_
  omega
 refine⟨w.heap.size,cap,bytesRow s cap,((bytesRow s cap).size,(bytesRow s cap).size+1),by rw[hl],by omega,Nat.le_refl _,hh,fun i hi=> ?_, ?_⟩
 ·rw[hl]at hi
  unfold World.frozen?
  rw[hh]
  show(decide (_≤i)&&decide _)=false
  rw[decide_eq_false (by rw[hsz];omega),Bool.false_and]
 ·refine bytes_C _ (bytesOf s) _ cap ((bytesRow s cap).size,(bytesRow s cap).size+1) (f_bytesOf_byte s) (by omega) ?_
  rw[bytes_str];exact hh
def fgetS (l:List Int) (a:Int):ByteArray×Int×Int:=
 if a=(l.length:Int)then(⟨#[]⟩,0,6)else
 if (bgetS l a 2048).2.2≠0 then(⟨#[]⟩,0,(bgetS l a 2048).2.2)else
 if (bgetS l a 2048).1.size=0 then(⟨#[]⟩,0,3)else
 if (l.length:Int)-(bgetS l a 2048).2.1<4 then(⟨#[]⟩,0,2)else
 if wholeB (l.drop a.toNat) ((bgetS l a 2048).2.1-a)=false then(⟨#[]⟩,0,4)else((bgetS l a 2048).1,(bgetS l a 2048).2.1+4,0)
section
variable (A:Option Addr) (c:Nat) (l:List Int) (w:World)
theorem fget_end (hl:l.length≤1000000):
  Calls Tryz.prog 44 #[.slice A l.length c,.int .i64 (l.length:Int)] w fun e w'=>e= .returned (.tuple #[.slice none 0 0,.int .i64 0,.int .i64 6])∧Below w.heap.size w w':=by
 go_enter Tryz.func44,Tryz.ntmps44
 go_wp2_with fail
 go_ret3
 exact⟨rfl,Below.refl _ _⟩
theorem fget_err (a:Int) (s:ByteArray) (q ec:Int) (hl:l.length≤1000000) (hne:(a==(l.length:Int))=false) (hec:(ec !=0)=true)
  (hg:Calls Tryz.prog 74 #[.slice A l.length c,.int .i64 a,.int .i64 2048] w fun e w'=>e= .returned (.tuple #[.string s,.int .i64 q,.int .i64 ec])∧Below w.heap.size w w'):
  Calls Tryz.prog 44 #[.slice A l.length c,.int .i64 a] w fun e w'=>e= .returned (.tuple #[.slice none 0 0,.int .i64 0,.int .i64 ec])∧Below w.heap.size w w':=by
 have HG:=hQ hg
 clear hg
 go_enter Tryz.func44,Tryz.ntmps44
 go_wp2_with fail
 refine HG.out.mono ?_
 rintro e w1 ⟨rfl,hb⟩
 go_wp2_with fail
 go_ret3
 exact⟨rfl,hb⟩
theorem fget_empty (a:Int) (q:Int) (hl:l.length≤1000000) (hne:(a==(l.length:Int))=false)
  (hg:Calls Tryz.prog 74 #[.slice A l.length c,.int .i64 a,.int .i64 2048] w fun e w'=>e= .returned (.tuple #[.string ⟨#[]⟩,.int .i64 q,.int .i64 0])∧Below w.heap.size w w'):
  Calls Tryz.prog 44 #[.slice A l.length c,.int .i64 a] w fun e w'=>e= .returned (.tuple #[.slice none 0 0,.int .i64 0,.int .i64 3])∧Below w.heap.size w w':=by
 have HG:=hQ hg
 clear hg
 go_enter Tryz.func44,Tryz.ntmps44
 go_wp2_with fail
 refine HG.out.mono ?_
 rintro e w1 ⟨rfl,hb⟩
 go_wp2_with fail
 go_ret3
 exact⟨rfl,hb⟩
theorem fget_short (a:Int) (s:ByteArray) (q:Int) (hl:l.length≤1000000) (hne:(a==(l.length:Int))=false) (hs1:s.toList.isEmpty=false) (hq:0≤q∧q≤1000000) (h4:decide ((l.length:Int)-q<4)=true)
  (hg:Calls Tryz.prog 74 #[.slice A l.length c,.int .i64 a,.int .i64 2048] w fun e w'=>e= .returned (.tuple #[.string s,.int .i64 q,.int .i64 0])∧Below w.heap.size w w'):
  Calls Tryz.prog 44 #[.slice A l.length c,.int .i64 a] w fun e w'=>e= .returned (.tuple #[.slice none 0 0,.int .i64 0,.int .i64 2])∧Below w.heap.size w w':=by
 have HG:=hQ hg
 clear hg
 obtain⟨hq1,hq2⟩:=hq
 go_enter Tryz.func44,Tryz.ntmps44
 go_wp2_with fail
 refine HG.out.mono ?_
 rintro e w1 ⟨rfl,hb⟩
 go_wp2_with fail
 go_ret3
 exact⟨rfl,hb⟩
def f_GetPost (w:World) (wb:Bool) (q:Nat) (s:ByteArray) (e:Ending) (w':World):Prop:=
 ∃v,e= .returned (.tuple #[v,.int .i64 (if wb then((q+4:Nat):Int)else 0),.int .i64 (if wb then 0 else 4)])∧(wb=false∧v= .slice none 0 0∨wb=true∧Fresh w.heap.size w' v (bytesOf s))∧Below w.heap.size w w'
theorem C_drop (lo:Nat) (hlo:lo≤l.length) (ad:Addr) (h:Kd.C (Kd.int .u8) w (some ad) l.length l):Kd.C (Kd.int .u8) w (some (ad.add lo)) (l.drop lo).length (l.drop lo):=by
 refine⟨rfl,by have:=h.2.1;rw[List.length_drop];omega,fun hn=>⟨_,rfl,fun j q hj=> ?_⟩⟩
 obtain⟨ad2,e,hc⟩:=h.2.2 (by rw[List.length_drop]at hn;omega)
 cases e
 rw[List.getElem?_drop]at hj
 obtain⟨cs,hk,hcs,hcell⟩:=hc (lo+j) q hj
 refine⟨cs,hk,hcs,fun i u hu=> ?_⟩
 have:=hcell i u hu
 rw[show(Kd.int IntKind.u8).sz=1 from rfl,Nat.mul_one]at this ⊢
 rw[show(ad.add lo).add (j+i)=ad.add (lo+j+i)by rw[Addr.add_add,Nat.add_assoc]]
 exact this
theorem fget_sum (ad:Addr) (lo q:Nat) (s:ByteArray) (wb:Bool) (hl:l.length≤1000000) (hlc:l.length≤c) (hne:((lo:Int)==(l.length:Int))=false) (hlo:lo<l.length) (hs1:s.toList.isEmpty=false) (hq:lo≤q∧q+4≤l.length) (hsz:s.size≤1000000)
  (hg:Calls Tryz.prog 74 #[.slice (some ad) l.length c,.int .i64 (lo:Int),.int .i64 2048] w fun e w'=>e= .returned (.tuple #[.string s,.int .i64 (q:Int),.int .i64 0])∧Below w.heap.size w w')
  (hw: ∀W,Below w.heap.size w W→Calls Tryz.prog 20 #[.slice (some (ad.add lo)) (l.length-lo) (c-lo),.int .i64 ((q-lo:Nat):Int)] W fun e w'=>e= .returned (.bool wb)∧Below W.heap.size W w'):
  Calls Tryz.prog 44 #[.slice (some ad) l.length c,.int .i64 (lo:Int)] w (f_GetPost w wb q s):=by
 have HG:=hQ hg
 have HW:=hQ hw
 clear hg hw
 have HQ:=hQ hq
 have d4:decide ((l.length:Int)-(q:Int)<4)=false:=decide_eq_false (by omega)
 have hqlo:(q:Int)-(lo:Int)=((q-lo:Nat):Int):=by omega
 have hq2:q≤1000000:=by omega
 have kb:=fun(W:World)=>run_bytes_of_string (P:=Tryz.prog) W 9 22 5 s Tryz.underlying9 Tryz.underlying22 Tryz.underlying5
 clear hq
 go_enter Tryz.func44,Tryz.ntmps44
 go_wp2_with fail
 refine HG.out.mono ?_
 rintro e w1 ⟨rfl,hb⟩
 have HB1:=hQ hb
 clear hb
 go_wp2_with fail
 refine(HW.out w1 HB1.out).mono ?_
 rintro e w2 ⟨rfl,hb⟩
 have HB2:=hQ (HB1.out.trans (hb.mono HB1.out.size))
 clear hb
 cases wb
 ·go_wp2_with fail
  go_ret3
  exact⟨_,rfl,.inl ⟨rfl,rfl⟩,HB2.out⟩
 ·go_wp2_with fail
  obtain⟨cap,hcap⟩:=eX (grownCap w2 s.size 0 5)
  have hge:s.size≤cap:=by rw[←hcap];exact grownCap_ge _ _ _ _
  rw[hcap]
  have hF:=fresh_bytes w2 s cap hge (by omega)
  go_ret3
  refine⟨_,rfl,.inr ⟨rfl,hF.lower HB2.out.size⟩, ?_⟩
  exact HB2.out.drew.alloc HB2.out.size _
end
end Go.Proofs.YtfflenbfapgilaaGreat
namespace Go.Proofs.YtfflenbfapgilaaGreat
variable {F:Fence} {n:Nat} {P:Program}
theorem range_rel {g:Operand} {ps:Array Tmp} {assign body:Code} {Q:Exit→Act→World→Prop} {a:Act} {w:World}
  (hro:F.round=none) (h1:F.depth.isSome=true→1≤n) {gf:Nat} {lb:Array Value} (hg:a.eval g= .func (.func gf) #[] lb) (hFg:F.fn gf) (eg: ∀args w,(callFunc gf args).run P w= .ok (.enter gf args) w)
  (N:Nat) (J:Nat→World→Prop) (Mid:Nat→Array Value→World→Prop) (hps: ∀i x W,Mid i x W→x.size=ps.size)
  (hJ0: ∀r,J 0 ((w.alloc (.deferred (some []))).alloc (.loop r)))
  (hJp: ∀i W l r o,w.heap.size≤l→W.heap[l]? =some (.loop r)→J i W→J i (W.putObj l o))
  (hMp: ∀i x W l r o,w.heap.size≤l→W.heap[l]? =some (.loop r)→Mid i x W→Mid i x (W.putObj l o))
  (a₁:Array Value→Act)
  (hassign: ∀(l i:Nat) (x:Array Value) (W:World) (K:Act→World→Prop),Mid i x W→K (a₁ x) W→
   assign.wpIn (F.inRound l) (n-1-1) P (Exit.then K (fun _ _ _=>False)) { tmps:=(ps.zip x).foldl (fun t (p,v)=>t.setIfInBounds p v) a.tmps,defers:=[] } W)
  (hbody: ∀(l D i:Nat) (x:Array Value) (W:World),w.heap.size≤D→w.heap.size≤l→l≠D→l<W.heap.size→(∃r,W.heap[l]? =some (.loop r))→W.heap[D]? =some (.deferred (some []))→i<N→Mid i x W→body.wpIn (F.inRound l) (n-1-1) P (bodyEnd l D W (J (i+1))) (a₁ x) W)
  (hiter: ∀(l D:Nat) (r:Loop) (W:World),w.heap.size≤D→w.heap.size≤l→l≠D→J 0 W→Ready l D r W→
   (∀i x W1,i<N→Mid i x W1→Ready l D r W1→Round F (n-1-1) P l D r x W1 (J (i+1)))→
   CallsIn F (n-1) P gf (#[.func (.yield l) #[] #[]]++lb) W fun e W'=>(∃v,e= .returned v)∧J N W'∧Ready l D r W')
  (hdone: ∀(D:Nat) (W:World),w.heap.size≤D→J N W→W.heap[D]? =some (.deferred (some []))→Q .normal { a with defers:={ target:= .collected D,args:=#[] }::a.defers } W):
  (Code.rangeFunc g ps assign body).wpIn F n P Q a w:=by
 refine wpIn_rangeFunc ?_
 intro fn hfn
 rw[hro]
 obtain⟨rec,hrec⟩: ∃rec:LoopState→Option Code→Loop,rec=fun st pe=>{ state:=st,pending:=pe,fn,tmps:=a.tmps,params:=ps,assign,body,defers:=w.heap.size }:=⟨_,rfl⟩
 obtain⟨W1,hW1⟩:=eX ((w.alloc (.deferred (some []))).alloc (.loop (rec .ready none)))
 have hL1:W1.heap[w.heap.size+1]? =some (.loop (rec .ready none)):=by
  rw[←hW1];have:=World.alloc_heap_new (w.alloc (.deferred (some []))) (.loop (rec .ready none));rwa [World.size_alloc]at this
 have hK1:W1.heap[w.heap.size]? =some (.deferred (some [])):=by
  rw[←hW1];exact(Below.heap_alloc _ _ _ (by simp)).trans (World.alloc_heap_new w _)
 have hI1:J 0 W1:=by rw[←hW1];exact hJ0 _
 refine ⟨w.heap.size+1,[{ target:= .collected w.heap.size,args:=#[] }],W1,{ target:= .fn (.func gf) lb,args:=#[.func (.yield (w.heap.size+1)) #[] #[]] },W1,gf,
  #[.func (.yield (w.heap.size+1)) #[] #[]]++lb,W1, ?_, ?_, ?_, ?_,h1, ?_⟩
 ·rw[←hW1,hrec];exact run_enterLoop_outer _ _ _ _ _
 ·simp only[resolve,hg]
  simp[go_sem]
 ·intro f' hf';simp[Target.leads]at hf';subst hf';exact hFg
 ·simp[invoke,go_sem,eg]
 ·refine (hiter (w.heap.size+1) w.heap.size (rec .ready none) W1 (Nat.le_refl _) (by omega) (by omega) hI1 ⟨hL1,hK1⟩ ?_).mono ?_
  ·rintro i x W hx hi ⟨hl,hk⟩
   have hlt:w.heap.size+1<W.heap.size:=(Array.getElem?_eq_some_iff.1 hl).1
   have hy:=run_yield (P:=P) (args:=x) hl (by rw[hrec];exact hps i x W hi)
   rw[hrec]at hy
   refine⟨fn,_,assign,body,hy,roundIn_of_wpIn hfn (hassign _ i x W _ hi ⟨_,run_beginRound hl (by rw[hrec]), ?_⟩)⟩
   have hl2:(W.putObj (w.heap.size+1) (.loop { rec .ready none with state:= .busy })).heap[w.heap.size+1]? =some (.loop { rec .ready none with state:= .busy }):=World.putObj_heap_same hlt
   have hk2:(W.putObj (w.heap.size+1) (.loop { rec .ready none with state:= .busy })).heap[w.heap.size]? =some (.deferred (some [])):=(World.putObj_heap_other (by omega)).trans hk
   refine wpIn_mono (hbody (w.heap.size+1) w.heap.size i x _ (Nat.le_refl _) (by omega) (by omega) (by rw[World.putObj_size];exact hlt) ⟨_,hl2⟩ hk2 hx (hMp i x W _ _ _ (by omega) hl hi)) ?_
   rintro e a3 W3 hp
   cases e with
   |normal=>
    obtain⟨hi3,hl3',hk3'⟩:=hp
    have hl3:=hl3'.trans hl2
    have hk3:=hk3'.trans hk2
    have hr:=run_endRound (P:=P) none hl3
    refine⟨_,_,hr,rfl,hJp _ _ _ _ _ (by omega) hl3 hi3, ?_,(World.putObj_heap_other (by omega)).trans hk3⟩
    rw[World.putObj_heap_same (Array.getElem?_eq_some_iff.1 hl3).1]
    rw[hrec];rfl
   |ret=>exact hp.elim
   |exit id=>exact hp.elim
   |goto t=>exact hp.elim
   |panic ch=>exact hp.elim
   |outgrown=>exact hp.elim
  ·rintro e W2 ⟨⟨v,rfl⟩,hi,hl,hk⟩
   exact⟨none,_,by have:=run_endLoop (P:=P) hl (by rw[hrec];simp);rw[hrec]at this;exact this,hdone _ _ (Nat.le_refl _) (hJp _ _ _ _ _ (by omega) hl hi) ((World.putObj_heap_other (by omega)).trans hk)⟩
end Go.Proofs.YtfflenbfapgilaaGreat
namespace Go.Proofs.YtfflenbfapgilaaGreat
open Go.Proofs.YtfflenbfapgilaaGreat.GVB
theorem toList_empty {s:ByteArray} (h:s.size≠0):s.toList.isEmpty=false:=by
 rw[List.isEmpty_eq_false_iff]
 intro e
 apply h
 have:s.toList.length=s.size:=by rw[Lib.toList_data,Array.length_toList];rfl
 rw[←this,e];rfl
theorem fgetS_cases (l:List Int) (hb: ∀x∈l,0≤x∧x<256) (a:Int):(∃e:Int,fgetS l a=(⟨#[]⟩,0,e)∧1≤e∧e≤6)∨
  ∃lo p q:Nat,a=(lo:Int)∧lo<p∧p<q∧q+4≤l.length∧q-p≤2048∧fgetS l a=(strOfNums ((l.take q).drop p),((q+4:Nat):Int),0):=by
 unfold fgetS
 by_cases h0:a=(l.length:Int)
 ·rw[if_pos h0];exact .inl ⟨6,rfl,by omega,by omega⟩
 rw[if_neg h0]
 rcases bgetS_cases l hb a 2048 with⟨e,he,h⟩|⟨lo,p,q,ha,hg,h1,h2,h3,h4⟩
 ·rw[he,if_pos (by show e≠0;omega)];exact .inl ⟨e,rfl,by omega,by omega⟩
 ·rw [hg,if_neg (by simp)]
  dsimp only
  have hs:(strOfNums ((l.take q).drop p)).size=q-p:=by rw[strOfNums_size,List.length_drop,List.length_take];omega
  by_cases c1:(strOfNums ((l.take q).drop p)).size=0
  ·rw[if_pos c1];exact .inl ⟨3,rfl,by omega,by omega⟩
  rw[if_neg c1]
  by_cases c2:(l.length:Int)-(q:Int)<4
  ·rw[if_pos c2];exact .inl ⟨2,rfl,by omega,by omega⟩
  rw[if_neg c2]
  split
  ·exact .inl ⟨4,rfl,by omega,by omega⟩
  ·refine .inr ⟨lo,p,q,ha,h1,by omega,by omega, ?_, ?_⟩
   ·simp at h4;omega
   ·congr 2
def FGet (w:World) (l:List Int) (a:Int) (e:Ending) (w':World):Prop:=
 ∃v,e= .returned (.tuple #[v,.int .i64 (fgetS l a).2.1,.int .i64 (fgetS l a).2.2])∧((fgetS l a).2.2≠0∧v= .slice none 0 0∨(fgetS l a).2.2=0∧Fresh w.heap.size w' v (bytesOf (fgetS l a).1))∧Below w.heap.size w w'
theorem fget_any (A:Option Addr) (c:Nat) (l:List Int) (a:Int) (w:World) (hC:Kd.C (Kd.int .u8) w A l.length l) (hc:l.length≤c) (hb: ∀x∈l,0≤x∧x<256) (hl:l.length≤1000000):
  Calls Tryz.prog 44 #[.slice A l.length c,.int .i64 a] w (FGet w l a):=by
 by_cases h0:a=(l.length:Int)
 ·refine(h0 ▸ fget_end A c l w hl).mono ?_
  rintro e w' ⟨rfl,hB⟩
  refine⟨_, ?_,.inl ⟨?_,rfl⟩,hB⟩
  ·unfold fgetS;rw[if_pos h0]
  ·unfold fgetS;rw[if_pos h0];decide
 have hne:(a==(l.length:Int))=false:=by simpa using h0
 have hg:=bget_any A c l 2048 w a hC hc hb (by omega) (by omega)
 rcases bgetS_cases l hb a 2048 with⟨ec,he,h⟩|⟨lo,p,q,ha,hgs,h1,h2,h3,h4⟩
 ·rw[he]at hg
  have e:fgetS l a=(⟨#[]⟩,0,ec):=by unfold fgetS;rw[if_neg h0,he,if_pos (by show ec≠0;omega)]
  refine(fget_err A c l w a ⟨#[]⟩ 0 ec hl hne (by simp;omega) hg).mono ?_
  rintro e' w' ⟨rfl,hB⟩
  refine⟨_, ?_,.inl ⟨?_,rfl⟩,hB⟩
  ·rw[e]
  ·rw[e];show ec≠0;omega
 ·rw [hgs]at hg
  have hs:(strOfNums ((l.take q).drop p)).size=q-p:=by rw[strOfNums_size,List.length_drop,List.length_take];omega
  by_cases c1:(strOfNums ((l.take q).drop p)).size=0
  ·have e:fgetS l a=(⟨#[]⟩,0,3):=by unfold fgetS;rw[if_neg h0,hgs,if_neg (by simp),if_pos c1]
   have hz:strOfNums ((l.take q).drop p)=⟨#[]⟩:=by
    apply ByteArray.ext
    exact Array.eq_empty_of_size_eq_zero c1
   rw[hz]at hg
   refine(fget_empty A c l w a (q:Int) hl hne hg).mono ?_
   rintro e' w' ⟨rfl,hB⟩
   exact⟨_,by rw[e],.inl ⟨by rw[e];decide,rfl⟩,hB⟩
  ·have hs1:=toList_empty c1
   by_cases c2:(l.length:Int)-(q:Int)<4
   ·have e:fgetS l a=(⟨#[]⟩,0,2):=by unfold fgetS;rw[if_neg h0,hgs,if_neg (by simp),if_neg c1,if_pos c2]
    refine(fget_short A c l w a _ (q:Int) hl hne hs1 (by omega) (decide_eq_true c2) hg).mono ?_
    rintro e' w' ⟨rfl,hB⟩
    exact⟨_,by rw[e],.inl ⟨by rw[e];decide,rfl⟩,hB⟩
   ·subst ha
    obtain⟨ad,rfl,_⟩:=hC.2.2 (by omega)
    have hdl:(l.drop lo).length=l.length-lo:=List.length_drop
    have hq2:(q:Int)-(lo:Int)=((q-lo:Nat):Int):=by omega
    have hw: ∀W,Below w.heap.size w W→Calls Tryz.prog 20 #[.slice (some (ad.add lo)) (l.length-lo) (c-lo),.int .i64 ((q-lo:Nat):Int)] W fun e w'=>e= .returned (.bool (wholeB (l.drop lo) ((q-lo:Nat):Int)))∧Below W.heap.size W w':=by
     intro W hW
     have:=whole_any (some (ad.add lo)) (c-lo) (l.drop lo) ((q-lo:Nat):Int) W (C_drop l W lo (by omega) ad (Kd.C_below hC hW)) (by omega) (fun x hx=>hb x (List.mem_of_mem_drop hx)) (by omega) (by omega)
     rwa [hdl]at this
    obtain⟨wb,hwb⟩:=eX (wholeB (l.drop lo) ((q-lo:Nat):Int))
    rw[hwb]at hw
    refine(fget_sum c l w ad lo q _ wb hl hc hne (by omega) hs1 (by omega) (by omega) hg hw).mono ?_
    rintro e' w' ⟨v,rfl,hv,hB⟩
    have e:fgetS l (lo:Int)=if wb=false then(⟨#[]⟩,0,4)else(strOfNums ((l.take q).drop p),((q+4:Nat):Int),0):=by
     unfold fgetS
     rw[if_neg h0,hgs,if_neg (by simp),if_neg c1,if_neg c2]
     dsimp only
     rw[Int.toNat_natCast,hq2,hwb]
     rfl
    cases wb
    ·rcases hv with⟨_,hv⟩|⟨h,_⟩
     ·exact⟨_,by rw[e];rfl,.inl ⟨by rw[e];show(4:Int)≠0;decide,hv⟩,hB⟩
     ·cases h
    ·rcases hv with⟨h,_⟩|⟨_,hv⟩
     ·cases h
     ·exact⟨_,by rw[e];rfl,.inr ⟨by rw[e];rfl,by rw[e];exact hv⟩,hB⟩
def frunS:Nat→List Int→Int→List (ByteArray×Int)
 | 0,_,_=>[]
 |k+1,l,a=>if (fgetS l a).2.2=0 then((fgetS l a).1,(fgetS l a).2.1)::frunS k l (fgetS l a).2.1 else []
def runs (l:List Int) (a:Int):List (ByteArray×Int):=frunS (l.length+1) l a
def behind (xs:List (ByteArray×Int)) (a:Int) (i:Nat):Int:=if i=0 then a else(xs.getD (i-1) (⟨#[]⟩,0)).2
theorem fgetS_far (l:List Int) (hb: ∀x∈l,0≤x∧x<256) (a:Int) (h:(fgetS l a).2.2=0):0≤a∧a+6≤(fgetS l a).2.1∧(fgetS l a).2.1≤l.length:=by
 rcases fgetS_cases l hb a with⟨e,he,h1,h2⟩|⟨lo,p,q,ha,h1,h2,h3,h4,he⟩
 ·rw[he]at h;simp at h;omega
 ·rw[he];dsimp only;omega
theorem frunS_at (l:List Int) (hb: ∀x∈l,0≤x∧x<256): ∀(k:Nat) (a:Int),(0≤a→(l.length:Int)-a<k)→1≤k→∀i,i≤(frunS k l a).length→
  (∀x,(frunS k l a)[i]? =some x→(fgetS l (behind (frunS k l a) a i)).2.2=0∧x=((fgetS l (behind (frunS k l a) a i)).1,(fgetS l (behind (frunS k l a) a i)).2.1))∧((frunS k l a)[i]? =none→(fgetS l (behind (frunS k l a) a i)).2.2≠0):=by
 intro k
 induction k with
 |zero=>intro a _ h;omega
 | succ k ih=>
  intro a hk _ i hi
  by_cases h:(fgetS l a).2.2=0
  ·have hf:=fgetS_far l hb a h
   have e:frunS (k+1) l a=((fgetS l a).1,(fgetS l a).2.1)::frunS k l (fgetS l a).2.1:=by rw[frunS,if_pos h]
   rw[e]at hi ⊢
   match i with
   | 0=>exact⟨fun x hx=>⟨h,by simpa [behind]using hx.symm⟩,fun hx=>by simp at hx⟩
   | i+1=>
    have hk2:=hk hf.1
    have hi':i≤(frunS k l (fgetS l a).2.1).length:=by simpa using hi
    have:=ih (fgetS l a).2.1 (fun _=>by omega) (by omega) i hi'
    have eb:behind (((fgetS l a).1,(fgetS l a).2.1)::frunS k l (fgetS l a).2.1) a (i+1)=behind (frunS k l (fgetS l a).2.1) (fgetS l a).2.1 i:=by
     unfold behind
     rw[if_neg (by omega),Nat.add_sub_cancel]
     match i with
     | 0=>rfl
     |i+1=>rw[if_neg (by omega),Nat.add_sub_cancel];rfl
    rw[eb,List.getElem?_cons_succ]
    exact this
  ·have e:frunS (k+1) l a=[]:=by rw[frunS,if_neg h]
   rw[e]at hi ⊢
   have:i=0:=by simpa using hi
   subst this
   exact⟨fun x hx=>by simp at hx,fun _=>h⟩
theorem runs_at (l:List Int) (hb: ∀x∈l,0≤x∧x<256) (a:Int) (i:Nat) (hi:i≤(runs l a).length):
  (∀x,(runs l a)[i]? =some x→(fgetS l (behind (runs l a) a i)).2.2=0∧x=((fgetS l (behind (runs l a) a i)).1,(fgetS l (behind (runs l a) a i)).2.1))∧((runs l a)[i]? =none→(fgetS l (behind (runs l a) a i)).2.2≠0):=
 frunS_at l hb _ a (fun h=>by omega) (by omega) i hi
theorem runs_len: ∀(k:Nat) (l:List Int) (a:Int),(frunS k l a).length≤k:=by
 intro k
 induction k with
 |zero=>intro l a;simp[frunS]
 |succ k ih=>
  intro l a
  rw[frunS]
  split
  ·rw[List.length_cons];have:=ih l (fgetS l a).2.1;omega
  ·simp
attribute [local go_sem] Oper.semAt_some
theorem info_sl:(Tryz.prog.info? 22).map (fun i=>(i.zero,i.size,i.bytes))=some (some (.slice none 0 0),1,24):=by kernel_rfl
theorem info_i64:(Tryz.prog.info? 3).map (fun i=>(i.zero,i.size,i.bytes))=some (some (.int .i64 0),1,8):=by kernel_rfl
theorem frames_any (A:Option Addr) (c:Nat) (l:List Int) (a:Int) (w:World):
  Calls Tryz.prog 22 #[.slice A l.length c,.int .i64 a] w fun e w'=>e= .returned (.func (.func 43) #[] #[.pointer (some ⟨w.heap.size,0,none⟩),.pointer (some ⟨w.heap.size+1,0,none⟩)])∧(w.alloc (.cells #[.slice A l.length c] 22)).alloc (.cells #[.int .i64 a] 3)=w':=by
 go_enter Tryz.func22,Tryz.ntmps22
 go_wp2
 go_ret
 exact⟨rfl,rfl⟩
structure Going (w:World) (B:Nat) (A:Option Addr) (c:Nat) (l:List Int) (a:Int) (i j:Nat) (W:World):Prop where
 src:W.heap[w.heap.size+2]? =some (.cells #[.slice A l.length c] 22 (0,0))
 at_:W.heap[w.heap.size+3]? =some (.cells #[.int .i64 (behind (runs l a) a j)] 3 (0,0))
 ps: ∃v vs,W.heap[w.heap.size]? =some (.cells #[v] 40 (0,0))∧Kd.R valK 22 W B (fun _=>True) v vs∧vs.length=i∧∀(k:Nat) (x: {v:Value //v.oneCell'=true}) (y:ByteArray×Int),vs[k]? =some x→(runs l a)[k]? =some y→Fresh B W x.1 (bytesOf y.1)
 es: ∃v,W.heap[w.heap.size+1]? =some (.cells #[v] 25 (0,0))∧Kd.R (Kd.int .i64) 3 W B (fun _=>True) v (((runs l a).take i).map (·.2))
 old:Below w.heap.size w W
theorem Fresh.move {base:Nat} {W W':World} {v:Value} {p:List Int} (h:Fresh base W v p) (hm: ∀(b:Nat) (C:Array Value) (fr:Nat×Nat),W.heap[b]? =some (Obj.cells C 5 fr)→W'.heap[b]? =W.heap[b]?):Fresh base W' v p:=by
 obtain⟨b,c,C,fr,h1,h2,h3,h4,h5,h6⟩:=h
 have hblk:=hm b C fr h4
 refine⟨b,c,C,fr,h1,h2,h3,hblk.trans h4,fun i hi=> ?_, ?_⟩
 ·have:=h5 i hi
  simp only[World.frozen?]at this ⊢
  rw[hblk];exact this
 ·refine⟨h6.1,h6.2.1,fun hn=> ?_⟩
  obtain⟨ad,e,hc⟩:=h6.2.2 hn
  cases e
  refine⟨_,rfl,fun j q hj=> ?_⟩
  obtain⟨cs,hk,hcs,hcell⟩:=hc j q hj
  refine⟨cs,hk,hcs,fun i u hu=> ?_⟩
  have hbk:((⟨b,0,none⟩:Addr).add (j*(Kd.int IntKind.u8).sz+i)).block=b:=by unfold Addr.add;split<;>rfl
  have h7:=hcell i u hu
  unfold World.cell? at h7 ⊢
  rw[hbk]at h7 ⊢
  rw[hblk];exact h7
section
variable (S B c4 c5:Nat) (v4 v5:Value) (px: {v:Value //v.oneCell'=true}) (n:Int) (vs:List {v:Value //v.oneCell'=true}) (es:List Int) (okP okE:Nat→Prop) (Rest:World→Prop)
def VRun:Nat→Value→World→Prop
 | 0,v,_=>v=v4
 | 1,v,_=>v=px.1
 | 2,v,X=>∃b,v= .slice (some ⟨b,0,none⟩) 1 1∧S≤b∧X.heap[b]? =some (.cells #[px.1] 22 (0,0))
 | 3,v,X=>Kd.R valK 22 X B okP v (vs++[px])
 | 4,v,_=>v=v5
 | 5,v,_=>v= .int .i64 n
 | 6,v,X=>∃b,v= .slice (some ⟨b,0,none⟩) 1 1∧S≤b∧X.heap[b]? =some (.cells #[.int .i64 n] 3 (0,0))
 | 7,v,X=>Kd.R (Kd.int .i64) 3 X B okE v (es++[n])
 |_,_,_=>True
def FRun:Nat→World→Prop
 | 8,X=>∃v,X.heap[c4]? =some (.cells #[v] 40 (0,0))∧Kd.R valK 22 X B okP v (vs++[px])
 | 9,X=>(∃v,X.heap[c5]? =some (.cells #[v] 25 (0,0))∧Kd.R (Kd.int .i64) 3 X B okE v (es++[n]))∧Rest X
 |_,_=>True
def GRun:Nat→World→Prop
 | 0,X=>X.heap[c4]? =some (.cells #[v4] 40 (0,0))
 | 8,X=>X.heap[c4]? =some (.cells #[v4] 40 (0,0))
 | 3,X=>Kd.R valK 22 X B okP v4 vs
 | 4,X=>X.heap[c5]? =some (.cells #[v5] 25 (0,0))
 | 7,X=>Kd.R (Kd.int .i64) 3 X B okE v5 es
 | 9,X=>X.heap[c5]? =some (.cells #[v5] 25 (0,0))∧Rest X
 |_,_=>True
end
def RestOf (row:Nat→Option Nat) (W X:World):Prop:=∀q,q<W.heap.size→(∀i,row i≠some q)→X.heap[q]? =W.heap[q]?
theorem RestOf.step {row:Nat→Option Nat} {W X X':World} (h:RestOf row W X) (hs:W.heap.size≤X.heap.size) {i:Nat} (hg:X.grownBy X' (row i)):RestOf row W X':=
 fun q hq hr=>(hg.block q (by omega) (fun e=>hr i e.symm)).trans (h q hq hr)
def rowsOf (r3 r7:Option Nat) (c4 c5:Nat) (i:Nat):Option Nat:=match i with| 3=>r3| 7=>r7| 8=>some c4| 9=>some c5|_=>none
theorem rowsOf_lt {r3 r7:Option Nat} {c4 c5 S:Nat} (h3: ∀k,r3=some k→k<S) (h7: ∀k,r7=some k→k<S) (h4:c4<S) (h5:c5<S) (i k:Nat) (h:rowsOf r3 r7 c4 c5 i=some k):k<S:=by
 unfold rowsOf at h
 split at h
 ·exact h3 k h
 ·exact h7 k h
 ·cases h;exact h4
 ·cases h;exact h5
 ·cases h
theorem rowsOf_ne {r3 r7:Option Nat} {c4 c5:Nat} (i k:Nat) (h3:i≠3∨some k≠r3) (h7:i≠7∨some k≠r7) (h4:i≠8∨k≠c4) (h5:i≠9∨k≠c5):some k≠rowsOf r3 r7 c4 c5 i:=by
 unfold rowsOf
 split
 ·exact h3.resolve_left (by omega)
 ·exact h7.resolve_left (by omega)
 ·intro e;cases e;exact(h4.resolve_left (by omega)) rfl
 ·intro e;cases e;exact(h5.resolve_left (by omega)) rfl
 ·intro e;cases e
theorem fresh_putObj {base:Nat} {W:World} {v:Value} {p:List Int} {l:Nat} {r:Loop} (o:Obj) (h:Fresh base W v p) (hl:W.heap[l]? =some (.loop r)):Fresh base (W.putObj l o) v p:=
 h.grown (grownBy_putObj' W l o) (fun k hk C fr hc=>by cases hk;rw[hl]at hc;cases hc)
theorem Going.putObj {w:World} {B:Nat} {A:Option Addr} {c:Nat} {l:List Int} {a:Int} {i j:Nat} {W:World} (h:Going w B A c l a i j W) {k:Nat} {r:Loop} (o:Obj) (hk:w.heap.size≤k) (hl:W.heap[k]? =some (.loop r)):Going w B A c l a i j (W.putObj k o):=by
 obtain⟨v,vs,h1,h2,h3,h4⟩:=h.ps
 obtain⟨u,h5,h6⟩:=h.es
 exact⟨heap_putObj o h.src hl,heap_putObj o h.at_ hl,⟨v,vs,heap_putObj o h1 hl,R_putObj o h2 hl,h3,fun q x y hx hy=>fresh_putObj o (h4 q x y hx hy) hl⟩,⟨u,heap_putObj o h5 hl,R_putObj o h6 hl⟩,below_putObj o h.old hk⟩
theorem Going.below {w:World} {B:Nat} {A:Option Addr} {c:Nat} {l:List Int} {a:Int} {i j:Nat} {W X:World} (h:Going w B A c l a i j W) (hb:Below W.heap.size W X):Going w B A c l a i j X:=by
 obtain⟨v,vs,h1,h2,h3,h4⟩:=h.ps
 obtain⟨u,h5,h6⟩:=h.es
 exact⟨blk_below h.src hb,blk_below h.at_ hb,⟨v,vs,blk_below h1 hb,Kd.R_below h2 hb,h3,fun q x y hx hy=>(h4 q x y hx hy).below hb⟩,⟨u,blk_below h5 hb,Kd.R_below h6 hb⟩,h.old.trans (hb.mono h.old.size)⟩
theorem Going.setAt {w:World} {A:Option Addr} {c:Nat} {l:List Int} {a:Int} {i j j':Nat} {W:World} (h:Going w (w.heap.size+4) A c l a i j W) (n:Int) (hn:n=behind (runs l a) a j'):Going w (w.heap.size+4) A c l a i j' (W.setCell ⟨w.heap.size+3,0,none⟩ (.int .i64 n)):=by
 obtain⟨v,vs,h1,h2,h3,h4⟩:=h.ps
 obtain⟨u,h5,h6⟩:=h.es
 have hb: ∀q,q≠w.heap.size+3→(W.setCell ⟨w.heap.size+3,0,none⟩ (.int .i64 n)).heap[q]? =W.heap[q]? :=fun q hq=>Below.heap_setCell _ _ _ _ hq
 have hmv: ∀(b:Nat) (C:Array Value) (fr:Nat×Nat),W.heap[b]? =some (Obj.cells C 5 fr)→(W.setCell ⟨w.heap.size+3,0,none⟩ (.int .i64 n)).heap[b]? =W.heap[b]? :=fun b C fr hc=>hb b (by rintro rfl;rw[h.at_]at hc;cases hc)
 refine⟨(hb _ (by omega)).trans h.src, ?_,⟨v,vs,(hb _ (by omega)).trans h1, ?_,h3,fun q x y hx hy=>(h4 q x y hx hy).move hmv⟩,⟨u,(hb _ (by omega)).trans h5, ?_⟩,h.old.setCell (by show w.heap.size≤w.heap.size+3;omega) _⟩
 ·rw[←hn];simpa using blk_set h.at_ 0 (.int .i64 n)
 ·exact Kd.R_mono (Kd.R_step (Kd.R_bound h2) (fun k hk _=>hb k (by omega))) (fun _ _=>trivial)
 ·exact Kd.R_mono (Kd.R_step (Kd.R_bound h6) (fun k hk _=>hb k (by omega))) (fun _ _=>trivial)
theorem Going.alloc {w:World} {B:Nat} {A:Option Addr} {c:Nat} {l:List Int} {a:Int} {i j:Nat} {W:World} (h:Going w B A c l a i j W) (o:Obj):Going w B A c l a i j (W.alloc o):=by
 obtain⟨v,vs,h1,h2,h3,h4⟩:=h.ps
 obtain⟨u,h5,h6⟩:=h.es
 exact⟨blk_alloc h.src o,blk_alloc h.at_ o,⟨v,vs,blk_alloc h1 o,Kd.R_alloc h2 o,h3,fun q x y hx hy=>(h4 q x y hx hy).below ((Below.refl _ _).alloc (Nat.le_refl _) o)⟩,⟨u,blk_alloc h5 o,Kd.R_alloc h6 o⟩,h.old.alloc h.old.size o⟩
def FRunPost (w:World) (l:List Int) (a:Int) (e:Ending) (w':World):Prop:=
 ∃v1 v2 vs,e= .returned (.tuple #[v1,v2])∧Kd.R valK 22 w' w.heap.size (fun _=>True) v1 vs∧Kd.R (Kd.int .i64) 3 w' w.heap.size (fun _=>True) v2 ((runs l a).map (·.2))∧vs.length=(runs l a).length∧
  (∀(k:Nat) (x: {v:Value //v.oneCell'=true}) (y:ByteArray×Int),vs[k]? =some x→(runs l a)[k]? =some y→Fresh w.heap.size w' x.1 (bytesOf y.1))∧Below w.heap.size w w'
theorem frun_any (A:Option Addr) (c:Nat) (l:List Int) (a:Int) (w:World) (hC:Kd.C (Kd.int .u8) w A l.length l) (hc:l.length≤c) (hb: ∀x∈l,0≤x∧x<256) (hl:l.length≤1000000):
  Calls Tryz.prog 10 #[.slice A l.length c,.int .i64 a] w (FRunPost w l a):=by
 have HC:=hQ hC
 clear hC
 refine callsIn_wide (n:=9).1 ?_
 refine callsIn_of_wp_marks Tryz.func10 rfl trivial ?_
 simp only[Tryz.ntmps10,List.size_toArray,List.length_cons,List.length_nil,Nat.reduceAdd,Nat.reduceSub,Array.replicate_succ,Array.replicate_zero,List.push_toArray,List.append_toArray,List.nil_append,List.cons_append]
 gi_wp2_with fail
 refine⟨trivial, ?_⟩
 refine(callsIn_wide.2 (frames_any _ _ _ _ _)).mono ?_
 rintro e w2 ⟨rfl,rfl⟩
 gi_wp2_with fail
 obtain⟨W0,hW0⟩:=eX ((((w.alloc (.cells #[.slice none 0 0] 40)).alloc (.cells #[.slice none 0 0] 25)).alloc (.cells #[.slice A l.length c] 22)).alloc (.cells #[.int .i64 a] 3))
 rw[hW0]
 have hs0:W0.heap.size=w.heap.size+4:=by rw[←hW0];simp
 have hgo:Going w (w.heap.size+4) A c l a 0 0 W0:=by
  have k1:W0.heap[w.heap.size]? =some (.cells #[.slice none 0 0] 40 (0,0)):=by rw[←hW0];exact blk_alloc (blk_alloc (blk_alloc (blk_new _ _) _) _) _
  have k2:W0.heap[w.heap.size+1]? =some (.cells #[.slice none 0 0] 25 (0,0)):=by
   rw[←hW0]
   have:=blk_new (w.alloc (.cells #[.slice none 0 0] 40)) (.cells #[.slice none 0 0] 25)
   rw[heap_size_alloc]at this
   exact blk_alloc (blk_alloc this _) _
  have k3:W0.heap[w.heap.size+2]? =some (.cells #[.slice A l.length c] 22 (0,0)):=by
   rw[←hW0]
   have:=blk_new ((w.alloc (.cells #[.slice none 0 0] 40)).alloc (.cells #[.slice none 0 0] 25)) (.cells #[.slice A l.length c] 22)
   rw[heap_size_alloc,heap_size_alloc]at this
   exact blk_alloc this _
  have k4:W0.heap[w.heap.size+3]? =some (.cells #[.int .i64 a] 3 (0,0)):=by
   rw[←hW0]
   have:=blk_new (((w.alloc (.cells #[.slice none 0 0] 40)).alloc (.cells #[.slice none 0 0] 25)).alloc (.cells #[.slice A l.length c] 22)) (.cells #[.int .i64 a] 3)
   rw[heap_size_alloc,heap_size_alloc,heap_size_alloc]at this
   exact this
  refine⟨k3,k4,⟨_,[],k1,Kd.R_nil _ _ _ _ _,rfl,fun k x y hx=>by simp at hx⟩,⟨_,k2,by rw[List.take_zero];exact Kd.R_nil _ _ _ _ _⟩, ?_⟩
  rw[←hW0]
  exact((((Below.refl _ _).alloc (Nat.le_refl _) _).alloc (by simp) _).alloc (by simp;omega) _).alloc (by simp;omega) _
 have HN:=hQ (show(runs l a).length≤l.length+1 from runs_len (l.length+1) l a)
 have HS0:=hQ hs0
 clear hW0
 refine range_rel rfl (by simp[Fence.wide]) (gf:=43) (lb:=#[.pointer (some ⟨w.heap.size+1+1,0,none⟩),.pointer (some ⟨w.heap.size+1+1+1,0,none⟩)]) rfl trivial (fun args w=>Go.Proofs.YtfflenbfapgilaaGreatW.PrintLast.enters_ Tryz.func43 (by kernel_rfl) rfl args w)
  (runs l a).length (fun i W=>∃j,(i=0→j=0)∧Going w (w.heap.size+4) A c l a i j W) (fun i x W=>Going w (w.heap.size+4) A c l a i i W∧∃(px: {v:Value //v.oneCell'=true}) (y:ByteArray×Int),x=#[px.1,.int .i64 y.2]∧(runs l a)[i]? =some y∧Fresh (w.heap.size+4) W px.1 (bytesOf y.1))
  ?hps (fun r=>⟨0,fun _=>rfl,(hgo.alloc _).alloc _⟩) (fun i W k r o hk hr ⟨j,hj0,hj⟩=>⟨j,hj0,hj.putObj o (by omega) hr⟩) ?hMp
  (fun x=>{ tmps:=#[.slice A l.length c,.int .i64 a,undef,undef,.pointer (some ⟨w.heap.size,0,none⟩),.pointer (some ⟨w.heap.size+1,0,none⟩),x.getD 0 undef,x.getD 1 undef,.slice A l.length c,.int .i64 a,.func (.func 43) #[] #[.pointer (some ⟨w.heap.size+1+1,0,none⟩),.pointer (some ⟨w.heap.size+1+1+1,0,none⟩)],x.getD 0 undef,x.getD 1 undef,undef,undef,undef,undef,undef,undef,undef,undef,undef,undef],defers:=[] }) ?assign ?body ?iter ?done
 case hps=>
  rintro i x W ⟨_,px,y,rfl,_⟩
  rfl
 case hMp=>
  rintro i x W k r o hk hr ⟨h1,px,y,h2,h3,h4⟩
  exact⟨h1.putObj o (by omega) hr,px,y,h2,h3,fresh_putObj o h4 hr⟩
 case assign=>
  rintro k i x W K ⟨_,px,y,rfl,_⟩ hK
  gi_wp2
  exact hK
 case body=>
  rintro k D i x W hD hk hkD hkW hk2 hD2 hi ⟨hgo,⟨pv,hpv⟩,y,rfl,hy,hfr⟩
  obtain⟨pb,pc,pC,pfr,hpx,hpx2⟩:=id hfr
  dsimp only at hpx
  subst hpx
  clear hpx2
  obtain⟨px,hpx⟩: ∃px: {v:Value //v.oneCell'=true},px=⟨.slice (some ⟨pb,0,none⟩) (bytesOf y.1).length pc,hpv⟩:=⟨_,rfl⟩
  have hpx1:px.1= .slice (some ⟨pb,0,none⟩) (bytesOf y.1).length pc:=by rw[hpx]
  rw[←hpx]at hfr
  have HPX:=hQ hpx1
  clear hpx hpx1
  gi_wp2_with fail
  obtain⟨v4,vs,hp1,hp2,hp3,hp4⟩:=hgo.ps
  obtain⟨v5,he1,he2⟩:=hgo.es
  have t4:=own_typed_R hp2
  have t5:=own_typed_R he2
  have hS:w.heap.size+4≤W.heap.size:=by have:=(Array.getElem?_eq_some_iff.1 hgo.at_).1;omega
  have h45: ∀q,v4.ownBlock=some q→v5.ownBlock≠some q:=by
   intro q h4 h5
   obtain⟨_,_,C1,e1⟩:=t4 q h4
   obtain⟨_,_,C2,e2⟩:=t5 q h5
   rw[e1]at e2;cases e2
  obtain⟨okP,hokP⟩: ∃okP:Nat→Prop,okP=fun q=>some q≠v5.ownBlock∧q≠w.heap.size∧q≠w.heap.size+1:=⟨_,rfl⟩
  obtain⟨okE,hokE⟩: ∃okE:Nat→Prop,okE=fun q=>some q≠v4.ownBlock∧q≠w.heap.size∧q≠w.heap.size+1:=⟨_,rfl⟩
  have RP:Kd.R valK 22 W (w.heap.size+4) okP v4 vs:=Kd.R_reok rfl hp2 (fun q hq=>by
   have:=t4 q hq
   rw[hokP]
   exact⟨fun e=>h45 q hq e.symm,by omega,by omega⟩)
  have RE:Kd.R (Kd.int .i64) 3 W (w.heap.size+4) okE v5 (((runs l a).take i).map (·.2)):=Kd.R_reok rfl he2 (fun q hq=>by
   have:=t5 q hq
   rw[hokE]
   exact⟨fun e=>h45 q e.symm hq,by omega,by omega⟩)
  obtain⟨es,hes⟩:=eX (((runs l a).take i).map (·.2))
  have hesl:es.length=i:=by rw[←hes,List.length_map,List.length_take];omega
  rw[hes]at RE
  obtain⟨row,hrow⟩: ∃row,row=rowsOf v4.ownBlock v5.ownBlock w.heap.size (w.heap.size+1):=⟨_,rfl⟩
  have hrowS: ∀i k,row i=some k→k<W.heap.size:=by
   rw[hrow]
   exact rowsOf_lt (fun q hq=>(t4 q hq).2.1) (fun q hq=>(t5 q hq).2.1) (by omega) (by omega)
  have hrowP: ∀i,i≠3→∀q,okP q→some q≠row i:=by
   intro i hi q hq
   rw[hokP]at hq
   rw[hrow]
   exact rowsOf_ne i q (.inl hi) (.inr hq.1) (.inr hq.2.1) (.inr hq.2.2)
  have hrowE: ∀i,i≠7→∀q,okE q→some q≠row i:=by
   intro i hi q hq
   rw[hokE]at hq
   rw[hrow]
   exact rowsOf_ne i q (.inr hq.1) (.inl hi) (.inr hq.2.1) (.inr hq.2.2)
  have hrow4: ∀i,i≠8→some w.heap.size≠row i:=by
   intro i hi
   rw[hrow]
   exact rowsOf_ne i _ (.inr (fun e=>by have:=(t4 _ e.symm).1;omega)) (.inr (fun e=>by have:=(t5 _ e.symm).1;omega)) (.inl hi) (.inr (by omega))
  have hrow5: ∀i,i≠9→some (w.heap.size+1)≠row i:=by
   intro i hi
   rw[hrow]
   exact rowsOf_ne i _ (.inr (fun e=>by have:=(t4 _ e.symm).1;omega)) (.inr (fun e=>by have:=(t5 _ e.symm).1;omega)) (.inr (by omega)) (.inl hi)
  have hr3:row 3=v4.ownBlock:=by rw[hrow];rfl
  have hr7:row 7=v5.ownBlock:=by rw[hrow];rfl
  have hr8:row 8=some w.heap.size:=by rw[hrow];rfl
  have hr9:row 9=some (w.heap.size+1):=by rw[hrow];rfl
  refine region_in (by kernel_rfl) (by kernel_rfl) (by rintro⟨a,w,h⟩;exact h) ?_
  refine flow_any (n:=10) (base:=w.heap.size) (w0:=W)
   (VRun W.heap.size (w.heap.size+4) v4 v5 px y.2 vs es okP okE) (FRun (w.heap.size+4) w.heap.size (w.heap.size+1) px y.2 vs es okP okE (RestOf row W)) (GRun (w.heap.size+4) w.heap.size (w.heap.size+1) v4 v5 vs es okP okE (RestOf row W))
   row rfl (by kernel_rfl) (by kernel_rfl) ?hV ?hF ?hG ⟨rfl,rfl,rfl,Nat.le_refl _,fun _ _=>rfl⟩ ?hG0 (show AllLt 10 _ from ?hs) ?he
  case hV=>
   intro i j hi hj hij hw v X X' hB hg h
   have kb: ∀(b:Nat) (o:Obj),W.heap.size≤b→X.heap[b]? =some o→X'.heap[b]? =some o:=fun b o h1 h2=>(hg.block b (Array.getElem?_eq_some_iff.1 h2).1 (fun e=>by have:=hrowS i b e.symm;omega)).trans h2
   unfold VRun at h ⊢
   split at h
   ·exact h
   ·exact h
   ·obtain⟨b,h1,h2,h3⟩:=h;exact⟨b,h1,h2,kb b _ h2 h3⟩
   ·exact Kd.R_grown h hg (hrowP i (by omega))
   ·exact h
   ·exact h
   ·obtain⟨b,h1,h2,h3⟩:=h;exact⟨b,h1,h2,kb b _ h2 h3⟩
   ·exact Kd.R_grown h hg (hrowE i (by omega))
   ·trivial
  case hF=>
   intro i j hi hj hij hw X X' hB hg h
   unfold FRun at h ⊢
   split at h
   ·obtain⟨v,h1,h2⟩:=h
    have h3:i≠3:=fun e=>by rw[e]at hw;exact Bool.noConfusion (hw.symm.trans (c:=true) (by kernel_rfl))
    exact⟨v,(hg.block _ (Array.getElem?_eq_some_iff.1 h1).1 (hrow4 i (by omega))).trans h1,Kd.R_grown h2 hg (hrowP i h3)⟩
   ·obtain⟨⟨v,h1,h2⟩,h4⟩:=h
    have h3:i≠7:=fun e=>by rw[e]at hw;exact Bool.noConfusion (hw.symm.trans (c:=true) (by kernel_rfl))
    exact⟨⟨v,(hg.block _ (Array.getElem?_eq_some_iff.1 h1).1 (hrow5 i (by omega))).trans h1,Kd.R_grown h2 hg (hrowE i h3)⟩,h4.step hB.size hg⟩
   ·trivial
  case hG=>
   intro i j hi hj hij hw X X' hB hg h
   unfold GRun at h ⊢
   split at h
   ·have h3:i≠8:=fun e=>by rw[e]at hw;exact Bool.noConfusion (hw.symm.trans (c:=true) (by kernel_rfl))
    exact(hg.block _ (Array.getElem?_eq_some_iff.1 h).1 (hrow4 i h3)).trans h
   ·exact(hg.block _ (Array.getElem?_eq_some_iff.1 h).1 (hrow4 i (by omega))).trans h
   ·exact Kd.R_grown h hg (hrowP i (by omega))
   ·have h3:i≠9:=fun e=>by rw[e]at hw;exact Bool.noConfusion (hw.symm.trans (c:=true) (by kernel_rfl))
    exact(hg.block _ (Array.getElem?_eq_some_iff.1 h).1 (hrow5 i h3)).trans h
   ·exact Kd.R_grown h hg (hrowE i (by omega))
   ·exact⟨(hg.block _ (Array.getElem?_eq_some_iff.1 h.1).1 (hrow5 i (by omega))).trans h.1,h.2.step hB.size hg⟩
   ·trivial
  case hG0=>
   intro i hi
   have hR:RestOf row W { W with drawn:=W.drawn+1 }:=fun q _ _=>rfl
   unfold GRun
   split
   ·exact hp1
   ·exact hp1
   ·exact Kd.R_drew RP
   ·exact he1
   ·exact Kd.R_drew RE
   ·exact⟨he1,hR⟩
   ·trivial
  case hs=>
   refine allLt_succ (allLt_succ (allLt_succ (allLt_succ (allLt_succ (allLt_succ (allLt_succ (allLt_succ (allLt_succ (allLt_succ (allLt_zero _) ?s0) ?s1) ?s2) ?s3) ?s4) ?s5) ?s6) ?s7) ?s8) ?s9
   case s0=>
    refine StepFlow.run rfl rfl fun a X hS2 hB hd hG=> ?_
    have e4:a.tmps[4]? =some (.pointer (some ⟨w.heap.size,0,none⟩)):=hS2.get rfl rfl
    have hcell:X.cell? ⟨w.heap.size,0,none⟩=some v4:=by
     have hG':X.heap[w.heap.size]? =some (.cells #[v4] 40 (0,0)):=hG
     simp[World.cell?,hG']
    exact wpF (c:=v4) (W':=X) (by go_simp) rfl trivial (World.grownBy.refl _ _) hB
   case s1=>
    refine StepFlow.run rfl rfl fun a X hS2 hB hd hG=> ?_
    have e6:a.tmps[6]? =some px.1:=HPX.out ▸ hS2.get rfl rfl
    exact wpF (c:=px.1) (W':=X) (by go_simp) rfl trivial (World.grownBy.refl _ _) hB
   case s2=>
    refine StepFlow.run rfl rfl fun a X hS2 hB hd hG=> ?_
    obtain⟨u,e14,hu⟩:=(hd 1 (by kernel_rfl)).1.get rfl rfl
    obtain rfl:u=px.1:=hu
    have e14':a.tmps[14]? =some (.slice (some ⟨pb,0,none⟩) (bytesOf y.1).length pc):=HPX.out ▸ e14
    clear e14
    exact wpF (c:= .slice (some ⟨X.heap.size,0,none⟩) 1 1) (W':=X.alloc (.cells #[px.1] 22)) (by rw[HPX.out];go_simp) ⟨_,rfl,hB.size,blk_new _ _⟩ trivial (World.grownBy_alloc _ _ _) (hB.alloc (by have:=hB.size;omega) _)
   case s3=>
    refine StepFlow.run rfl rfl fun a X hS2 hB hd hG=> ?_
    obtain⟨u,e13,hu⟩:=(hd 0 (by kernel_rfl)).1.get rfl rfl
    obtain rfl:u=v4:=hu
    obtain⟨u2,e15,b,hu2,hb2,hb3⟩:=(hd 2 (by kernel_rfl)).1.get rfl rfl
    subst hu2
    exact wpF_append (ops:=#[]) valK (w.heap.size+4) (.tmp 13) (.tmp 15) 40 22 (.slice none 0 0) 24 rfl Tryz.underlying40 info_sl rfl (by decide) (by decide) u vs px [px.1] b (0,0) okP (fun _=>False) (by simp[Act.eval,e13]) (by simp[Act.eval,e15]) hb3 rfl (fun _ h=>h.elim)
     (fun q hq=>by rw[hokP];have:=hB.size;exact⟨fun e=>by have:=(t5 q e.symm).2.1;omega,by omega,by omega⟩) hG (by have:=hB.size;omega) (by have:=HN.out;omega) hB (by omega) hr3 (fun v1 w1 h1 h2=>⟨h1,trivial⟩)
   case s4=>
    refine StepFlow.run rfl rfl fun a X hS2 hB hd hG=> ?_
    have e5:a.tmps[5]? =some (.pointer (some ⟨w.heap.size+1,0,none⟩)):=hS2.get rfl rfl
    have hcell:X.cell? ⟨w.heap.size+1,0,none⟩=some v5:=by
     have hG':X.heap[w.heap.size+1]? =some (.cells #[v5] 25 (0,0)):=hG
     simp[World.cell?,hG']
    exact wpF (c:=v5) (W':=X) (by go_simp) rfl trivial (World.grownBy.refl _ _) hB
   case s5=>
    refine StepFlow.run rfl rfl fun a X hS2 hB hd hG=> ?_
    have e7:a.tmps[7]? =some (.int .i64 y.2):=hS2.get rfl rfl
    exact wpF (c:= .int .i64 y.2) (W':=X) (by go_simp) rfl trivial (World.grownBy.refl _ _) hB
   case s6=>
    refine StepFlow.run rfl rfl fun a X hS2 hB hd hG=> ?_
    obtain⟨u,e18,hu⟩:=(hd 5 (by kernel_rfl)).1.get rfl rfl
    obtain rfl:u= .int .i64 y.2:=hu
    exact wpF (c:= .slice (some ⟨X.heap.size,0,none⟩) 1 1) (W':=X.alloc (.cells #[.int .i64 y.2] 3)) (by go_simp) ⟨_,rfl,hB.size,blk_new _ _⟩ trivial (World.grownBy_alloc _ _ _) (hB.alloc (by have:=hB.size;omega) _)
   case s7=>
    refine StepFlow.run rfl rfl fun a X hS2 hB hd hG=> ?_
    obtain⟨u,e17,hu⟩:=(hd 4 (by kernel_rfl)).1.get rfl rfl
    obtain rfl:u=v5:=hu
    obtain⟨u2,e19,b,hu2,hb2,hb3⟩:=(hd 6 (by kernel_rfl)).1.get rfl rfl
    subst hu2
    exact wpF_append (ops:=#[]) (Kd.int .i64) (w.heap.size+4) (.tmp 17) (.tmp 19) 25 3 (.int .i64 0) 8 rfl Tryz.underlying25 info_i64 rfl (by decide) (by decide) u es y.2 [.int .i64 y.2] b (0,0) okE (fun _=>False) (by simp[Act.eval,e17]) (by simp[Act.eval,e19]) hb3 rfl (fun _ h=>h.elim)
     (fun q hq=>by rw[hokE];have:=hB.size;exact⟨fun e=>by have:=(t4 q e.symm).2.1;omega,by omega,by omega⟩) hG (by have:=hB.size;omega) (by have:=HN.out;omega) hB (by omega) hr7 (fun v1 w1 h1 h2=>⟨h1,trivial⟩)
   case s8=>
    refine StepFlow.run rfl rfl fun a X hS2 hB hd hG=> ?_
    obtain⟨u,e16,hu⟩:=(hd 3 (by kernel_rfl)).1.get rfl rfl
    have e4:a.tmps[4]? =some (.pointer (some ⟨w.heap.size,0,none⟩)):=hS2.get rfl rfl
    have hG':X.heap[w.heap.size]? =some (.cells #[v4] 40 (0,0)):=hG
    have hcell:X.cell? ⟨w.heap.size,0,none⟩=some v4:=by simp[World.cell?,hG']
    have hfz:X.frozen? ⟨w.heap.size,0,none⟩=false:=by simp[World.frozen?,hG']
    have hu':Kd.R valK 22 X (w.heap.size+4) okP u (vs++[px]):=hu
    obtain⟨Au,cu,rfl⟩:=Kd.R_slice hu'
    refine wpF_skip (W':=X.setCell ⟨w.heap.size,0,none⟩ _) (by go_simp) rfl ⟨_,blk_set hG' 0 _,Kd.R_far hu' (fun q hq=>by rw[hokP]at hq;exact hq.2.1) _⟩ (hr8 ▸ grownBy_setCell' X _ _) (hB.setCell (Nat.le_refl _) _)
   case s9=>
    refine StepFlow.run rfl rfl fun a X hS2 hB hd hG=> ?_
    obtain⟨u,e20,hu⟩:=(hd 7 (by kernel_rfl)).1.get rfl rfl
    have e5:a.tmps[5]? =some (.pointer (some ⟨w.heap.size+1,0,none⟩)):=hS2.get rfl rfl
    have hG':X.heap[w.heap.size+1]? =some (.cells #[v5] 25 (0,0)):=hG.1
    have hcell:X.cell? ⟨w.heap.size+1,0,none⟩=some v5:=by simp[World.cell?,hG']
    have hfz:X.frozen? ⟨w.heap.size+1,0,none⟩=false:=by simp[World.frozen?,hG']
    have hu':Kd.R (Kd.int .i64) 3 X (w.heap.size+4) okE u (es++[y.2]):=hu
    obtain⟨Au,cu,rfl⟩:=Kd.R_slice hu'
    have hg9:=fun u=>(hr9 ▸ grownBy_setCell' X (w.heap.size+1) u:X.grownBy (X.setCell ⟨w.heap.size+1,0,none⟩ u) (row 9))
    refine wpF_skip (W':=X.setCell ⟨w.heap.size+1,0,none⟩ _) (by go_simp) rfl ⟨⟨_,blk_set hG' 0 _,Kd.R_far hu' (fun q hq=>by rw[hokE]at hq;exact hq.2.2) _⟩,hG.2.step hB.size (hg9 _)⟩ (hg9 _) (hB.setCell (Nat.le_succ _) _)
  case he=>
   intro a1 X hS1 hB1 hh
   obtain⟨u4,h41,h42⟩:=(hh 8 (by omega)).2
   obtain⟨⟨u5,h51,h52⟩,hrest⟩:=(hh 9 (by omega)).2
   have hnew:(runs l a).take (i+1)=(runs l a).take i++[y]:=by
    obtain⟨hlt,hxe⟩:=List.getElem?_eq_some_iff.1 hy
    rw[List.take_succ_eq_append_getElem hlt,hxe]
   have hrn: ∀(q:Nat) (o:Obj),W.heap[q]? =some o→(∀C e fr,o≠ .cells C e fr∨(e≠22∧e≠3∧e≠40∧e≠25)∨q=w.heap.size+2∨q=w.heap.size+3)→X.heap[q]? =some o:=by
    intro q o hq ho
    refine(hrest q (Array.getElem?_eq_some_iff.1 hq).1 ?_).trans hq
    intro i' e
    rw[hrow]at e
    unfold rowsOf at e
    split at e
    ·obtain⟨hk1,_,C,hk3⟩:=t4 q e
     rw[hq]at hk3
     injection hk3 with hk3
     rcases ho C _ _ with h|h|h|h
     ·exact h hk3
     ·exact h.1 rfl
     ·omega
     ·omega
    ·obtain⟨hk1,_,C,hk3⟩:=t5 q e
     rw[hq]at hk3
     injection hk3 with hk3
     rcases ho C _ _ with h|h|h|h
     ·exact h hk3
     ·exact h.2.1 rfl
     ·omega
     ·omega
    ·injection e with e
     subst e
     rw[hq]at hp1
     injection hp1 with hp1
     rcases ho _ _ _ with h|h|h|h
     ·exact h hp1
     ·exact h.2.2.1 rfl
     ·omega
     ·omega
    ·injection e with e
     subst e
     rw[hq]at he1
     injection he1 with he1
     rcases ho _ _ _ with h|h|h|h
     ·exact h he1
     ·exact h.2.2.2 rfl
     ·omega
     ·omega
    ·cases e
   have hmv: ∀(b:Nat) (C:Array Value) (fr:Nat×Nat),W.heap[b]? =some (Obj.cells C 5 fr)→X.heap[b]? =W.heap[b]? :=fun b C fr hb=>(hrn b _ hb (fun C' e' fr'=>by
    by_cases he:e'=5
    ·exact .inr (.inl (by subst he;decide))
    ·exact .inl (fun h=>by cases h;exact he rfl))).trans hb.symm
   refine⟨⟨i,fun h=>(by omega),hrn _ _ hgo.src (fun _ _ _=> .inr (.inr (.inl rfl))), ?_,⟨u4,vs++[px],h41,Kd.R_mono h42 (fun _ _=>trivial),by simp[hp3], ?_⟩,⟨u5,h51, ?_⟩,hgo.old.trans hB1⟩, ?_, ?_⟩
   ·exact hrn _ _ hgo.at_ (fun _ _ _=> .inr (.inr (.inr rfl)))
   ·intro q x z hx hz
    rcases Nat.lt_or_ge q vs.length with hq|hq
    ·rw[List.getElem?_append_left hq]at hx
     exact(hp4 q x z hx hz).move hmv
    ·rw [List.getElem?_append_right hq]at hx
     have hq2:q=vs.length:=by
      have:=(List.getElem?_eq_some_iff.1 hx).1
      simp at this;omega
     subst hq2
     rw[Nat.sub_self]at hx
     obtain rfl:px=x:=by simpa using hx
     rw[hp3,hy]at hz
     obtain rfl:y=z:=by simpa using hz
     exact hfr.move hmv
   ·rw[hnew,List.map_append,hes];exact Kd.R_mono h52 (fun _ _=>trivial)
   ·obtain⟨r,hr⟩:=hk2
    rw[hr];exact hrn _ _ hr (fun _ _ _=> .inl (by intro h;cases h))
   ·rw[hD2];exact hrn _ _ hD2 (fun _ _ _=> .inl (by intro h;cases h))
 case iter=>
  intro k D r W hD hk hkD hgo0 hrdy hround
  refine callsIn_of_wp Tryz.func43 rfl trivial ?_
  simp only[Tryz.ntmps43,List.size_toArray,List.length_cons,List.length_nil,Nat.reduceAdd,Nat.reduceSub,Array.replicate_succ,Array.replicate_zero,List.push_toArray,List.append_toArray,List.nil_append,List.cons_append]
  have HR:=hQ hround
  clear hround
  gi_wp2_with fail
  gi_loopw [] (fun wr=>∃i,i≤(runs l a).length∧Going w (w.heap.size+4) A c l a i i wr∧Ready k D r wr) (fun wr=>((l.length:Int)+1-(match wr.cell? ⟨w.heap.size+3,0,none⟩with|some v=>intOf v|none=>0)).toNat)
  case atStart=>
   obtain⟨j,hj,hgo0⟩:=hgo0
   obtain rfl:=hj trivial
   exact⟨0,by omega,hgo0,hrdy⟩
  case round=>
   obtain⟨i,hi,hlay,hrd⟩:=hrel
   have hra:=runs_at l hb a i hi
   obtain⟨p,hp⟩:=eX (behind (runs l a) a i)
   have hat:=hlay.at_
   rw[hp]at hra hat
   have hcellA:wr.cell? ⟨w.heap.size+1+1+1,0,none⟩=some (.int .i64 p):=by simp[World.cell?,show w.heap.size+1+1+1=w.heap.size+3 from rfl,hat]
   have hcellS:wr.cell? ⟨w.heap.size+1+1,0,none⟩=some (.slice A l.length c):=by simp[World.cell?,show w.heap.size+1+1=w.heap.size+2 from rfl,hlay.src]
   have HG:=hQ (fget_any A c l p wr (Kd.C_below HC.out hlay.old) hc hb hl)
   by_cases he:(fgetS l p).2.2=0
   ·obtain ⟨y,hy⟩: ∃y,(runs l a)[i]? =some y:=by
     cases h:(runs l a)[i]? with
     |none=>exact absurd he (hra.2 h)
     |some y=>exact⟨y,rfl⟩
    have hfar:=fgetS_far l hb p he
    have hye:=(hra.1 y hy).2
    obtain⟨q,hq⟩:=eX ((fgetS l p).2.1)
    have hq1:q=behind (runs l a) a (i+1):=by
     unfold behind
     rw[if_neg (by omega),Nat.add_sub_cancel,List.getD_eq_getElem?_getD,hy]
     rw[←hq,hye];rfl
    have hmeas:(match wr.cell? ⟨w.heap.size+3,0,none⟩with|some v=>intOf v|none=>0)=p:=by simp[World.cell?,hat,intOf]
    rw[hq]at hfar
    have HY:=hQ (And.intro hy (And.intro hye (And.intro hq1 (And.intro hmeas (And.intro he hq)))))
    have hlt:i<(runs l a).length:=(List.getElem?_eq_some_iff.1 hy).1
    have HLAY:=hQ (And.intro hlay (And.intro hrd hlt))
    clear hra hp hat hy hye hq1 hmeas hlay hrd he hi hlt
    gi_wp2_with fail
    refine⟨trivial, ?_⟩
    refine(callsIn_wide.2 HG.out).mono ?_
    rintro e w1 ⟨v,rfl,hv,hb1⟩
    rw[HY.out.2.2.2.2.1,HY.out.2.2.2.2.2]
    have hfr:Fresh wr.heap.size w1 v (bytesOf y.1):=by
     rcases hv with⟨h,_⟩|⟨_,h⟩
     ·exact absurd HY.out.2.2.2.2.1 h
     ·rw[HY.out.2.1];exact h
    have hgo1:=HLAY.out.1.below hb1
    have hrd1:Ready k D r w1:=⟨blk_below HLAY.out.2.1.1 hb1,blk_below HLAY.out.2.1.2 hb1⟩
    have hwr:w.heap.size+4≤wr.heap.size:=by have:=(Array.getElem?_eq_some_iff.1 HLAY.out.1.at_).1;omega
    obtain⟨fb,fc,fC,ffr,hfv,hfr2⟩:=id hfr
    subst hfv
    obtain⟨fn',tm,as',bd,hy,hR⟩:=HR.out i #[.slice (some ⟨fb,0,none⟩) (bytesOf y.1).length fc,.int .i64 q] w1 HLAY.out.2.2 ⟨hgo1,⟨_,rfl⟩,y,by rw[HY.out.2.1,HY.out.2.2.2.2.2],HY.out.1,hfr.lower hwr⟩ hrd1
    have HR1:=hQ hR
    clear hv hfr hfr2 hgo1 hrd1 hb1 hR
    gi_wp2
    refine HR1.out.mono ?_
    rintro e W' ⟨rfl,⟨j',_,hlay'⟩,hrd'⟩
    have hat':=hlay'.at_
    obtain⟨zz,hzz⟩:=eX (behind (runs l a) a j')
    rw[hzz]at hat'
    have hcell':W'.cell? ⟨w.heap.size+1+1+1,0,none⟩=some (.int .i64 zz):=by simp[World.cell?,show w.heap.size+1+1+1=w.heap.size+3 from rfl,hat']
    have hfz':W'.frozen? ⟨w.heap.size+1+1+1,0,none⟩=false:=by simp[World.frozen?,show w.heap.size+1+1+1=w.heap.size+3 from rfl,hat']
    have HL2:=hQ (And.intro hlay' hrd')
    clear hy hlay' hrd' hat' hzz hcellA hcellS
    gi_wp2
    have hnext:=HL2.out.1.setAt q HY.out.2.2.1
    go_roundw
    case rel=>exact⟨i+1,by have:=HLAY.out.2.2;omega,hnext,(Below.heap_setCell _ _ _ _ (by show k≠w.heap.size+3;omega)).trans HL2.out.2.1,(Below.heap_setCell _ _ _ _ (by show D≠w.heap.size+3;omega)).trans HL2.out.2.2⟩
    case measure=>
     rw[HY.out.2.2.2.1]
     have hc2:(W'.setCell ⟨w.heap.size+3,0,none⟩ (.int .i64 q)).cell? ⟨w.heap.size+3,0,none⟩=some (.int .i64 q):=by
      have:=hnext.at_
      simp only[World.cell?,this]
      rw[←HY.out.2.2.1];rfl
     rw [show(match (W'.setCell ⟨w.heap.size+1+1+1,0,none⟩ (.int .i64 q)).cell? ⟨w.heap.size+3,0,none⟩with|some v=>intOf v|none=>0)=q by
      rw[show w.heap.size+1+1+1=w.heap.size+3 from rfl,hc2];rfl]
     omega
   ·have hiN:i=(runs l a).length:=by
     rcases Nat.lt_or_ge i (runs l a).length with h|h
     ·exact absurd (hra.1 _ (List.getElem?_eq_getElem h)).1 he
     ·omega
    obtain⟨ec,hec⟩:=eX ((fgetS l p).2.2)
    have hne:(ec !=0)=true:=by rw[←hec];simpa using he
    have HLAY:=hQ (And.intro hlay (And.intro hrd (And.intro hiN (And.intro he hec))))
    clear hra hp hat hlay hrd he hi hec hiN
    gi_wp2_with fail
    refine⟨trivial, ?_⟩
    refine(callsIn_wide.2 HG.out).mono ?_
    rintro e w1 ⟨v,rfl,hv,hb1⟩
    rw[HLAY.out.2.2.2.2]
    have hv':v= .slice none 0 0:=by
     rcases hv with⟨_,h⟩|⟨h,_⟩
     ·exact h
     ·exact absurd h HLAY.out.2.2.2.1
    subst hv'
    have HB1:=hQ hb1
    clear hv hb1
    gi_wp2
    refine⟨fun _ h=>(by cases h), ?_⟩
    gi_wp2
    (try simp only[Exit.inBlock,Exit.then])
    refine bodyPost_ret (results_none rfl _ _ _) rfl ?_
    refine⟨⟨_,rfl⟩,⟨i,fun h=> ?_, ?_⟩,blk_below HLAY.out.2.1.1 HB1.out,blk_below HLAY.out.2.1.2 HB1.out⟩
    ·have:=HLAY.out.2.2.1;omega
    ·have:=HLAY.out.2.2.1
     rw[←this];exact HLAY.out.1.below HB1.out
 case done=>
  rintro D W hD ⟨j,_,hgo⟩ hD2
  obtain⟨v4,vs,hp1,hp2,hp3,hp4⟩:=hgo.ps
  obtain⟨v5,he1,he2⟩:=hgo.es
  obtain⟨A4,c4,rfl⟩:=Kd.R_slice hp2
  obtain⟨A5,c5,rfl⟩:=Kd.R_slice he2
  rw[List.take_length]at he2
  have hcell4:W.cell? ⟨w.heap.size,0,none⟩=some (.slice A4 vs.length c4):=by simp[World.cell?,hp1]
  have hcell5:W.cell? ⟨w.heap.size+1,0,none⟩=some (.slice A5 (((runs l a).take (runs l a).length).map (·.2)).length c5):=by simp[World.cell?,he1]
  have hf4:W.frozen? ⟨w.heap.size,0,none⟩=false:=by simp[World.frozen?,hp1]
  have hf5:W.frozen? ⟨w.heap.size+1,0,none⟩=false:=by simp[World.frozen?,he1]
  have HH:=hQ (And.intro hp1 (And.intro hp2 (And.intro hp3 (And.intro hp4 (And.intro he1 (And.intro he2 hgo.old))))))
  clear hp1 hp2 hp3 hp4 he1 he2 hgo
  gi_wp2
  refine wpIn_wide.2 ?_
  go_region
  obtain⟨X,hX⟩:=eX (((W.setCell ⟨w.heap.size,0,none⟩ (.slice A4 vs.length c4)).setCell ⟨w.heap.size+1,0,none⟩ (.slice A5 (runs l a).length c5)).drew)
  rw[hX]
  have hDn:w.heap.size+4≤D:=by omega
  have hD3:X.heap[D]? =some (.deferred (some [])):=by
   rw[←hX]
   exact(Below.heap_setCell _ _ _ _ (by show D≠w.heap.size+1;omega)).trans ((Below.heap_setCell _ _ _ _ (by show D≠w.heap.size;omega)).trans hD2)
  have hlen:(((runs l a).map (·.2)).length)=(runs l a).length:=List.length_map ..
  have hX4:X.heap[w.heap.size]? =some (.cells #[.slice A4 vs.length c4] 40 (0,0)):=by
   rw[←hX]
   refine(Below.heap_setCell _ _ _ _ (by show w.heap.size≠w.heap.size+1;omega)).trans ?_
   simpa using blk_set HH.out.1 0 (.slice A4 vs.length c4)
  have hX5:X.heap[w.heap.size+1]? =some (.cells #[.slice A5 (runs l a).length c5] 25 (0,0)):=by
   rw[←hX]
   have:(W.setCell ⟨w.heap.size,0,none⟩ (.slice A4 vs.length c4)).heap[w.heap.size+1]? =_:=(Below.heap_setCell _ _ _ _ (by show w.heap.size+1≠w.heap.size;omega)).trans HH.out.2.2.2.2.1
   have h:=blk_set this 0 (.slice A5 (runs l a).length c5)
   simp at h
   exact h
  have hmv: ∀q,q≠w.heap.size→q≠w.heap.size+1→X.heap[q]? =W.heap[q]? :=by
   intro q h1 h2
   rw[←hX]
   exact(Below.heap_setCell _ _ _ _ h2).trans (Below.heap_setCell _ _ _ _ h1)
  have hcell4':X.cell? ⟨w.heap.size,0,none⟩=some (.slice A4 vs.length c4):=by simp[World.cell?,hX4]
  have hcell5':X.cell? ⟨w.heap.size+1,0,none⟩=some (.slice A5 (runs l a).length c5):=by simp[World.cell?,hX5]
  have hBX:Below w.heap.size w X:=by
   rw[←hX]
   exact((HH.out.2.2.2.2.2.2.setCell (Nat.le_refl _) _).setCell (Nat.le_succ _) _).drew
  have HZ:=hQ (And.intro hX4 (And.intro hX5 (And.intro hmv (And.intro hBX (And.intro hlen hcell4')))))
  have HZ5:=hQ hcell5'
  clear hcell4 hcell5 hf4 hf5 hX4 hX5 hmv hBX hX hlen hcell4' hcell5'
  gi_wp2
  refine⟨by simp,.inl ⟨_,_,rfl,run_takeDeferred hD3, ?_⟩⟩
  have k4:(X.putObj D (.deferred none)).cell? ⟨w.heap.size,0,none⟩=some (.slice A4 vs.length c4):=by
   have:(X.putObj D (.deferred none)).heap[w.heap.size]? =X.heap[w.heap.size]? :=World.putObj_heap_other (by omega)
   simp[World.cell?,this,HZ.out.1]
  have k5:(X.putObj D (.deferred none)).cell? ⟨w.heap.size+1,0,none⟩=some (.slice A5 (runs l a).length c5):=by
   have:(X.putObj D (.deferred none)).heap[w.heap.size+1]? =X.heap[w.heap.size+1]? :=World.putObj_heap_other (by omega)
   simp[World.cell?,this,HZ.out.2.1]
  refine⟨.tuple #[.slice A4 vs.length c4,.slice A5 (runs l a).length c5],by simp[results,Tryz.results10,k4,k5,go_sem],_,_,vs,rfl, ?_, ?_,HH.out.2.2.1, ?_,below_putObj _ HZ.out.2.2.2.1 (by omega)⟩
  ·exact Kd.R_lower (R_putDef _ (Kd.R_mono (Kd.R_step (w1:=X) (Kd.R_bound HH.out.2.1) (fun k hk _=>HZ.out.2.2.1 k (by omega) (by omega))) (fun _ _=>trivial)) hD3) (by omega)
  ·have h:=Kd.R_lower (R_putDef (.deferred none) (Kd.R_mono (ok':=fun _=>True) (Kd.R_step (w1:=X) (Kd.R_bound HH.out.2.2.2.2.2.1) (fun k hk _=>HZ.out.2.2.1 k (by omega) (by omega))) (fun _ _=>trivial)) hD3) (show w.heap.size≤w.heap.size+4 by omega)
   rw[HZ.out.2.2.2.2.1]at h
   exact h
  ·intro q x y hx hy
   refine Fresh.lower (Fresh.grown (Fresh.move (HH.out.2.2.2.1 q x y hx hy) (fun b C fr hb=>HZ.out.2.2.1 b ?_ ?_)) (grownBy_putObj' X D _) (fun k hk C fr hc=>by cases hk;rw[hD3]at hc;cases hc)) (show w.heap.size≤w.heap.size+4 by omega)
   ·rintro rfl;rw[HH.out.1]at hb;cases hb
   ·rintro rfl;rw[HH.out.2.2.2.2.1]at hb;cases hb
end Go.Proofs.YtfflenbfapgilaaGreat
namespace Go.Proofs.YtfflenbfapgilaaGreat
open Go.Proofs.YtfflenbfapgilaaGreat.GVB
theorem wholeB_iff (l:List Int) (hb: ∀x∈l,0≤x∧x<256) (m:Nat) (hm:m+4≤l.length):wholeB l (m:Int)=true↔crcB (Crc.sum (nats (l.take m)))=(l.take (m+4)).drop m:=by
 have hl4:(l.take (m+4)).drop m=[rd l m,rd l (m+1),rd l (m+2),rd l (m+3)]:=by
  apply List.ext_getElem?
  intro i
  have hr: ∀j:Nat,j<l.length→l[j]? =some (rd l (j:Int)):=fun j hj=>by simp[rd,hj]
  match i with
  | 0=>rw[List.getElem?_drop,List.getElem?_take_of_lt (by omega),hr _ (by omega)];rfl
  | 1=>rw[List.getElem?_drop,List.getElem?_take_of_lt (by omega),hr _ (by omega)];rfl
  | 2=>rw[List.getElem?_drop,List.getElem?_take_of_lt (by omega),hr _ (by omega)];rfl
  | 3=>rw[List.getElem?_drop,List.getElem?_take_of_lt (by omega),hr _ (by omega)];rfl
  |i+4=>rw[List.getElem?_drop,List.getElem?_take,if_neg (by omega)];simp
 have hbr: ∀x∈(l.take (m+4)).drop m,0≤x∧x<256:=fun x hx=>hb x (List.mem_of_mem_take (List.mem_of_mem_drop hx))
 have hlt:=Crc.sum_lt (nats (l.take m)) (by intro x hx;simp only[nats,List.mem_map]at hx;obtain⟨y,hy,rfl⟩:=hx;have:=hb y (List.mem_of_mem_take hy);omega)
 rw[hl4]at hbr ⊢
 unfold wholeB crcB at4
 rw[Int.toNat_natCast]
 have hs0:(0:Int)≤((Crc.sum (nats (l.take m)):Nat):Int)∧((Crc.sum (nats (l.take m)):Nat):Int)<4294967296:=by omega
 generalize ((Crc.sum (nats (l.take m)):Nat):Int)=s at hs0 ⊢
 simp only[List.mem_cons,List.not_mem_nil,or_false,forall_eq_or_imp,forall_eq]at hbr
 simp only[List.cons.injEq,and_true,Bool.and_eq_true,decide_eq_true_eq]
 omega
def frameS (s:ByteArray):List Int:=blob s++crcB (Crc.sum (nats (blob s)))
theorem frameL_is (l:List Int):frameL l=frameS (strOfNums l):=rfl
theorem frameS_len (s:ByteArray):(frameS s).length=(blob s).length+4:=by unfold frameS;rw[List.length_append];rfl
theorem frameS_le (s:ByteArray) (hs:s.size≤1000000000):(frameS s).length≤s.size+14:=by
 have:=vb_len10 s.size (by omega)
 rw[frameS_len,blob_len];omega
theorem bytesOf_str (l:List Int) (hb: ∀x∈l,0≤x∧x<256):bytesOf (strOfNums l)=l:=by
 apply List.ext_getElem
 ·rw[bytesOf_length,strOfNums_size]
 ·intro i h1 h2
  have:=hb l[i] (List.getElem_mem _)
  simp[bytesOf,strOfNums]
  omega
def frs (ps:List (List Int)):List Int:=ps.flatMap frameL
def endsO:Nat→List (List Int)→List Int
 |_,[]=>[]
 |o,p::ps=>((o+(frameL p).length:Nat):Int)::endsO (o+(frameL p).length) ps
def items:Nat→List (List Int)→List (ByteArray×Int)
 |_,[]=>[]
 |o,p::ps=>(strOfNums p,((o+(frameL p).length:Nat):Int))::items (o+(frameL p).length) ps
theorem frs_cons (p:List Int) (ps:List (List Int)):frs (p::ps)=frameL p++frs ps:=rfl
theorem frs_append (ps qs:List (List Int)):frs (ps++qs)=frs ps++frs qs:=by unfold frs;rw[List.flatMap_append]
theorem items_len (ps:List (List Int)): ∀o,(items o ps).length=ps.length:=by
 induction ps with
 |nil=>intro o;rfl
 |cons p ps ih=>intro o;rw[items,List.length_cons,List.length_cons,ih]
theorem endsO_len (ps:List (List Int)): ∀o,(endsO o ps).length=ps.length:=by
 induction ps with
 |nil=>intro o;rfl
 |cons p ps ih=>intro o;rw[endsO,List.length_cons,List.length_cons,ih]
theorem items_get (ps:List (List Int)): ∀(o i:Nat) (p:List Int) (z:Int),ps[i]? =some p→(endsO o ps)[i]? =some z→(items o ps)[i]? =some (strOfNums p,z):=by
 induction ps with
 |nil=>intro o i p z h;simp at h
 | cons q ps ih=>
  intro o i p z h1 h2
  match i with
  | 0=>simp[endsO]at h1 h2 ⊢;simp[items,h1,←h2]
  |i+1=>
   rw[List.getElem?_cons_succ]at h1
   rw[endsO,List.getElem?_cons_succ]at h2
   rw[items,List.getElem?_cons_succ]
   exact ih _ _ _ _ h1 h2
theorem endsO_get (ps:List (List Int)) (i:Nat) (hi:i<ps.length) (o:Nat):(endsO o ps)[i]? =some (((o+(frs (ps.take (i+1))).length:Nat)):Int):=by
 induction ps generalizing o i with
 |nil=>simp at hi
 | cons p ps ih=>
  match i with
  | 0=>simp[endsO,frs]
  |i+1=>
   rw[endsO,List.getElem?_cons_succ,ih i (by simpa using hi),List.take_succ_cons,frs_cons,List.length_append]
   congr 2
   omega
end Go.Proofs.YtfflenbfapgilaaGreat

/- Texts laid as one by shake.py, cut to what the claim needs: Tab, TabF, TabP. (Names that begin with W and the print's groups (G..x, G..z): laid by the kit's print, cut.) -/
import Derived.Test.YtfflenbfapgilaaGreatZCd
import Derived.Maps.OwnSet
import Derived.Maps.Views
import Derived.StillTailTactics
import Derived.Deep.DeepFit
set_option linter.unusedVariables false
set_option linter.unusedSimpArgs false
set_option maxHeartbeats 8000000
set_option maxRecDepth 100000
open Go.RowKit Go.Proofs.YtfflenbfapgilaaGreatW.PrintWords
namespace Go.Proofs.YtfflenbfapgilaaGreat
open Go.Maps (Keyed)
structure Kp (w w':World) (S:Nat→Prop):Prop where
 os:w'.os=w.os
 tape:w'.tape=w.tape
 output:w'.output=w.output
 size:w.heap.size≤w'.heap.size
 block: ∀k,k<w.heap.size→¬S k→w'.heap[k]? =w.heap[k]?
theorem Kp.refl (w:World) (S:Nat→Prop):Kp w w S:=⟨rfl,rfl,rfl,Nat.le_refl _,fun _ _ _=>rfl⟩
theorem Kp.mono {w w':World} {S S':Nat→Prop} (h:Kp w w' S) (hs: ∀k,S k→S' k):Kp w w' S':=⟨h.os,h.tape,h.output,h.size,fun k hk hn=>h.block k hk (fun h'=>hn (hs k h'))⟩
theorem Kp.trans {w w1 w2:World} {S S2:Nat→Prop} (h:Kp w w1 S) (h2:Kp w1 w2 S2) (hs: ∀k,S2 k→S k∨w.heap.size≤k):Kp w w2 S:=
 ⟨h2.os.trans h.os,h2.tape.trans h.tape,h2.output.trans h.output,Nat.le_trans h.size h2.size,fun k hk hn=>(h2.block k (Nat.lt_of_lt_of_le hk h.size) (fun h'=>(hs k h').elim hn (fun h''=>by omega))).trans (h.block k hk hn)⟩
theorem Kp.of_below {w w':World} (h:Below w.heap.size w w') (S:Nat→Prop):Kp w w' S:=⟨h.os,h.tape,h.output,h.size,fun k hk _=>h.block k hk⟩
theorem Kp.below {w w1 w2:World} {S:Nat→Prop} (h:Kp w w1 S) (h2:Below w1.heap.size w1 w2):Kp w w2 S:=h.trans (Kp.of_below h2 (fun _=>False)) (fun _ h=>h.elim)
theorem Kp.to_below {w w':World} {S:Nat→Prop} (h:Kp w w' S) (hs: ∀k,S k→w.heap.size≤k):Below w.heap.size w w':=⟨h.os,h.tape,h.output,h.size,fun k hk=>h.block k hk (fun h'=>by have:=hs k h';omega)⟩
theorem Kp.drew {w w':World} {S:Nat→Prop} (h:Kp w w' S):Kp w w'.drew S:=⟨h.os,h.tape,h.output,h.size,h.block⟩
theorem Kp.drewN {w w':World} {S:Nat→Prop} (h:Kp w w' S) (n:Nat):Kp w (w'.drewN n) S:=⟨h.os,h.tape,h.output,h.size,h.block⟩
theorem Kp.alloc {w w':World} {S:Nat→Prop} (h:Kp w w' S) (o:Obj):Kp w (w'.alloc o) S:=h.below ((Below.refl _ _).alloc (Nat.le_refl _) o)
theorem Kp.setCell {w w':World} {S:Nat→Prop} (h:Kp w w' S) {p:Addr} (hp:S p.block∨w.heap.size≤p.block) (u:Value):Kp w (w'.setCell p u) S:=
 h.trans (S2:=fun k=>k=p.block) ⟨rfl,rfl,rfl,by simp[World.setCell],fun k hk hn=>Below.heap_setCell w' p u k hn⟩ (fun k hk=>by rw[hk];exact hp)
theorem Kp.grown {w w1 w2:World} {S:Nat→Prop} {row:Option Nat} (h:Kp w w1 S) (hg:w1.grownBy w2 row) (hr: ∀k,row=some k→S k∨w.heap.size≤k):Kp w w2 S:=
 h.trans (S2:=fun k=>row=some k) ⟨hg.os,hg.tape,hg.output,hg.size,fun k hk hn=>hg.block k hk (fun e=>hn e.symm)⟩ (fun k hk=>hr k hk)
theorem Kp.heap {w w':World} {S:Nat→Prop} (h:Kp w w' S) {k:Nat} {o:Obj} (ho:w.heap[k]? =some o) (hn: ¬S k):w'.heap[k]? =some o:=(h.block k (Array.getElem?_eq_some_iff.1 ho).1 hn).trans ho
theorem cell_of_blk {w:World} {g:Nat} {cs:Array Value} {t:TypeId} {fr:Nat×Nat} (h:w.heap[g]? =some (.cells cs t fr)) (i:Nat):w.cell? ⟨g,i,none⟩=cs[i]? :=by simp[World.cell?,h]
def litS (s:ByteArray):Lit:= .string s.data.toList
theorem litS_ne {s u:ByteArray} (h:s≠u):litS s≠litS u:=by
 intro e
 simp only[litS,Lit.string.injEq]at e
 exact h (ByteArray.ext (Array.ext' e))
structure PlacesOk (D:DataW Unit) (l:List ByteArray):Prop where
 tidy:Maps.Tidy D
 size:Maps.size D≤l.length
 has: ∀s,Maps.has D (litS s)=isIn l s
 at_: ∀s,D.atKey (litS s) (.lit (.int .i64 0))= .lit (.int .i64 (if isIn l s then(posOf l s:Int)else 0))
theorem PlacesOk.empty:PlacesOk (.map []) []:=⟨Maps.tidy_empty,Nat.le_refl _,fun _=>rfl,fun _=>rfl⟩
theorem PlacesOk.put {D:DataW Unit} {l:List ByteArray} (h:PlacesOk D l) {s:ByteArray} (hs:s ∉ l) (ht:Maps.Tidy (D.put (litS s) (.lit (.int .i64 (l.length:Int))))):PlacesOk (D.put (litS s) (.lit (.int .i64 (l.length:Int)))) (l++[s]):=by
 refine⟨ht, ?_,fun u=> ?_,fun u=> ?_⟩
 ·rw[Maps.size_put h.tidy,h.has,isIn_ne.2 hs]
  have:=h.size
  simp;exact this
 ·by_cases e:u=s
  ·subst e
   rw[Maps.has_put_same h.tidy.isMap (show WideAt.IsKeyLit (litS u) from trivial),isIn_iff.2 (by simp)]
  ·rw[Maps.has_put_other (litS_ne e),h.has,Bool.eq_iff_iff,isIn_iff,isIn_iff]
   simp[e]
 ·by_cases e:u=s
  ·subst e
   rw[Maps.atKey_put_same h.tidy.isMap (show WideAt.IsKeyLit (litS u) from trivial),isIn_iff.2 (by simp),posOf_app_not hs]
   simp[posOf,sEq_refl]
  ·rw[Maps.atKey_put_other (litS_ne e),h.at_]
   have e1:isIn (l++[s]) u=isIn l u:=by rw[Bool.eq_iff_iff,isIn_iff,isIn_iff];simp[e]
   rw[e1]
   by_cases hu:u∈l
   ·rw[isIn_iff.2 hu,posOf_app hu]
   ·rw[isIn_ne.2 hu];rfl
def atI (l:List ByteArray) (s:ByteArray):Int:=if isIn l s then(posOf l s:Int)else 0
theorem law9:Keyed Tryz.prog 9:=Maps.string_keyed Tryz.underlying9
theorem zero_int (w:World):(zeroValue 3).run Tryz.prog w= .ok (.int .i64 0) w:=by kernel_rfl
theorem info_str:(Tryz.prog.info? 9).map (fun i=>(i.zero,i.size,i.bytes))=some (some (.string ⟨#[]⟩),1,16):=by kernel_rfl
theorem look_run {w:World} {b n:Nat} {D:DataW Unit} {l:List ByteArray} (h:w.ownsMap Tryz.prog 9 (plainElem (H:=Unit) Tryz.prog 3) b n D) (hp:PlacesOk D l) {s:ByteArray} (hs:s.size≤maxLen):
  (Instr.lookup 84 (.map (some b)) (.string s) true).run Tryz.prog w= .ok (.tuple #[.int .i64 (atI l s),.bool (isIn l s)]) w:=by
 have hk:keyOf Tryz.prog 9 (.string s)=some (litS s):=Go.WideMaps.keyOf_string_mk Tryz.underlying9 hs
 obtain⟨v,ps,hrun,hv⟩:=h.look_ok (t:=84) law9 Tryz.underlying84 (zero_int w) (plainElem_int (H:=Unit) Tryz.underlying3 (by decide)) hk
 rw[hp.has]at hrun
 rw[hp.at_]at hv
 obtain⟨c,rfl,hc,_⟩:=plainElem_int_inv Tryz.underlying3 hv
 simp only[Prod.mk.injEq,DataW.lit.injEq,Lit.int.injEq,true_and]at hc
 rw[hrun,←hc.1];rfl
theorem look_run_nil {w:World} {s:ByteArray} (hs:s.size≤maxLen):
  (Instr.lookup 84 (.map none) (.string s) true).run Tryz.prog w= .ok (.tuple #[.int .i64 0,.bool false]) w:=by
 have hk:keyOf Tryz.prog 9 (.string s)=some (litS s):=Go.WideMaps.keyOf_string_mk Tryz.underlying9 hs
 have:=Maps.look_nil (P:=Tryz.prog) (w:=w) (t:=84) true law9 Tryz.underlying84 (zero_int w) hk
 simpa using this
theorem C_move {α:Type} {d:Kd α} {W W':World} {A:Option Addr} {xs:List α} (hd: ∀{x:α} {cs:List Value},d.K W x cs→d.K W' x cs) (h:d.C W A xs.length xs) (hb: ∀a,A=some a→xs≠[]→W'.heap[a.block]? =W.heap[a.block]?):d.C W' A xs.length xs:=
 ⟨h.1,h.2.1,fun hn=>by
  obtain⟨ad,e,hc⟩:=h.2.2 hn
  refine⟨ad,e,fun j p hj=> ?_⟩
  obtain⟨c,hs,hr,hcell⟩:=hc j p hj
  refine⟨c,hs,hd hr,fun i u hu=> ?_⟩
  have h1:=hcell i u hu
  have h2:=hb ad e (by intro e0;rw[e0]at hn;exact absurd hn (by simp))
  have h3:(ad.add (j*d.sz+i)).block=ad.block:=by unfold Addr.add;split<;>rfl
  simpa [World.cell?,h3,h2]using h1⟩
def AllR (W:World) (ok:Nat→Prop) (v:Value) (l:List ByteArray):Prop:=
 Kd.R Kd.string 9 W 0 ok v l∨∃A,v= .slice A l.length l.length∧(A=none→l=[])∧Kd.C Kd.string W A l.length l∧∀a,A=some a→l≠[]→ok a.block
theorem AllR.mono {W:World} {ok ok':Nat→Prop} {v:Value} {l:List ByteArray} (h:AllR W ok v l) (hi: ∀k,ok k→ok' k):AllR W ok' v l:=
 h.imp (fun h=>Kd.R_mono h hi) (fun⟨A,e,h1,h2,h3⟩=>⟨A,e,h1,h2,fun a ha hl=>hi _ (h3 a ha hl)⟩)
theorem AllR.move {W W':World} {ok:Nat→Prop} {v:Value} {l:List ByteArray} (h:AllR W ok v l) (hb: ∀k,ok k→k<W.heap.size→W'.heap[k]? =W.heap[k]?):AllR W' ok v l:=by
 rcases h with h|⟨A,e,h1,h2,h3⟩
 ·exact .inl (Kd.R_step h hb)
 ·refine .inr ⟨A,e,h1,C_move (W:=W) (W':=W') (d:=Kd.string) (fun h=>h) h2 (fun a ha hl=>hb _ (h3 a ha hl) ?_),h3⟩
  subst ha
  obtain⟨x,xs,rfl⟩:=List.exists_cons_of_ne_nil hl
  obtain⟨ad,e,hc⟩:=Kd.at_string h2 0 (by omega) (by simp)
  cases e
  have:=World.block_lt_of_cell? W _ hc
  unfold Addr.add at this
  split at this<;>exact this
theorem AllR.typed {W:World} {ok:Nat→Prop} {v:Value} {l:List ByteArray} (h:AllR W ok v l):AllR W (fun k=>ok k∧k<W.heap.size∧∃c t fr,W.heap[k]? =some (.cells c t fr)) v l:=by
 rcases h with h|⟨A,e,h1,h2,h3⟩
 ·refine .inl (Kd.R_mono (Kd.R_bound h) (fun k hk=>⟨hk.1,hk.2.2.1, ?_⟩))
  obtain⟨_,_,cells,hc⟩:=hk.2.2.2
  exact⟨_,_,_,hc⟩
 ·refine .inr ⟨A,e,h1,h2,fun a ha hl=>⟨h3 a ha hl, ?_⟩⟩
  subst ha
  obtain⟨x,xs,rfl⟩:=List.exists_cons_of_ne_nil hl
  obtain⟨ad,e,hc⟩:=Kd.at_string h2 0 (by omega) (by simp)
  cases e
  have hbk:(a.add (Int.toNat 0)).block=a.block:=by unfold Addr.add;split<;>rfl
  have h5:=World.block_lt_of_cell? W _ hc
  rw[hbk]at h5
  refine⟨h5, ?_⟩
  unfold World.cell? at hc
  rw[hbk]at hc
  split at hc
  ·rename_i c t fr heq;exact⟨_,_,_,heq⟩
  ·cases hc
theorem AllR.slice {W:World} {ok:Nat→Prop} {v:Value} {l:List ByteArray} (h:AllR W ok v l): ∃A c,v= .slice A l.length c∧l.length≤c∧Kd.C Kd.string W A l.length l:=by
 rcases h with h|⟨A,e,h1,h2,h3⟩
 ·obtain⟨A,c,rfl⟩:=Kd.R_slice h
  have h2:=Kd.R_reads' h
  exact⟨A,c,rfl,h2.2.1,h2.2.2⟩
 ·exact⟨A,_,e,Nat.le_refl _,h2⟩
theorem AllR.append {P:Program} {ops:Array Oper} {rest:List Oper} {o:Oper} {a:Act} {Q:Exit→Act→World→Prop} {W:World} {ok:Nat→Prop} {v:Value} {l:List ByteArray} (h:AllR W ok v l) (hfresh: ∀k,W.heap.size≤k→ok k)
  (hgd:o.guard=none) (sv x:Operand) (t:TypeId) (ho:o.op= .call { callee:= .builtin .append,args:=#[sv,x],argTypes:=#[t,t] }) (ht:P.underlying t=some (.slice 9))
  (hinfo:(P.info? 9).map (fun i=>(i.zero,i.size,i.bytes))=some (some (.string ⟨#[]⟩),1,16)) (s:ByteArray) (hs:a.eval sv=v) (hx:a.eval x= .slice (some ⟨W.heap.size,0,none⟩) 1 1) (hl:l.length<1000000)
  (hk: ∀v1 w1 row,Kd.R Kd.string 9 w1 0 ok v1 (l++[s])→W.grownBy w1 row→(∀k,row=some k→ok k)→wpList P ops Q rest (a.put o.dst v1) w1):
  wpList P ops Q (o::rest) a (W.alloc (.cells #[.string s] 9)):=by
 rcases h with h|⟨A,e,h1,h2,h3⟩
 ·refine Kd.R_append Kd.string (w0:=W) 0 hgd sv x t 9 (.string ⟨#[]⟩) 16 ho ht hinfo rfl (by decide) (by decide) v l s [.string s] ok (fun _=>False) hs hx rfl (fun _ h=>h.elim) hfresh h (Below.refl 0 W) (Nat.zero_le _) (by omega) ?_
  intro v1 w1 hr _ hg _
  exact hk v1 w1 _ hr hg (fun k hk=>h.1 k hk)
 ·obtain ⟨i0,hi,hzz⟩:=Option.map_eq_some_iff.1 hinfo
  simp only[Prod.mk.injEq]at hzz
  obtain⟨hz0,hz1,hz2⟩:=hzz
  refine wpList_append_grows _ hgd sv x t ho 9 i0 (.string ⟨#[]⟩) 1 16 ht hi hz0 hz1 hz2 rfl (by decide) A l.length l.length (l.map Value.string) (hs.trans e) (fun e=>by rw[h1 e];exact⟨rfl,rfl⟩) (by simp) ?_
   ⟨W.heap.size,0,none⟩ 1 1 [.string s] hx rfl ?_ (by simp[Value.oneCell']) (by omega) (by simp only[maxLen];omega) (by omega) ?_
  ·intro b hb j u hu
   rw[List.getElem?_map,Option.map_eq_some_iff]at hu
   obtain⟨p,hp,rfl⟩:=hu
   have hj:=(List.getElem?_eq_some_iff.1 hp).1
   obtain⟨ad,e1,hc⟩:=Kd.at_string h2 (j:Int) (by omega) (by omega)
   rw[hb]at e1;cases e1
   rw[Int.toNat_natCast]at hc
   have:rdOf ByteArray.empty l (j:Int)=p:=by
    unfold rdOf
    rw[Int.toNat_natCast,List.getD_eq_getElem?_getD,hp];rfl
   rw[this]at hc
   exact pw_cell_below ((Below.refl _ _).alloc (Nat.le_refl _) _) hc
  ·intro j u hu
   match j with
   | 0=>
    simp at hu;subst hu
    have e0:(⟨W.heap.size,0,none⟩:Addr).add 0=⟨W.heap.size,0,none⟩:=by simp[Addr.add]
    rw[e0]
    exact(cell_of_blk (heap_new W _) 0).trans rfl
   |j+1=>simp at hu
  ·intro v1 w1 hown hg
   have hown':w1.ownsRow (W.alloc (.cells #[.string s] 9)).heap.size 9 1 v1 (l++[s]).length (encs Value.string (l++[s])):=by simpa [encs]using hown
   have hbase: ∀k,v1.ownBlock=some k→ok k:=fun k hk'=>hfresh k (by have:=own_base hown' k hk';simp at this;omega)
   exact hk v1 w1 none (Kd.R_lower (Kd.R_of_own hown' hbase) (Nat.zero_le _)) (World.grownBy.trans (World.grownBy_alloc W _ _) hg) (fun k e=>by cases e)
def MapAt (W:World) (S:Nat→Prop) (mv:Value) (l:List ByteArray):Prop:=
 (mv= .map none∧l=[])∨∃b D,mv= .map (some b)∧S b∧W.ownsMap Tryz.prog 9 (plainElem (H:=Unit) Tryz.prog 3) b (Maps.size D) D∧PlacesOk D l
structure Tab (W:World) (S:Nat→Prop) (g:Nat) (l:List ByteArray):Prop where
 lt: ∀k,S k→k<W.heap.size
 mem:S g
 nodup:l.Nodup
 len:l.length≤1000000
 wide: ∀s∈l,s.size≤maxLen
 out: ∃allv mv,W.heap[g]? =some (.cells #[allv,mv] 88 (0,0))∧AllR W (fun k=>S k∧k≠g) allv l∧MapAt W S mv l
theorem Tab.keep {W W':World} {S S2:Nat→Prop} {g:Nat} {l:List ByteArray} (h:Tab W S g l) (hk:Kp W W' S2) (hn: ∀k,S k→¬S2 k):Tab W' S g l:=by
 have hb: ∀k,S k→W'.heap[k]? =W.heap[k]? :=fun k hk'=>hk.block k (h.lt k hk') (hn k hk')
 obtain⟨allv,mv,h1,h2,h3⟩:=h.out
 refine⟨fun k hk'=>Nat.lt_of_lt_of_le (h.lt k hk') hk.size,h.mem,h.nodup,h.len,h.wide,allv,mv,(hb g h.mem).trans h1,h2.move (fun k hk' _=>hb k hk'.1), ?_⟩
 rcases h3 with h3|⟨b,D,rfl,hS,⟨es,clock,hh,r⟩,hp⟩
 ·exact .inl h3
 ·exact .inr ⟨b,D,rfl,hS,⟨es,clock,(hb b hS).trans hh,r⟩,hp⟩
def TabDone (w w':World) (S:Nat→Prop) (g:Nat) (l:List ByteArray):Prop:=∃S',Tab w' S' g l∧(∀k,S' k→S k∨w.heap.size≤k)∧Kp w w' S
theorem atI_bd (l:List ByteArray) (s:ByteArray) (h:l.length≤1000000):0≤atI l s∧atI l s≤1000000:=by
 unfold atI
 have:=posOf_le l s
 split<;>omega
theorem Tab.cells {w:World} {S:Nat→Prop} {g:Nat} {l:List ByteArray} (h:Tab w S g l):
  ∃A c mv,w.cell? ⟨g,0,none⟩=some (.slice A l.length c)∧w.cell? ⟨g,1,none⟩=some mv∧l.length≤c∧Kd.C Kd.string w A l.length l∧MapAt w S mv l:=by
 obtain⟨allv,mv,hb,hr,hm⟩:=h.out
 obtain⟨A,c,rfl,h1,h2⟩:=hr.slice
 exact⟨A,c,mv,(cell_of_blk hb 0).trans rfl,(cell_of_blk hb 1).trans rfl,h1,h2,hm⟩
theorem MapAt.look {w:World} {S:Nat→Prop} {mv:Value} {l:List ByteArray} (h:MapAt w S mv l) {s:ByteArray} (hs:s.size≤maxLen):
  (Instr.lookup 84 mv (.string s) true).run Tryz.prog w= .ok (.tuple #[.int .i64 (atI l s),.bool (isIn l s)]) w:=by
 rcases h with⟨rfl,rfl⟩|⟨b,D,rfl,_,ho,hp⟩
 ·exact look_run_nil hs
 ·exact look_run ho hp hs
section
variable {w:World} {S:Nat→Prop} {g:Nat} {l:List ByteArray}
theorem len_any (h:Tab w S g l):Calls Tryz.prog 64 #[.pointer (some ⟨g,0,none⟩)] w fun e w'=>e= .returned (.int .i64 (l.length:Int))∧w=w':=by
 obtain⟨A,c,mv,hc0,hc1,_,_,_⟩:=h.cells
 go_enter Tryz.func64,Tryz.ntmps64
 go_wp2_with fail
 go_ret
 exact⟨rfl,rfl⟩
theorem find_any (h:Tab w S g l) (s:ByteArray) (hs:s.size≤maxLen):Calls Tryz.prog 89 #[.pointer (some ⟨g,0,none⟩),.string s] w fun e w'=>e= .returned (.tuple #[.int .u64 (atI l s),.bool (isIn l s)])∧w=w':=by
 obtain⟨A,c,mv,hc0,hc1,_,_,hm⟩:=h.cells
 have hl:=hm.look hs
 obtain⟨h0,h1⟩:=atI_bd l s h.len
 generalize atI l s=x at*
 go_enter Tryz.func89,Tryz.ntmps89
 go_wp2_with fail
 go_ret2
 exact⟨rfl,rfl⟩
theorem text_in (h:Tab w S g l) (i:Nat) (hi:i<l.length):Calls Tryz.prog 65 #[.pointer (some ⟨g,0,none⟩),.int .u64 (i:Int)] w fun e w'=>e= .returned (.tuple #[.string l[i],.bool true])∧w=w':=by
 obtain⟨A,c,mv,hc0,hc1,_,hC,_⟩:=h.cells
 obtain⟨ad,rfl,hcell⟩:=Kd.at_string hC (i:Int) (by omega) (by omega)
 rw[Int.toNat_natCast]at hcell
 have hz:rdOf ByteArray.empty l (i:Int)=l[i]:=by simp[rdOf,hi]
 rw[hz]at hcell
 generalize l[i]=s at*
 have hlen:=h.len
 clear hC hz h
 go_enter Tryz.func65,Tryz.ntmps65
 go_wp2_with fail
 go_ret2
 exact⟨rfl,rfl⟩
theorem text_out (h:Tab w S g l) (i:Int) (hi:(l.length:Int)≤i):Calls Tryz.prog 65 #[.pointer (some ⟨g,0,none⟩),.int .u64 i] w fun e w'=>e= .returned (.tuple #[.string ⟨#[]⟩,.bool false])∧w=w':=by
 obtain⟨A,c,mv,hc0,hc1,_,hC,_⟩:=h.cells
 have hlen:=h.len
 have hd:decide ((l.length:Int)≤i)=true:=decide_eq_true hi
 clear hC h
 go_enter Tryz.func65,Tryz.ntmps65
 go_wp2_with fail
 go_ret2
 exact⟨rfl,rfl⟩
theorem put_in (h:Tab w S g l) (s:ByteArray) (hs:s∈l):Calls Tryz.prog 33 #[.pointer (some ⟨g,0,none⟩),.string s] w fun e w'=>e= .returned (.tuple #[.int .i64 (posOf l s:Int),.bool false])∧w=w':=by
 obtain⟨A,c,mv,hc0,hc1,_,hC,hm⟩:=h.cells
 have hl:=hm.look (h.wide s hs)
 rw[isIn_iff.2 hs,show atI l s=(posOf l s:Int)by unfold atI;rw[isIn_iff.2 hs];rfl]at hl
 generalize posOf l s=p at*
 clear hC hm h hs
 go_enter Tryz.func33,Tryz.ntmps33
 go_wp2_with fail
 go_ret2
 exact⟨rfl,rfl⟩
end
end Go.Proofs.YtfflenbfapgilaaGreat
namespace Go.Proofs.YtfflenbfapgilaaGreat
open Go.Maps (Keyed)
theorem ownsMap_tight {w:World} {b n:Nat} {D:DataW Unit} {R:Value→Option (DataW Unit×List MemPlace)} {k:TypeId} (h:w.ownsMap Tryz.prog k R b n D):w.ownsMap Tryz.prog k R b (Maps.size D) D:=by
 obtain⟨es,clock,hb,F,hs,rfl⟩:=h
 exact⟨es,clock,hb,F,by simp[Maps.size,length_sorted],rfl⟩
theorem AllR_apart_map {w:World} {b n:Nat} {ok:Nat→Prop} {v:Value} {xs:List ByteArray} {D:DataW Unit} {R:Value→Option (DataW Unit×List MemPlace)} {k:TypeId} (h:AllR w ok v xs) (hm:w.ownsMap Tryz.prog k R b n D):
  AllR w (fun k=>(ok k∧k<w.heap.size)∧k≠b) v xs:=
 h.typed.mono (fun k hk=>⟨⟨hk.1,hk.2.1⟩,fun e=>by
  subst e
  obtain⟨es,clock,hb,_⟩:=hm
  obtain⟨_,_,_,hc⟩:=hk.2.2
  rw[hb]at hc;cases hc⟩)
theorem put_new {w:World} {S:Nat→Prop} {g:Nat} {l:List ByteArray} (h:Tab w S g l) (s:ByteArray) (hs:s ∉ l) (hsz:s.size≤maxLen) (hlen:l.length<1000000) {allv:Value} {b:Nat} {D:DataW Unit}
  (hb:w.heap[g]? =some (.cells #[allv,.map (some b)] 88 (0,0))) (hr:AllR w (fun k=>S k∧k≠g) allv l) (hSb0:S b) (ho:w.ownsMap Tryz.prog 9 (plainElem (H:=Unit) Tryz.prog 3) b (Maps.size D) D) (hp:PlacesOk D l):
  Calls Tryz.prog 33 #[.pointer (some ⟨g,0,none⟩),.string s] w fun e w'=>e= .returned (.tuple #[.int .i64 (l.length:Int),.bool true])∧TabDone w w' S g (l++[s]):=by
 have hgb:b≠g:=by
  rintro rfl
  obtain⟨es,clock,hh,_⟩:=ho
  rw[hb]at hh;cases hh
 obtain⟨A,c,rfl,_,_⟩:=hr.slice
 have hl:=look_run ho hp hsz
 rw[isIn_ne.2 hs,show atI l s=0 by unfold atI;rw[isIn_ne.2 hs];rfl]at hl
 have hc0:w.cell? ⟨g,0,none⟩=some (.slice A l.length c):=(cell_of_blk hb 0).trans rfl
 have hc1:w.cell? ⟨g,1,none⟩=some (.map (some b)):=(cell_of_blk hb 1).trans rfl
 have hq: ∀(w:World),(binOp .eql 84 (.map (some b)) (.map none)).run Tryz.prog w= .ok (.bool false) w:=fun w=>run_eql_map_nil w _ _ _ (some b) Tryz.underlying84
 have hlt:=(Array.getElem?_eq_some_iff.1 hb).1
 have HB:=hQ hb
 have HR:=hQ hr
 have HO:=hQ ho
 have HP:=hQ hp
 have HS:=hQ hs
 have HZ:=hQ hsz
 have HKW:=hQ (Kp.refl w S)
 have hSb:S b∨w.heap.size≤b:= .inl hSb0
 clear hb hr ho hp hs hsz
 go_enter Tryz.func33,Tryz.ntmps33
 go_wp2_with fail
 go_still_tail 10,(by kernel_rfl)
 change wpList _ _ _ _ _ (w).drew
 have hk2:Kp w (w).drew S:=HKW.out.drew
 have HB2:=hQ (show(w).drew.heap[g]? =_ from HB.out)
 have HR2:=hQ (show AllR (w).drew (fun k=>S k∧k≠g) (.slice A l.length c) l from HR.out)
 have HO2:=hQ (show(w).drew.ownsMap Tryz.prog 9 (plainElem (H:=Unit) Tryz.prog 3) b (Maps.size D) D from HO.out)
 have hc20:(w).drew.cell? ⟨g,0,none⟩=some (.slice A l.length c):=(cell_of_blk HB.out 0).trans rfl
 have hc21:(w).drew.cell? ⟨g,1,none⟩=some (.map (some b)):=(cell_of_blk HB.out 1).trans rfl
 have hk:=WideMaps.keyOf_string_mk Tryz.underlying9 HZ.out
 have hD:Maps.size D<maxLen:=by have:=HP.out.size;unfold maxLen;omega
 have hbl2:b<(w).drew.heap.size:=HO.out.lt
 clear hc0 hc1 HB HR HO HKW
 generalize (w).drew=w2 at*
 go_wp2_with (at_mapUpdate;refine Halt.mk ?_)
 refine Halt.of ?_
 refine wpList_mapUpdate_own _ rfl (.tmp 31) (.tmp 32) (.tmp 37) 84 rfl 9 3 law9 Tryz.underlying84 _ b _ D rfl HO2.out hD (.string s) (.int .i64 (l.length:Int)) (litS s) rfl rfl hk _ [] (plainElem_int Tryz.underlying3 (WalkArith.wf_i64 (by omega))) ?_
 intro w3 ho3 hg3
 have hlt2:=(Array.getElem?_eq_some_iff.1 HB2.out).1
 have hb3:w3.heap[g]? =_:=(hg3.block g hlt2 (by simp;exact fun e=>hgb e.symm)).trans HB2.out
 have hr3:=(AllR_apart_map HR2.out HO2.out).move (fun k hk hlt=>hg3.block k hlt (fun e=>hk.2 (by injection e)))
 have hk3:Kp w w3 S:=hk2.grown hg3 (fun k e=>by injection e with e;subst e;exact hSb)
 have hs2:=hk2.size
 have hs3:=hg3.size
 have hr3':AllR w3 (fun k=>(S k∨w.heap.size≤k)∧k≠g∧k≠b) (.slice A l.length c) l:=hr3.mono (fun k hk=>⟨.inl hk.1.1.1,hk.1.1.2,hk.2⟩)
 have hc30:w3.cell? ⟨g,0,none⟩=some (.slice A l.length c):=(cell_of_blk hb3 0).trans rfl
 have HB3:=hQ hb3
 have HR3:=hQ hr3'
 have HO3:=hQ ho3
 have HG3:=hQ hg3
 have HK3:=hQ hk3
 have HC:=hQ hc20
 clear hb3 hr3 hr3' ho3 hg3 hk3 hc20 hc21 hk hD hk2 HB2 HR2 HO2 HC
 go_wp2_with (at_builtin;refine Halt.mk ?_)
 refine Halt.of ?_
 refine AllR.append HR3.out (fun k hk=>⟨.inr (by omega),by omega,by omega⟩) rfl (.tmp 42) (.tmp 44) 52 rfl Tryz.underlying52 info_str s rfl rfl hlen ?_
 intro v4 w4 row hr4 hg4 hne
 obtain⟨A4,c4,rfl⟩:=Kd.R_slice hr4
 have hlt3:=(Array.getElem?_eq_some_iff.1 HB3.out).1
 have hb4:w4.heap[g]? =_:=(hg4.block g hlt3 (fun e=>(hne g e.symm).2.1 rfl)).trans HB3.out
 have ho4:=HO3.out.kept hg4 (fun e=>(hne b e.symm).2.2 rfl)
 have hk4:=HK3.out.grown hg4 (fun k e=>(hne k e).1)
 have hc40:w4.cell? ⟨g,0,none⟩=some (.slice A l.length c):=(cell_of_blk hb4 0).trans rfl
 have hf40:=unfrozen_of hb4 0
 have hll:(l++[s]).length=l.length+1:=by simp
 rw[hll]
 have HB4:=hQ hb4
 have HR4:=hQ hr4
 have HO4:=hQ ho4
 have HK4:=hQ hk4
 have HNE:=hQ hne
 have hs4:=hg4.size
 have HLL:=hQ hll
 clear hb4 hr4 ho4 hk4 hne hg4 hll
 go_wp2_with fail
 go_ret2
 refine⟨rfl,fun k=>S k∨(w.heap.size≤k∧k<w4.heap.size),⟨?_,.inl h.mem, ?_, ?_, ?_,_,_,blk_set HB4.out 0 _, ?_,.inr ⟨b,_,rfl,hSb.imp id (fun h=>⟨h,by omega⟩),ownsMap_tight (HO4.out.setCell (fun e=>hgb e) _),HP.out.put HS.out (HO4.out.tidy law9)⟩⟩,fun k hk=>hk.imp id (·.1),HK4.out.setCell (.inl h.mem) _⟩
 ·intro k hk
  have:=HK4.out.size
  show k<(w4.setCell _ _).heap.size
  have h1:(w4.setCell ⟨g,0,none⟩ (.slice A4 (l.length+1) c4)).heap.size=w4.heap.size:=by simp[World.setCell]
  rw[h1]
  rcases hk with hk|hk
  ·have:=h.lt k hk;omega
  ·exact hk.2
 ·have:=tput_nodup s h.nodup
  rwa [tput_out HS.out]at this
 ·rw[HLL.out];omega
 ·intro u hu
  rcases List.mem_append.1 hu with hu|hu
  ·exact h.wide u hu
  ·simp at hu;subst hu;exact HZ.out
 ·rw[←HLL.out]
  exact .inl <| Kd.R_mono (Kd.R_bound (Kd.R_far HR4.out (fun k hk=>hk.2.1) _)) (fun k hk=>⟨hk.1.1.imp id (fun h=>⟨h,by have:=hk.2.2.1;simpa [World.setCell]using this⟩),hk.1.2.1⟩)
theorem put_nil {w:World} {S:Nat→Prop} {g:Nat} {l:List ByteArray} (hl0:l=[]) (h:Tab w S g l) (s:ByteArray) (hsz:s.size≤maxLen) {allv:Value}
  (hb:w.heap[g]? =some (.cells #[allv,.map none] 88 (0,0))) (hr:AllR w (fun k=>S k∧k≠g) allv l):
  Calls Tryz.prog 33 #[.pointer (some ⟨g,0,none⟩),.string s] w fun e w'=>e= .returned (.tuple #[.int .i64 (l.length:Int),.bool true])∧TabDone w w' S g (l++[s]):=by
 have hs:s ∉ l:=by rw[hl0];simp
 have hlen:l.length<1000000:=by rw[hl0];decide
 obtain⟨A,c,rfl,_,_⟩:=hr.slice
 have hl:=look_run_nil (w:=w) hsz
 have hlt:=(Array.getElem?_eq_some_iff.1 hb).1
 have hc0:w.cell? ⟨g,0,none⟩=some (.slice A l.length c):=(cell_of_blk hb 0).trans rfl
 have hc1:w.cell? ⟨g,1,none⟩=some (.map none):=(cell_of_blk hb 1).trans rfl
 have hf1:=unfrozen_of hb 1
 have hq: ∀(w:World),(binOp .eql 84 (.map none) (.map none)).run Tryz.prog w= .ok (.bool true) w:=fun w=>run_eql_map_nil w _ _ _ none Tryz.underlying84
 have hmm:= @run_makeMap Tryz.prog
 have hba:=blk_alloc (blk_set hb 1 (.map (some w.heap.size))) (.map #[] 0)
 have hra:AllR ((w.setCell ⟨g,1,none⟩ (.map (some w.heap.size))).alloc (.map #[] 0)) (fun k=>S k∧k≠g) (.slice A l.length c) l:=
  (hr.move (W':=w.setCell ⟨g,1,none⟩ (.map (some w.heap.size))) (fun k hk _=>Below.heap_setCell w ⟨g,1,none⟩ _ k hk.2)).move (fun k _ hlt=>Below.heap_alloc _ _ k hlt)
 have hoa0:=World.ownsMap_made (w.setCell ⟨g,1,none⟩ (.map (some w.heap.size))) Tryz.prog 9 (plainElem (H:=Unit) Tryz.prog 3)
 rw[show(w.setCell ⟨g,1,none⟩ (.map (some w.heap.size))).heap.size=w.heap.size by simp[World.setCell]]at hoa0
 obtain⟨D,HD⟩: ∃D:DataW Unit,Hid (D= .map []):=⟨_,hQ rfl⟩
 have hpa:PlacesOk D l:=by rw[HD.out,hl0];exact PlacesOk.empty
 have hoa:((w.setCell ⟨g,1,none⟩ (.map (some w.heap.size))).alloc (.map #[] 0)).ownsMap Tryz.prog 9 (plainElem (H:=Unit) Tryz.prog 3) w.heap.size (Maps.size D) D:=by rw[HD.out];exact hoa0
 clear hoa0
 obtain⟨b,hbdef⟩: ∃b,b=w.heap.size:=⟨_,rfl⟩
 have hgb:b≠g:=by omega
 rw[←hbdef]at hba hra hoa
 have HB:=hQ hba
 have HR:=hQ hra
 have HO:=hQ hoa
 have HP:=hQ hpa
 have HS:=hQ hs
 have HZ:=hQ hsz
 have HKW:=hQ (((Kp.refl w S).setCell (p:=⟨g,1,none⟩) (.inl h.mem) (.map (some b))).alloc (.map #[] 0))
 have hSb:S b∨w.heap.size≤b:= .inr (by omega)
 clear hb hr hoa hra hba hpa hs hsz hl0
 go_enter Tryz.func33,Tryz.ntmps33
 go_wp2_with fail
 rw[←hbdef]
 clear hbdef
 generalize (w.setCell ⟨g,1,none⟩ (.map (some b))).alloc (.map #[] 0)=w1 at*
 have hc10:w1.cell? ⟨g,0,none⟩=some (.slice A l.length c):=(cell_of_blk HB.out 0).trans rfl
 have hc11:w1.cell? ⟨g,1,none⟩=some (.map (some b)):=(cell_of_blk HB.out 1).trans rfl
 clear hf1 hl hq hmm
 go_still_tail 10,(by kernel_rfl)
 change wpList _ _ _ _ _ (w1).drew
 have hk2:Kp w (w1).drew S:=HKW.out.drew
 have HB2:=hQ (show(w1).drew.heap[g]? =_ from HB.out)
 have HR2:=hQ (show AllR (w1).drew (fun k=>S k∧k≠g) (.slice A l.length c) l from HR.out)
 have HO2:=hQ (show(w1).drew.ownsMap Tryz.prog 9 (plainElem (H:=Unit) Tryz.prog 3) b (Maps.size D) D from HO.out)
 have hc20:(w1).drew.cell? ⟨g,0,none⟩=some (.slice A l.length c):=(cell_of_blk HB.out 0).trans rfl
 have hc21:(w1).drew.cell? ⟨g,1,none⟩=some (.map (some b)):=(cell_of_blk HB.out 1).trans rfl
 have hk:=WideMaps.keyOf_string_mk Tryz.underlying9 HZ.out
 have hD:Maps.size D<maxLen:=by have:=HP.out.size;unfold maxLen;omega
 have hbl2:b<(w1).drew.heap.size:=HO.out.lt
 clear hc0 hc1 hc10 hc11 HB HR HO HKW
 generalize (w1).drew=w2 at*
 go_wp2_with (at_mapUpdate;refine Halt.mk ?_)
 refine Halt.of ?_
 refine wpList_mapUpdate_own _ rfl (.tmp 31) (.tmp 32) (.tmp 37) 84 rfl 9 3 law9 Tryz.underlying84 _ b _ D rfl HO2.out hD (.string s) (.int .i64 (l.length:Int)) (litS s) rfl rfl hk _ [] (plainElem_int Tryz.underlying3 (WalkArith.wf_i64 (by omega))) ?_
 intro w3 ho3 hg3
 have hlt2:=(Array.getElem?_eq_some_iff.1 HB2.out).1
 have hb3:w3.heap[g]? =_:=(hg3.block g hlt2 (by simp;exact fun e=>hgb e.symm)).trans HB2.out
 have hr3:=(AllR_apart_map HR2.out HO2.out).move (fun k hk hlt=>hg3.block k hlt (fun e=>hk.2 (by injection e)))
 have hk3:Kp w w3 S:=hk2.grown hg3 (fun k e=>by injection e with e;subst e;exact hSb)
 have hs2:=hk2.size
 have hs3:=hg3.size
 have hr3':AllR w3 (fun k=>(S k∨w.heap.size≤k)∧k≠g∧k≠b) (.slice A l.length c) l:=hr3.mono (fun k hk=>⟨.inl hk.1.1.1,hk.1.1.2,hk.2⟩)
 have hc30:w3.cell? ⟨g,0,none⟩=some (.slice A l.length c):=(cell_of_blk hb3 0).trans rfl
 have HB3:=hQ hb3
 have HR3:=hQ hr3'
 have HO3:=hQ ho3
 have HG3:=hQ hg3
 have HK3:=hQ hk3
 have HC:=hQ hc20
 clear hb3 hr3 hr3' ho3 hg3 hk3 hc20 hc21 hk hD hk2 HB2 HR2 HO2 HC
 go_wp2_with (at_builtin;refine Halt.mk ?_)
 refine Halt.of ?_
 refine AllR.append HR3.out (fun k hk=>⟨.inr (by omega),by omega,by omega⟩) rfl (.tmp 42) (.tmp 44) 52 rfl Tryz.underlying52 info_str s rfl rfl hlen ?_
 intro v4 w4 row hr4 hg4 hne
 obtain⟨A4,c4,rfl⟩:=Kd.R_slice hr4
 have hlt3:=(Array.getElem?_eq_some_iff.1 HB3.out).1
 have hb4:w4.heap[g]? =_:=(hg4.block g hlt3 (fun e=>(hne g e.symm).2.1 rfl)).trans HB3.out
 have ho4:=HO3.out.kept hg4 (fun e=>(hne b e.symm).2.2 rfl)
 have hk4:=HK3.out.grown hg4 (fun k e=>(hne k e).1)
 have hc40:w4.cell? ⟨g,0,none⟩=some (.slice A l.length c):=(cell_of_blk hb4 0).trans rfl
 have hf40:=unfrozen_of hb4 0
 have hll:(l++[s]).length=l.length+1:=by simp
 rw[hll]
 have HB4:=hQ hb4
 have HR4:=hQ hr4
 have HO4:=hQ ho4
 have HK4:=hQ hk4
 have HNE:=hQ hne
 have hs4:=hg4.size
 have HLL:=hQ hll
 clear hb4 hr4 ho4 hk4 hne hg4 hll
 go_wp2_with fail
 go_ret2
 refine⟨rfl,fun k=>S k∨(w.heap.size≤k∧k<w4.heap.size),⟨?_,.inl h.mem, ?_, ?_, ?_,_,_,blk_set HB4.out 0 _, ?_,.inr ⟨b,_,rfl,hSb.imp id (fun h=>⟨h,by omega⟩),ownsMap_tight (HO4.out.setCell (fun e=>hgb e) _),HP.out.put HS.out (HO4.out.tidy law9)⟩⟩,fun k hk=>hk.imp id (·.1),HK4.out.setCell (.inl h.mem) _⟩
 ·intro k hk
  have:=HK4.out.size
  show k<(w4.setCell _ _).heap.size
  have h1:(w4.setCell ⟨g,0,none⟩ (.slice A4 (l.length+1) c4)).heap.size=w4.heap.size:=by simp[World.setCell]
  rw[h1]
  rcases hk with hk|hk
  ·have:=h.lt k hk;omega
  ·exact hk.2
 ·have:=tput_nodup s h.nodup
  rwa [tput_out HS.out]at this
 ·rw[HLL.out];omega
 ·intro u hu
  rcases List.mem_append.1 hu with hu|hu
  ·exact h.wide u hu
  ·simp at hu;subst hu;exact HZ.out
 ·rw[←HLL.out]
  exact .inl <| Kd.R_mono (Kd.R_bound (Kd.R_far HR4.out (fun k hk=>hk.2.1) _)) (fun k hk=>⟨hk.1.1.imp id (fun h=>⟨h,by have:=hk.2.2.1;simpa [World.setCell]using this⟩),hk.1.2.1⟩)
theorem tput_any {w:World} {S:Nat→Prop} {g:Nat} {l:List ByteArray} (h:Tab w S g l) (s:ByteArray) (hsz:s.size≤maxLen) (hlen:l.length<1000000):
  Calls Tryz.prog 33 #[.pointer (some ⟨g,0,none⟩),.string s] w fun e w'=>e= .returned (.tuple #[.int .i64 (posOf l s:Int),.bool (!isIn l s)])∧TabDone w w' S g (tput l s):=by
 by_cases hs:s∈l
 ·refine(put_in h s hs).mono ?_
  rintro e w' ⟨rfl,rfl⟩
  rw[isIn_iff.2 hs,tput_in hs]
  exact⟨rfl,S,h,fun k hk=> .inl hk,Kp.refl _ _⟩
 ·rw[posOf_none hs,isIn_ne.2 hs,tput_out hs]
  obtain⟨allv,mv,hb,hr,hm⟩:=h.out
  rcases hm with⟨rfl,hl0⟩|⟨b,D,rfl,hS,ho,hp⟩
  ·exact put_nil hl0 h s hsz hb hr
  ·exact put_new h s hs hsz hlen hb hr hS ho hp
end Go.Proofs.YtfflenbfapgilaaGreat

/- Texts laid as one by shake.py, cut to what the claim needs: CrcW. (Names that begin with W and the print's groups (G..x, G..z): laid by the kit's print, cut.) -/
import Derived.Test.YtfflenbfapgilaaGreatProg
import Derived.Test.YtfflenbfapgilaaGreatZCy
import Derived.WalkKit
import Derived.WalkSpells
import Derived.Lib.Hide
import Derived.WalkLawsBesides
import Derived.Laws.BitsAllLaws
set_option linter.unusedVariables false
set_option linter.unusedSimpArgs false
set_option maxHeartbeats 8000000
set_option maxRecDepth 100000
namespace Go.Proofs.YtfflenbfapgilaaGreat
open Go.RowKit
theorem four_step (x:Nat) (hx:x<4294967296):
  Go.bits .xor .u32 ((x:Int)/2) ((3988292384*(Go.bits .and .u32 (x:Int) 1))%4294967296)=((Crc.st x:Nat):Int):=by
 rw[show(1:Int)=((1:Nat):Int) from rfl,u32_and_nat x 1 hx (by decide),nat_mask1]
 rw[show((x:Int)/2)=((x/2:Nat):Int)by omega]
 have h:(3988292384*((x%2:Nat):Int))%4294967296=((Crc.poly*(x%2):Nat):Int):=by
  unfold Crc.poly;omega
 rw[h,u32_xor_nat _ _ (by omega) (by unfold Crc.poly;omega)]
 rfl
theorem stn_snoc (n c:Nat):Crc.stn (n+1) c=Crc.st (Crc.stn n c):=by
 rw[Crc.stn_add n 1 c];rfl
theorem four_any (c:Nat) (hc:c<4294967296) (w:World):
  Calls Tryz.prog 91 #[.int .u32 c] w fun e w'=>e= .returned (.int .u32 (Crc.stn 4 c:Nat))∧w=w':=by
 go_enter Tryz.func91,Tryz.ntmps91
 go_wp2
 go_loop [0,4] (fun v0 v4=>∃j:Nat,j≤4∧v4= .int .i64 j∧v0= .int .u32 (Crc.stn j c:Nat)) (fun _ i=>4-(intOf i).toNat)
 case atStart=>exact⟨0,by omega,rfl,rfl⟩
 case round=>
  obtain⟨j,hj,rfl,rfl⟩:=hrel
  have hl:=Crc.stn_lt j c hc
  have HS:Hid (Go.bits .xor .u32 (((Crc.stn j c:Nat):Int)/2) ((3988292384*(Go.bits .and .u32 ((Crc.stn j c:Nat):Int) 1))%4294967296)=((Crc.stn (j+1) c:Nat):Int)):=by
   rw[stn_snoc];exact four_step _ hl
  by_cases h4:j<4
  ·go_wp2
   go_round
   case rel=>exact⟨j+1,by omega,by go_num,by rw[HS.out]⟩
   case measure=>simp[intOf];omega
  ·obtain rfl:j=4:=by omega
   clear HS
   go_wp2
   go_ret
   exact⟨rfl,rfl⟩
def tabL (j:Nat):List Value:=(List.range 16).map fun i=> .int .u32 ((if i<j then Crc.stn 4 i else 0:Nat):Int)
theorem tabL_len (j:Nat):(tabL j).length=16:=by simp[tabL]
theorem tabL_set (j:Nat):(tabL j).set j (.int .u32 (Crc.stn 4 j:Nat))=tabL (j+1):=by
 apply List.ext_getElem
 ·simp[tabL]
 ·intro i h1 h2
  simp only[tabL,List.getElem_set,List.getElem_map,List.getElem_range]
  by_cases h:j=i
  ·subst h;simp
  ·rw[if_neg h]
   by_cases h3:i<j
   ·rw[if_pos h3,if_pos (by omega)]
   ·rw[if_neg h3,if_neg (by omega)]
theorem tabL_get (j i:Nat) (hi:i<16):(tabL j)[i]? =some (.int .u32 ((if i<j then Crc.stn 4 i else 0:Nat):Int)):=by
 simp[tabL,hi]
theorem halves_any (w:World):
  Calls Tryz.prog 73 #[] w fun e w'=>e= .returned (.agg #[.int .u32 (Crc.stn 4 0:Nat),.int .u32 (Crc.stn 4 1:Nat),.int .u32 (Crc.stn 4 2:Nat),.int .u32 (Crc.stn 4 3:Nat),.int .u32 (Crc.stn 4 4:Nat),.int .u32 (Crc.stn 4 5:Nat),.int .u32 (Crc.stn 4 6:Nat),.int .u32 (Crc.stn 4 7:Nat),.int .u32 (Crc.stn 4 8:Nat),.int .u32 (Crc.stn 4 9:Nat),.int .u32 (Crc.stn 4 10:Nat),.int .u32 (Crc.stn 4 11:Nat),.int .u32 (Crc.stn 4 12:Nat),.int .u32 (Crc.stn 4 13:Nat),.int .u32 (Crc.stn 4 14:Nat),.int .u32 (Crc.stn 4 15:Nat)])∧Below w.heap.size w w':=by
 go_enter Tryz.func73,Tryz.ntmps73
 go_wp2
 go_loopw [3] (fun v wr=>∃j:Nat,j≤16∧v= .int .i64 j∧wr=(w.alloc (.cells (tabL 0).toArray 141)).alloc (.cells (tabL j).toArray 141)) (fun v _=>16-(intOf v).toNat)
 case atStart=>exact⟨0,by omega,rfl,rfl⟩
 case round=>
  obtain⟨j,hj,rfl,rfl⟩:=hrel
  have hlen:=tabL_len j
  by_cases h:j<16
  ·have hget:=tabL_get j j h
   go_wp2_with (go_at_call 91;refine(four_any j (by omega) _).mono ?_;rintro e w' ⟨rfl,rfl⟩)
   go_roundw
   case rel=>exact⟨j+1,by omega,by go_num,by simp[tabL_set]⟩
   case measure=>simp[intOf];omega
  ·obtain rfl:j=16:=by omega
   rw[show(tabL 16).toArray=#[.int .u32 (Crc.stn 4 0:Nat),.int .u32 (Crc.stn 4 1:Nat),.int .u32 (Crc.stn 4 2:Nat),.int .u32 (Crc.stn 4 3:Nat),.int .u32 (Crc.stn 4 4:Nat),.int .u32 (Crc.stn 4 5:Nat),.int .u32 (Crc.stn 4 6:Nat),.int .u32 (Crc.stn 4 7:Nat),.int .u32 (Crc.stn 4 8:Nat),.int .u32 (Crc.stn 4 9:Nat),.int .u32 (Crc.stn 4 10:Nat),.int .u32 (Crc.stn 4 11:Nat),.int .u32 (Crc.stn 4 12:Nat),.int .u32 (Crc.stn 4 13:Nat),.int .u32 (Crc.stn 4 14:Nat),.int .u32 (Crc.stn 4 15:Nat)] from rfl]
   rw[show(tabL 0).toArray=#[.int .u32 0,.int .u32 0,.int .u32 0,.int .u32 0,.int .u32 0,.int .u32 0,.int .u32 0,.int .u32 0,.int .u32 0,.int .u32 0,.int .u32 0,.int .u32 0,.int .u32 0,.int .u32 0,.int .u32 0,.int .u32 0] from rfl]
   clear hlen
   go_wp2
   refine bodyPost_ret (v:= .agg #[.int .u32 (Crc.stn 4 0:Nat),.int .u32 (Crc.stn 4 1:Nat),.int .u32 (Crc.stn 4 2:Nat),.int .u32 (Crc.stn 4 3:Nat),.int .u32 (Crc.stn 4 4:Nat),.int .u32 (Crc.stn 4 5:Nat),.int .u32 (Crc.stn 4 6:Nat),.int .u32 (Crc.stn 4 7:Nat),.int .u32 (Crc.stn 4 8:Nat),.int .u32 (Crc.stn 4 9:Nat),.int .u32 (Crc.stn 4 10:Nat),.int .u32 (Crc.stn 4 11:Nat),.int .u32 (Crc.stn 4 12:Nat),.int .u32 (Crc.stn 4 13:Nat),.int .u32 (Crc.stn 4 14:Nat),.int .u32 (Crc.stn 4 15:Nat)]) (by simp[results,Tryz.results73,go_sem]) rfl ⟨rfl, ?_⟩
   exact((Below.refl _ _).alloc (Nat.le_refl _) _).alloc (by simp) _
end Go.Proofs.YtfflenbfapgilaaGreat

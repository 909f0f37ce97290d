/- Programs, step by step: the program's own. -/
import Derived.Test.YteobailpkkljpaaGreatDoorK2
set_option linter.unusedSimpArgs false
set_option linter.unusedVariables false
set_option maxHeartbeats 4000000
namespace Go.Jq
variable {G:Nat→SFunc} {h h1:AH} {R:Value→AH→Prop}
def valQ(r v:Int)(l:Lcl):Int:=if r=0 then l.r0 else if r=1 then l.r1 else if r=2 then l.r2 else if r=3 then l.r3 else v
theorem valQ_M{r v:Int}{l:Lcl}(h:r=-1∨r=0∨r=1):valQ r v l=valM r v l:=by
 unfold valQ valM
 rcases h with rfl|rfl|rfl<;>simp
structure ProgG(G:Nat→SFunc):Prop where
 g174:G 174=c174
 g175:G 175=c175
 g176:G 176=c176
 g112:G 112=c112
 g111:G 111=c111
 g60:G 60=c60
 g113:G 113=c113
 g116:G 116=c116
theorem Value_q(g:ProgG G){r v:Int}{l:Lcl}(k:R (.int .i64 (valQ r v l)) h):WC G 174 [.agg #[.int .i64 r,.int .i64 v],.agg #[.int .i64 l.pc,.int .i64 l.r0,.int .i64 l.r1,.int .i64 l.r2,.int .i64 l.r3]] h R:=by
 refine WC_pure (WC_enter g.g174 rfl ?_)
 simp -implicitDefEqProofs[c174,c174_body,c174_0,c174_1]
 by_cases h0:0≤r∧r<4
 ·have:r=0∨r=1∨r=2∨r=3:=by omega
  rcases this with rfl|rfl|rfl|rfl<;>simp -implicitDefEqProofs[c174_2,Ext.lays]<;>simpa[valQ]using k
 ·have e:valQ r v l=v:=by
   unfold valQ
   rw[if_neg (by omega),if_neg (by omega),if_neg (by omega),if_neg (by omega)]
  rw[e]at k
  by_cases h1:0≤r
  ·have h2:¬r<4:=by omega
   simp -implicitDefEqProofs[h1,h2,c174_3,Ext.lays]
   exact k
  ·simp -implicitDefEqProofs[h1,c174_3,Ext.lays]
   exact k
theorem Do_q(g:ProgG G){a b:Int}(k:R (.tuple #[.int .i64 (ixor .i64 a b),.bool true]) h):WC G 175 [.int .i64 6,.int .i64 a,.int .i64 b] h R:=by
 refine WC_pure (WC_enter g.g175 rfl ?_)
 simp -implicitDefEqProofs[c175,c175_body,c175_0,c175_1,c175_2,c175_3,c175_5,c175_7,c175_9,c175_11,c175_13,c175_14,Ext.refl]
 exact k
theorem set_q(g:ProgG G){r x:Int}{l:Lcl}{b:Nat}{gr:Bool}(hr:r=0∨r=1)(hg:h.get b=.cells l.c gr false)(k:R (.tuple #[]) (h.put b (.cells (l.set r x).c gr false))):WC G 176 [.pointer (some ⟨b,0,none⟩),.int .i64 r,.int .i64 x] h R:=by
 refine WC_enter g.g176 rfl ?_
 have lc:l.c=[.int .i64 l.pc,.int .i64 l.r0,.int .i64 l.r1,.int .i64 l.r2,.int .i64 l.r3]:=rfl
 rw[lc]at hg
 rcases hr with rfl|rfl
 ·simp -implicitDefEqProofs[c176,c176_body,c176_0,c176_1,hg]
  exact k
 ·simp -implicitDefEqProofs[c176,c176_body,c176_0,c176_1,hg]
  exact k
theorem thread_q(g:ProgG G){p:Prg}{lv iv tv:Value}(V:PrgV h p lv iv tv){t:Nat}{th:List Ins}(ht:t<p.ths.length)(hth:p.ths[t]=th)(k:∀h1 u,Ext h h1→SlV 9 h th.length (th.flatMap Ins.c) u→R u h1):WC G 112 [.agg #[lv,iv,tv],.int .i64 t] h R:=by
 subst hth
 obtain⟨b,o,sp,c,c0,gg,ro,u,rfl,hb,hg,hu,su⟩:=V.ths.at ht
 refine WC_enter g.g112 rfl ?_
 simp -implicitDefEqProofs[c112,c112_body,c112_0,c112_1,show ¬(t:Int)<0 by omega,show ¬(p.ths.length:Int)≤t by omega,show ¬p.ths.length≤t by omega,ht,c112_3,AH.lays_lt hb,hg,hu]
 exact k _ _ .lays su
def inv111(h:AH)(th:List Ins)(tv:Value)(l0:Lcl)(mm:Nat)(F:Fr)(hh:AH):Prop:=
 ∃l:Lcl,mm=th.length-l.pc∧nrm th l=nrm th l0∧Ext h hh∧h.next+2≤hh.next∧hh.get h.next=.cells l.c false false∧hh.get (h.next+1)=.cells (zi 5) false false∧F=[(0,tv),(3,ptrV h.next),(4,ptrV (h.next+1))]
theorem normal_q(g:ProgG G){th:List Ins}{tv:Value}{n:Nat}(S:SlV 9 h th.length (th.flatMap Ins.c) tv)(ok:TOk (plP n) th)(hlen:th.length≤1000){l:Lcl}(k:R (nrm th l).v h):
  WC G 111 [tv,.agg #[.int .i64 l.pc,.int .i64 l.r0,.int .i64 l.r1,.int .i64 l.r2,.int .i64 l.r3]] h R:=by
 refine WC_is (by simp) k fun R' k=>?_
 obtain⟨ta,tc,rfl⟩:=S.len
 refine WC_enter g.g111 rfl ?_
 have lc:∀l:Lcl,l.c=[.int .i64 l.pc,.int .i64 l.r0,.int .i64 l.r1,.int .i64 l.r2,.int .i64 l.r3]:=fun _=>rfl
 have z5:zi 5=[.int .i64 0,.int .i64 0,.int .i64 0,.int .i64 0,.int .i64 0]:=rfl
 have z9:zi 9=[.int .i64 0,.int .i64 0,.int .i64 0,.int .i64 0,.int .i64 0,.int .i64 0,.int .i64 0,.int .i64 0,.int .i64 0]:=rfl
 simp -implicitDefEqProofs[c111,c111_body,c111_0]
 refine W_loop (inv111 h th (.slice ta th.length tc) l) (th.length-l.pc) ⟨l,rfl,rfl,.lays,by simp,by simp[lc],by simp,by simp[ptrV]⟩ ?_
 rintro mm F hh ⟨m,rfl,hn,x,nh,g0,g1,rfl⟩
 have q1:h.next<hh.next:=by omega
 have q2:h.next+1<hh.next:=by omega
 have q3:¬h.next=hh.next:=by omega
 have q4:¬h.next+1=hh.next:=by omega
 have S1:=S.ext x
 rw[lc]at g0
 have eq:=nrm.eq_1 th m
 simp -implicitDefEqProofs[c111_15,c111_1,ptrV,g0]
 by_cases h1:m.pc<th.length
 ·rw[dif_pos h1]at eq
  obtain⟨b,o,sp,c0,gg,ro,rfl,hb,hg,hle,hrow,hrd⟩:=S1.rd (f:=Ins.c) (fun _=>rfl) h1
  have cls:=(ok.ok _ (List.getElem_mem h1)).cls
  generalize th[m.pc]=i at*
  have ic:i.c=[.int .i64 i.kind,.int .i64 i.reg,.int .i64 i.loc,.int .i64 i.areg,.int .i64 i.aval,.int .i64 i.op,.int .i64 i.breg,.int .i64 i.bval,.int .i64 i.n]:=rfl
  rw[ic]at hrow
  have pc1:IntKind.i64.wrap ((m.pc:Int)+1)=((m.pc+1:Nat):Int):=by rw[wrap64 (by omega)];rfl
  simp -implicitDefEqProofs[h1,show(m.pc:Int)<th.length by omega,c111_2,g0,hg,hle,hrow,z9,splice,c111_3,c111_3b,AH.lays_lt q1,q3]
  refine Value_q (l:=m) g ?_
  simp -implicitDefEqProofs[AH.lays_lt q1,g0]
  refine Value_q (l:=m) g ?_
  simp -implicitDefEqProofs[AH.lays_lt q1,g0,c111_4,c111_5]
  have hL:∀L,Ext h (hh.lays L):=fun L=>x.lays'
  rcases cls with⟨k5,hr,ha,ho,hbr⟩|⟨k6,ha,hbr,hn1⟩|⟨k5,k6⟩
  ·rw[if_pos k5]at eq
   have sv:setV i m=ixor .i64 (valM i.areg i.aval m) (valM i.breg i.bval m):=by unfold setV;rw[if_neg (by omega)]
   simp -implicitDefEqProofs[eq_true k5,c111_6,ho,valQ_M ha,valQ_M (.inl hbr:i.breg=-1∨i.breg=0∨i.breg=1)]
   refine Do_q g ?_
   simp -implicitDefEqProofs[c111_7,c111_8,c111_9]
   rw[←sv]
   refine set_q (l:=m) g (by omega) (by rw[AH.lays_lt q1,g0];rfl) ?_
   have e2:(m.set i.reg (setV i m)).c=[.int .i64 m.pc,.int .i64 (m.set i.reg (setV i m)).r0,.int .i64 (m.set i.reg (setV i m)).r1,.int .i64 (m.set i.reg (setV i m)).r2,.int .i64 (m.set i.reg (setV i m)).r3]:=by rw[lc,Lcl.set_pc]
   rw[e2]
   simp -implicitDefEqProofs[c111_14,pc1]
   refine⟨th.length-(m.pc+1),by omega,{ m.set i.reg (setV i m)with pc:=m.pc+1 },rfl,by rw[←eq,hn],((hL _).put (by omega) _).put (by omega) _,?_,?_,?_,by simp[ptrV]⟩
   ·simp[AH.put_next];omega
   ·simp[AH.put_get,lc]
   ·simp[AH.put_get,AH.lays_lt q2,g1]
  ·have pc2:IntKind.i64.wrap ((m.pc:Int)+1+1)=((m.pc+1+1:Nat):Int):=by rw[wrap64 (by omega)];rfl
   rw[if_neg (by omega),if_pos k6]at eq
   simp -implicitDefEqProofs[eq_true k6,eq_false (show ¬i.kind=5 by omega),c111_10,c111_11,valQ_M ha,valQ_M (.inl hbr:i.breg=-1∨i.breg=0∨i.breg=1)]
   by_cases hv:valM i.areg i.aval m=valM i.breg i.bval m
   ·rw[if_pos hv]at eq
    simp -implicitDefEqProofs[eq_true hv,c111_12,AH.lays_lt q1,g0,hn1,pc1,show ¬(th.length:Int)<1 by omega,c111_14,pc2]
    refine⟨th.length-(m.pc+1+1),by omega,{ m with pc:=m.pc+1+1 },rfl,by rw[←eq,hn],((hL _).put (by omega) _).put (by omega) _,?_,?_,?_,by simp[ptrV]⟩
    ·simp[AH.put_next];omega
    ·simp[AH.put_get,lc]
    ·simp[AH.put_get,AH.lays_lt q2,g1]
   ·rw[if_neg hv]at eq
    simp -implicitDefEqProofs[eq_false hv,c111_14,AH.lays_lt q1,g0,pc1]
    refine⟨th.length-(m.pc+1),by omega,{ m with pc:=m.pc+1 },rfl,by rw[←eq,hn],(hL _).put (by omega) _,?_,?_,?_,by simp[ptrV]⟩
    ·simp[AH.put_next];omega
    ·simp[AH.put_get,lc]
    ·simp[AH.put_get,AH.lays_lt q2,g1]
  ·simp -implicitDefEqProofs[eq_false k5,eq_false k6,c111_10,c111_13,AH.lays_lt q1,AH.lays_lt q2,g0,g1,z5,splice]
   rw[if_neg k5,if_neg k6]at eq
   rw[←hn,eq]at k
   exact k _ ((hL _).put (by omega) _)
 ·rw[dif_neg h1]at eq
  simp -implicitDefEqProofs[h1,show ¬(m.pc:Int)<th.length by omega,c111_16,g0,g1,z5,splice]
  rw[←hn,eq]at k
  exact k _ (x.put (by omega) _)
theorem Start_q(g:ProgG G){p:Prg}{lv iv tv:Value}(V:PrgV h p lv iv tv){n:Nat}{t:Nat}{th:List Ins}(ht:t<p.ths.length)(hth:p.ths[t]=th)(ok:TOk (plP n) th)(hlen:th.length≤1000)(k:R (nrm th .zero).v h):WC G 60 [.agg #[lv,iv,tv],.int .i64 t] h R:=by
 refine WC_is (by simp) k fun R' k=>?_
 have z5:zi 5=[.int .i64 0,.int .i64 0,.int .i64 0,.int .i64 0,.int .i64 0]:=rfl
 refine WC_enter g.g60 rfl ?_
 simp -implicitDefEqProofs[c60,c60_body,c60_0,c60_1]
 refine thread_q g (V.ext .lays) ht hth fun h1 u x1 su=>?_
 have n1:=x1.next
 simp at n1
 have g1:h1.get (h.next+1)=.cells (zi 5) false false:=by rw[x1.get _ (by simp)];simp
 simp -implicitDefEqProofs[z5]
 refine normal_q (l:=.zero) g (su.ext x1) ok hlen ?_
 simp -implicitDefEqProofs[Lcl.v,Lcl.c,g1,z5,splice]
 exact k _ ((Ext.lays.trans x1).put (by omega) _)
def i0(th:List Ins)(l:Lcl)(h:l.pc<th.length):Prop:=1≤th[l.pc].kind∧th[l.pc].kind≤6
theorem i0_of{n:Nat}{th:List Ins}{l:Lcl}(ok:TOk (plP n) th)(h:l.pc<th.length):i0 th l h:=by
 have:=ok.ok _ (List.getElem_mem h)
 unfold i0
 unfold iOk at this
 rcases this with e|e|e|e|e|e<;>(have:=e.1;omega)
theorem Next_q(g:ProgG G){p:Prg}{lv iv tv:Value}(V:PrgV h p lv iv tv){n:Nat}{t:Nat}{th:List Ins}(ht:t<p.ths.length)(hth:p.ths[t]=th)(ok:TOk (plP n) th){l:Lcl}(k:R (nextV th l) h):WC G 113 [.agg #[lv,iv,tv],.int .i64 t,.agg #[.int .i64 l.pc,.int .i64 l.r0,.int .i64 l.r1,.int .i64 l.r2,.int .i64 l.r3]] h R:=by
 refine WC_is (by simp) k fun R' k=>?_
 have z9:zi 9=[.int .i64 0,.int .i64 0,.int .i64 0,.int .i64 0,.int .i64 0,.int .i64 0,.int .i64 0,.int .i64 0,.int .i64 0]:=rfl
 refine WC_enter g.g113 rfl ?_
 simp -implicitDefEqProofs[c113,c113_body,c113_0,c113_1]
 refine thread_q g (V.ext .lays) ht hth fun h1 u x1 su=>?_
 have n1:=x1.next
 simp at n1
 have g1:h1.get (h.next+1)=.cells [.int .i64 l.pc,.int .i64 l.r0,.int .i64 l.r1,.int .i64 l.r2,.int .i64 l.r3] false false:=by rw[x1.get _ (by simp)];simp
 have g2:h1.get (h.next+2)=.cells (zi 9) false false:=by rw[x1.get _ (by simp)];simp
 obtain⟨ua,uc,rfl⟩:=su.len
 have np:¬(l.pc:Int)<0:=by omega
 have kn:nextM th l=none→∀hh,Ext h hh→R' (.tuple #[Ins.zero.v,.bool false]) hh:=fun e hh x=>by
  have:=k hh x
  unfold nextV at this
  rw[e]at this
  exact this
 by_cases h1':l.pc<th.length
 ·obtain⟨b,o,sp,c0,gg,ro,rfl,hb,hg,hle,hrow,hrd⟩:=su.rd (f:=Ins.c) (fun _=>rfl) h1'
  have hb1:b<h1.next:=Nat.lt_of_lt_of_le hb x1.next
  have hg1:h1.get b=.cells c0 gg ro:=by rw[x1.get b hb];exact hg
  have ki:i0 th l h1':=i0_of ok h1'
  have en:nextM th l=if th[l.pc].kind=5∨th[l.pc].kind=6 then none else some th[l.pc]:=by unfold nextM;rw[dif_pos h1']
  unfold i0 at ki
  generalize th[l.pc]=i at*
  have ic:i.c=[.int .i64 i.kind,.int .i64 i.reg,.int .i64 i.loc,.int .i64 i.areg,.int .i64 i.aval,.int .i64 i.op,.int .i64 i.breg,.int .i64 i.bval,.int .i64 i.n]:=rfl
  rw[ic]at hrow
  simp -implicitDefEqProofs[c113_2,g1,np,h1',show ¬(th.length:Int)≤l.pc by omega,show ¬th.length≤l.pc by omega,c113_4,hg1,hle,hrow,z9,splice,c113_5]
  by_cases h5:i.kind=5∨i.kind=6
  ·rw[if_pos h5]at en
   simp -implicitDefEqProofs[show ¬i.kind<1 by omega,show(4:Int)<i.kind by omega,c113_6,AH.lays_lt (show h.next+2<h1.next by omega),g2,z9,splice]
   exact kn en _ ((Ext.lays.trans x1).lays'.put (by omega) _)
  ·rw[if_neg h5]at en
   simp -implicitDefEqProofs[show ¬i.kind<1 by omega,show ¬(4:Int)<i.kind by omega,c113_7,AH.lays_lt (show h.next+2<h1.next by omega),g2,z9,splice]
   have:=k _ (((Ext.lays.trans x1).lays' (L:=[.cells i.c false false])).put (i:=h.next+2) (by omega) (.cells i.c false false))
   unfold nextV at this
   rw[en]at this
   simpa[Ins.v,Ins.c]using this
 ·have en:nextM th l=none:=by unfold nextM;rw[dif_neg h1']
  simp -implicitDefEqProofs[c113_2,g1,np,show(th.length:Int)≤l.pc by omega,show th.length≤l.pc by omega,c113_3,g2,z9,splice]
  exact kn en _ ((Ext.lays.trans x1).put (by omega) _)
end Go.Jq
namespace Go.Jq
variable {G:Nat→SFunc} {h h1:AH} {R:Value→AH→Prop}
theorem After_q(g:ProgG G){p:Prg}{lv iv tv:Value}(V:PrgV h p lv iv tv){n:Nat}{t:Nat}{th:List Ins}(ht:t<p.ths.length)(hth:p.ths[t]=th)(ok:TOk (plP n) th)(hlen:th.length≤1000){l:Lcl}{x:Int}(k:R (aftM th l x).v h):
  WC G 116 [.agg #[lv,iv,tv],.int .i64 t,.agg #[.int .i64 l.pc,.int .i64 l.r0,.int .i64 l.r1,.int .i64 l.r2,.int .i64 l.r3],.int .i64 x] h R:=by
 refine WC_is (by simp) k fun R' k=>?_
 have z5:zi 5=[.int .i64 0,.int .i64 0,.int .i64 0,.int .i64 0,.int .i64 0]:=rfl
 have z9:zi 9=[.int .i64 0,.int .i64 0,.int .i64 0,.int .i64 0,.int .i64 0,.int .i64 0,.int .i64 0,.int .i64 0,.int .i64 0]:=rfl
 refine WC_enter g.g116 rfl ?_
 simp -implicitDefEqProofs[c116,c116_body,c116_0,c116_1]
 refine Next_q g (V.ext .lays) ht hth ok ?_
 cases en:nextM th l with
 | none=>
  have ea:aftM th l x=l:=by unfold aftM;rw[en]
  rw[ea]at k
  unfold nextV
  rw[en]
  simp -implicitDefEqProofs[Ins.zero,Ins.v,Ins.c,z9,z5,splice,c116_2,c116_3]
  exact k _ .lays
 | some i=>
  obtain⟨hm,hl,k5,k6⟩:=nextM_mem en
  have ea:aftM th l x=nrm th { (if i.kind=2∨i.kind=4 then l.set i.reg x else l)with pc:=l.pc+1 }:=by unfold aftM;rw[en]
  rw[ea]at k
  have oi:=ok.ok i hm
  have rd:=oi.reads
  have pc1:IntKind.i64.wrap ((l.pc:Int)+1)=((l.pc+1:Nat):Int):=by rw[wrap64 (by omega)];rfl
  unfold nextV
  rw[en]
  simp -implicitDefEqProofs[Ins.v,Ins.c,z9,z5,splice,c116_2,c116_4]
  have tail:∀(m:Lcl) (L:List ABlk),m.pc=l.pc→(∀hh,Ext h hh→R' (nrm th { m with pc:=l.pc+1 }).v hh)→wO G c116_6 [(1,.int .i64 t),(4,.pointer (some ⟨h.next,0,none⟩)),(6,.pointer (some ⟨h.next+1,0,none⟩)),(8,.pointer (some ⟨h.next+2,0,none⟩))]
    (h.lays (.cells [lv,iv,tv] false false::.cells [.int .i64 m.pc,.int .i64 m.r0,.int .i64 m.r1,.int .i64 m.r2,.int .i64 m.r3] false false::.cells (zi 5) false false::L)) (keepK [1,4,6,8] (thenK (W G ((SCode.dreg [8] c116_7 c116_7b).seq SCode.ret)) (retK [SRes.cellN 8 5] R'))):=by
   intro m L em km
   rw[em]
   simp -implicitDefEqProofs[c116_6,pc1,c116_7,c116_7b]
   refine thread_q g (V.ext .lays) ht hth fun h1 u x1 su=>?_
   have n1:=x1.next
   simp at n1
   have g1:h1.get (h.next+1)=.cells [.int .i64 ((l.pc:Int)+1),.int .i64 m.r0,.int .i64 m.r1,.int .i64 m.r2,.int .i64 m.r3] false false:=by rw[x1.get _ (by simp)];simp
   have g2:h1.get (h.next+2)=.cells (zi 5) false false:=by rw[x1.get _ (by simp)];simp
   simp -implicitDefEqProofs[g1]
   refine normal_q (l:={ m with pc:=l.pc+1 }) g (su.ext x1) ok hlen ?_
   simp -implicitDefEqProofs[Lcl.v,Lcl.c,g1,g2,z5,splice]
   exact km _ ((Ext.lays.trans x1).put (by omega) _)
  by_cases k2:i.kind=2
  ·rw[if_pos (.inl k2)]at k
   simp -implicitDefEqProofs[eq_true k2,c116_5]
   refine set_q (l:=l) (gr:=false) g (rd (.inl k2)) (by simp[Lcl.c]) ?_
   simp -implicitDefEqProofs[Lcl.c]
   exact tail (l.set i.reg x) _ Lcl.set_pc k
  ·by_cases k4:i.kind=4
   ·rw[if_pos (.inr k4)]at k
    simp -implicitDefEqProofs[eq_false k2,eq_true k4,c116_5]
    refine set_q (l:=l) (gr:=false) g (rd (.inr k4)) (by simp[Lcl.c]) ?_
    simp -implicitDefEqProofs[Lcl.c]
    exact tail (l.set i.reg x) _ Lcl.set_pc k
   ·rw[if_neg (by omega)]at k
    simp -implicitDefEqProofs[eq_false k2,eq_false k4]
    exact tail l _ rfl k
theorem Of_q(g:ProgG G)(g114:G 114=c114){i:Ins}{l:Lcl}{x:Int}{P:Int→Prop}(ok:iOk P i)(hk:i.kind≠5∧i.kind≠6)(k:R (.tuple #[(evtM i l x).v,.bool (rdI i)]) h):
  WC G 114 [.agg #[.int .i64 i.kind,.int .i64 i.reg,.int .i64 i.loc,.int .i64 i.areg,.int .i64 i.aval,.int .i64 i.op,.int .i64 i.breg,.int .i64 i.bval,.int .i64 i.n],.agg #[.int .i64 l.pc,.int .i64 l.r0,.int .i64 l.r1,.int .i64 l.r2,.int .i64 l.r3],.int .i64 x] h R:=by
 have z6:zi 6=[.int .i64 0,.int .i64 0,.int .i64 0,.int .i64 0,.int .i64 0,.int .i64 0]:=rfl
 refine WC_pure (WC_enter g114 rfl ?_)
 simp -implicitDefEqProofs[c114,c114_body,c114_0,c114_1,c114_2]
 by_cases k1:i.kind=1
 ·simp -implicitDefEqProofs[eq_true k1,c114_3,c114_3b]
  refine Value_q (l:=l) g ?_
  simp -implicitDefEqProofs[z6,splice,Ext.lays]
  have e:evtM i l x=⟨2,i.loc,0,valM i.areg i.aval l⟩:=by unfold evtM;rw[if_pos k1]
  have er:rdI i=false:=by simp[rdI,k1]
  have ea:valQ i.areg i.aval l=valM i.areg i.aval l:=valQ_M (by unfold iOk at ok;rcases ok with o|o|o|o|o|o<;>first|exact o.2.2.1|omega)
  rw[e,er]at k
  rw[ea]
  simpa[Evt.v]using k
 ·by_cases k2:i.kind=2
  ·have e:evtM i l x=⟨1,i.loc,x,0⟩:=by unfold evtM;rw[if_neg k1,if_pos k2]
   have er:rdI i=true:=by simp[rdI,k2]
   rw[e,er]at k
   simp -implicitDefEqProofs[eq_false k1,eq_true k2,c114_4,c114_5,z6,splice,Ext.lays]
   simpa[Evt.v]using k
  ·by_cases k4:i.kind=4
   ·have er:rdI i=true:=by simp[rdI,k4]
    have ab:(i.areg=-1∨i.areg=0∨i.areg=1)∧i.breg=-1:=by unfold iOk at ok;rcases ok with o|o|o|o|o|o<;>first|exact⟨o.2.2.2.1,o.2.2.2.2⟩|omega
    simp -implicitDefEqProofs[eq_false k1,eq_false k2,eq_true k4,c114_4,c114_6,c114_7]
    refine Value_q (l:=l) g ?_
    rw[valQ_M ab.1]
    simp -implicitDefEqProofs
    by_cases hv:valM i.areg i.aval l=x
    ·have e:evtM i l x=⟨4,i.loc,x,valM i.breg i.bval l⟩:=by unfold evtM;rw[if_neg k1,if_neg k2,if_pos k4,if_pos hv.symm]
     rw[e,er]at k
     simp -implicitDefEqProofs[eq_true hv,c114_8,c114_8b]
     refine Value_q (l:=l) g ?_
     rw[valQ_M (.inl ab.2)]
     simp -implicitDefEqProofs[z6,splice,Ext.lays]
     simpa[Evt.v]using k
    ·have e:evtM i l x=⟨5,i.loc,x,0⟩:=by unfold evtM;rw[if_neg k1,if_neg k2,if_pos k4,if_neg fun e=>hv e.symm]
     rw[e,er]at k
     simp -implicitDefEqProofs[eq_false hv,c114_9,z6,splice,Ext.lays]
     simpa[Evt.v]using k
   ·have e:evtM i l x=⟨3,0,0,0⟩:=by unfold evtM;rw[if_neg k1,if_neg k2,if_neg k4]
    have er:rdI i=false:=by simp[rdI,k2,k4]
    rw[e,er]at k
    simp -implicitDefEqProofs[eq_false k1,eq_false k2,eq_false k4,c114_4,c114_6,c114_10,z6,splice,Ext.lays]
    simpa[Evt.v]using k
end Go.Jq
namespace Go.Jq
variable {G:Nat→SFunc} {h:AH} {R:Value→AH→Prop}
structure CmpQ(G:Nat→SFunc):Prop where
 g229:G 229=c229
 g230:G 230=c230
 g197:G 197=c197
 g198:G 198=c198
 g142:G 142=c142
 g145:G 145=c145
 g143:G 143=c143
 g144:G 144=c144
 g146:G 146=c146
 g79:G 79=c79
theorem nan_q(g:CmpQ G){a:Int}(k:R (.bool false) h):WC G 229 [.int .i64 a] h R:=by
 refine WC_pure (WC_enter g.g229 rfl ?_)
 simp -implicitDefEqProofs[c229,c229_body,c229_0,c229_1,Ext.lays]
 exact⟨.refl _,k⟩
theorem nan64_q(g:CmpQ G){a:Int}(k:R (.bool false) h):WC G 230 [.int .i64 a] h R:=by
 refine WC_pure (WC_enter g.g230 rfl ?_)
 simp -implicitDefEqProofs[c230,c230_body,c230_0,c230_1,Ext.lays]
 exact⟨.refl _,k⟩
theorem cmp_q(g:CmpQ G){a b:Int}(k:R (.int .i64 (befM a b)) h):WC G 197 [.int .i64 a,.int .i64 b] h R:=by
 unfold befM at k
 refine WC_pure (WC_enter g.g197 rfl ?_)
 simp -implicitDefEqProofs[c197,c197_body,c197_0,c197_1]
 refine nan_q g ?_
 simp -implicitDefEqProofs[c197_2]
 refine nan_q g ?_
 simp -implicitDefEqProofs[c197_3,c197_7]
 generalize eQ:wO G c197_9 _ _ _=Q
 by_cases h1:a<b
 ·subst eQ
  rw[if_pos h1]at k
  simp -implicitDefEqProofs[c197_9,h1,c197_10,Ext.lays]
  exact⟨.refl _,k⟩
 ·rw[if_neg h1]at k
  by_cases h2:b<a
  ·subst eQ
   rw[if_pos h2]at k
   simp -implicitDefEqProofs[c197_9,h1,c197_11,h2,c197_12,Ext.lays]
   exact⟨.refl _,k⟩
  ·subst eQ
   rw[if_neg h2]at k
   simp -implicitDefEqProofs[c197_9,h1,c197_11,h2,c197_13,Ext.lays]
   exact⟨.refl _,k⟩
theorem cmp64_q(g:CmpQ G){a b:Int}(k:R (.int .i64 (befM a b)) h):WC G 198 [.int .i64 a,.int .i64 b] h R:=by
 unfold befM at k
 refine WC_pure (WC_enter g.g198 rfl ?_)
 simp -implicitDefEqProofs[c198,c198_body,c198_0,c198_1]
 refine nan64_q g ?_
 simp -implicitDefEqProofs[c198_2]
 refine nan64_q g ?_
 simp -implicitDefEqProofs[c198_3,c198_7]
 generalize eQ:wO G c198_9 _ _ _=Q
 by_cases h1:a<b
 ·subst eQ
  rw[if_pos h1]at k
  simp -implicitDefEqProofs[c198_9,h1,c198_10,Ext.lays]
  exact⟨.refl _,k⟩
 ·rw[if_neg h1]at k
  by_cases h2:b<a
  ·subst eQ
   rw[if_pos h2]at k
   simp -implicitDefEqProofs[c198_9,h1,c198_11,h2,c198_12,Ext.lays]
   exact⟨.refl _,k⟩
  ·subst eQ
   rw[if_neg h2]at k
   simp -implicitDefEqProofs[c198_9,h1,c198_11,h2,c198_13,Ext.lays]
   exact⟨.refl _,k⟩
def inv142(h:AH)(v:Value)(l:List Int)(mm:Nat)(F:Fr)(hh:AH):Prop:=
 ∃j:Nat,mm=l.length-j∧j≤l.length∧fnz (l.drop j)=fnz l∧hh=h∧F=[(3,.int .i64 0),(6,v),(7,.int .i64 l.length),(8,.int .i64 j)]
theorem or_q(g:CmpQ G){l:List Int}{v:Value}(s:SlV 1 h l.length (l.flatMap intC) v)(hl:l.length≤1000)(k:R (.int .i64 (fnz l)) h):WC G 142 [v] h R:=by
 obtain⟨a,c,rfl⟩:=s.len
 refine WC_pure (WC_enter g.g142 rfl ?_)
 simp -implicitDefEqProofs[c142,c142_body,c142_0,c142_1,c142_2]
 refine W_loop (inv142 h (.slice a l.length c) l) l.length ⟨0,rfl,by omega,rfl,rfl,rfl⟩ ?_
 rintro mm F hh ⟨j,rfl,hj,hr,rfl,rfl⟩
 simp -implicitDefEqProofs[c142_8,c142_3]
 by_cases h1:j<l.length
 ·obtain⟨b,o,sp,c0,gg,ro,rfl,hb,hg,_,_,r1⟩:=s.rd intC_length h1
  have r1:=r1 0 Nat.one_pos
  simp only[intC,Nat.add_zero,List.getElem?_cons_zero,Nat.mul_one]at r1
  have w1:IntKind.i64.wrap ((j:Int)+1)=((j+1:Nat):Int):=by rw[wrap64 (by omega)];rfl
  rw[List.drop_eq_getElem_cons h1,fnz]at hr
  generalize l[j]=x at*
  simp -implicitDefEqProofs[h1,c142_4,hg,r1]
  generalize eQ:wO G c142_5 _ _ _=Q
  by_cases h2:x=0
  ·subst eQ
   rw[if_neg (by simp[h2])]at hr
   simp -implicitDefEqProofs[c142_5,h2,c142_7,w1]
   exact⟨l.length-(j+1),by omega,j+1,rfl,h1,hr,rfl,rfl⟩
  ·subst eQ
   rw[if_pos h2]at hr
   subst hr
   simp -implicitDefEqProofs[c142_5,h2,c142_6,Ext.lays]
   exact⟨.refl _,k⟩
 ·have:j=l.length:=by omega
  subst this
  rw[List.drop_length]at hr
  simp -implicitDefEqProofs[h1,c142_9,Ext.lays]
  rw[←hr]at k
  exact⟨.refl _,k⟩
theorem rows_nil{m:List Int}:rowsM [] m=if 0<m.length then -1 else 0:=by cases m<;>simp[rowsM]
theorem rows_one{l:List Int}(h:0<l.length):rowsM l []=1:=by
 cases l with
 | nil=>simp at h
 | cons a l=>rfl
def inv145(h:AH)(u v:Value)(l m:List Int)(mm:Nat)(F:Fr)(hh:AH):Prop:=
 ∃j:Nat,mm=l.length-j∧j≤l.length∧j≤m.length∧rowsM (l.drop j) (m.drop j)=rowsM l m∧hh=h∧F=[(0,u),(1,v),(9,u),(10,.int .i64 l.length),(11,.int .i64 j)]
theorem rows_q(g:CmpQ G){l m:List Int}{u v:Value}(sl:SlV 1 h l.length (l.flatMap intC) u)(sm:SlV 1 h m.length (m.flatMap intC) v)(hl:l.length≤9223372036854775806)(k:R (.int .i64 (rowsM l m)) h):WC G 145 [u,v] h R:=by
 obtain⟨ua,uc,rfl⟩:=sl.len
 obtain⟨va,vc,rfl⟩:=sm.len
 refine WC_pure (WC_enter g.g145 rfl ?_)
 simp -implicitDefEqProofs[c145,c145_body,c145_0,c145_1]
 refine W_loop (inv145 h (.slice ua l.length uc) (.slice va m.length vc) l m) l.length ⟨0,rfl,by omega,by omega,rfl,rfl,rfl⟩ ?_
 rintro mm F hh ⟨j,rfl,hj,hj',hr,rfl,rfl⟩
 simp -implicitDefEqProofs[c145_11,c145_2]
 by_cases h1:j<l.length
 ·obtain⟨b,o,sp,c0,gg,ro,rfl,hb,hg,_,_,r1⟩:=sl.rd intC_length h1
  have r1:=r1 0 Nat.one_pos
  simp only[intC,Nat.add_zero,List.getElem?_cons_zero,Nat.mul_one]at r1
  simp -implicitDefEqProofs[h1,c145_3,hg,r1]
  generalize eQ:wO G c145_4 _ _ _=Q
  by_cases h2:j<m.length
  ·obtain⟨b',o',sp',c0',gg',ro',rfl,hb',hg',_,_,r2⟩:=sm.rd intC_length h2
   have r2:=r2 0 Nat.one_pos
   simp only[intC,Nat.add_zero,List.getElem?_cons_zero,Nat.mul_one]at r2
   have w1:IntKind.i64.wrap ((j:Int)+1)=((j+1:Nat):Int):=by rw[wrap64 (by omega)];rfl
   have h2':¬(m.length:Int)≤j:=by omega
   have h2n:¬m.length≤j:=by omega
   rw[drop_two h1,drop_two h2,rowsM]at hr
   generalize l[j]=x at*
   generalize m[j]=y at*
   subst eQ
   simp -implicitDefEqProofs[c145_4,h2,h2',h2n,c145_6,hg',r2,c145_7]
   refine cmp_q g ?_
   simp -implicitDefEqProofs[c145_8]
   by_cases h3:befM x y=0
   ·rw[if_neg (by simp[h3])]at hr
    simp -implicitDefEqProofs[h3,c145_10,w1]
    exact⟨l.length-(j+1),by omega,j+1,rfl,h1,h2,hr,rfl,rfl⟩
   ·rw[if_pos h3]at hr
    rw[←hr]at k
    simp -implicitDefEqProofs[h3,c145_9]
    exact⟨.refl _,k⟩
  ·have h2':(m.length:Int)≤j:=by omega
   have h2n:m.length≤j:=by omega
   rw[List.drop_of_length_le h2n,rows_one (by simp;omega)]at hr
   subst eQ
   simp -implicitDefEqProofs[c145_4,h2,h2',h2n,c145_5]
   rw[←hr]at k
   exact⟨.refl _,k⟩
 ·have:j=l.length:=by omega
  subst this
  rw[List.drop_length,rows_nil]at hr
  simp -implicitDefEqProofs[h1]
  generalize eQ:wO G c145_12 _ _ _=Q
  by_cases h2:l.length<m.length
  ·subst eQ
   rw[if_pos (by simp;omega)]at hr
   simp -implicitDefEqProofs[c145_12,h2,show(l.length:Int)<m.length by omega,c145_13]
   rw[←hr]at k
   exact⟨.refl _,k⟩
  ·subst eQ
   rw[if_neg (by simp;omega)]at hr
   simp -implicitDefEqProofs[c145_12,h2,show ¬(l.length:Int)<m.length by omega,c145_14]
   rw[←hr]at k
   exact⟨.refl _,k⟩
theorem fmI_len'{l:List Int}:(l.flatMap intC).length=l.length:=by
 induction l with
 | nil=>rfl
 | cons a l ih=>rw[List.flatMap_cons,List.length_append,ih];simp[intC];omega
theorem slv_ints{L:List ABlk}{l:List Int}(o:Nat)(h1:L[o]?=some (.cells (l.flatMap intC) false false)):SlV 1 (h.lays L) l.length (l.flatMap intC) (.slice (some ⟨h.next+o,0,none⟩) l.length l.length):=by
 have hl:(l.flatMap intC).length=l.length:=fmI_len'
 have ho:o<L.length:=(List.getElem?_eq_some_iff.1 h1).1
 refine⟨by omega,.inr ⟨_,_,_,_,l.flatMap intC,false,false,rfl,by simp;omega,?_,by omega,?_⟩⟩
 ·rw[AH.lays_get,h1];rfl
 ·rw[List.drop_zero,List.take_of_length_le (by omega)]
theorem ev_q(g:CmpQ G){x y:Ev6}(k:R (.int .i64 (evM x y)) h):WC G 144 [x.v,y.v] h R:=by
 refine WC_pure (WC_enter g.g144 rfl ?_)
 simp -implicitDefEqProofs[c144,c144_body,c144_0,Ev6.v,c144_1,c144_1b]
 refine cmp_q g ?_
 simp -implicitDefEqProofs
 refine cmp_q g ?_
 simp -implicitDefEqProofs
 refine cmp_q g ?_
 simp -implicitDefEqProofs
 refine cmp_q g ?_
 simp -implicitDefEqProofs
 refine cmp64_q g ?_
 simp -implicitDefEqProofs
 refine cmp64_q g ?_
 have z6:zi 6=[.int .i64 0,.int .i64 0,.int .i64 0,.int .i64 0,.int .i64 0,.int .i64 0]:=rfl
 simp -implicitDefEqProofs[z6,splice]
 refine or_q g (l:=[befM x.t y.t,befM x.i y.i,befM x.kind y.kind,befM x.loc y.loc,befM x.r y.r,befM x.w y.w]) (slv_ints 2 (by simp[intC])) (by simp) ?_
 simp -implicitDefEqProofs[Ext.lays]
 exact k
theorem evs_nil{m:List Ev6}:evsM [] m=if 0<m.length then -1 else 0:=by cases m<;>simp[evsM]
theorem evs_one{l:List Ev6}(h:0<l.length):evsM l []=1:=by
 cases l with
 | nil=>simp at h
 | cons a l=>rfl
def inv143(h:AH)(u v:Value)(l m:List Ev6)(mm:Nat)(F:Fr)(hh:AH):Prop:=
 ∃j:Nat,mm=l.length-j∧j≤l.length∧j≤m.length∧evsM (l.drop j) (m.drop j)=evsM l m∧hh=h.lays []∧F=[(0,u),(1,v),(2,.func (.func 144) #[] #[]),(11,u),(12,.int .i64 l.length),(13,.int .i64 j)]
theorem evs_q(g:CmpQ G){l m:List Ev6}{u v:Value}(sl:SlV 6 h l.length (l.flatMap Ev6.c) u)(sm:SlV 6 h m.length (m.flatMap Ev6.c) v)(hl:l.length≤9223372036854775806)(k:R (.int .i64 (evsM l m)) h):WC G 143 [u,v,.func (.func 144) #[] #[]] h R:=by
 obtain⟨ua,uc,rfl⟩:=sl.len
 obtain⟨va,vc,rfl⟩:=sm.len
 refine WC_pure (WC_enter g.g143 rfl ?_)
 simp -implicitDefEqProofs[c143,c143_body,c143_0,c143_1]
 refine W_loopg (inv143 h (.slice ua l.length uc) (.slice va m.length vc) l m) l.length ⟨0,rfl,by omega,by omega,rfl,by simp,rfl⟩ ?_
 rintro mm F hh ⟨j,rfl,hj,hj',hr,rfl,rfl⟩
 simp only[AH.lays_nil]
 simp -implicitDefEqProofs[c143_11,c143_2]
 have z6:zi 6=[.int .i64 0,.int .i64 0,.int .i64 0,.int .i64 0,.int .i64 0,.int .i64 0]:=rfl
 by_cases h1:j<l.length
 ·obtain⟨b,o,sp,c0,gg,ro,rfl,hb,hg,hle,hrow,_⟩:=sl.rd Ev6.c_length h1
  simp -implicitDefEqProofs[h1,c143_3,hg,hle,hrow,Ev6.c,z6,splice]
  generalize eQ:wO G c143_4 _ _ _=Q
  by_cases h2:j<m.length
  ·obtain⟨b',o',sp',c0',gg',ro',rfl,hb',hg',hle',hrow',_⟩:=sm.rd Ev6.c_length h2
   have w1:IntKind.i64.wrap ((j:Int)+1)=((j+1:Nat):Int):=by rw[wrap64 (by omega)];rfl
   have h2':¬(m.length:Int)≤j:=by omega
   have h2n:¬m.length≤j:=by omega
   rw[drop_two h1,drop_two h2,evsM]at hr
   generalize l[j]=x at*
   generalize m[j]=y at*
   subst eQ
   simp -implicitDefEqProofs[c143_4,h2,h2',h2n,c143_6,AH.lays_lt hb',hg',hle',hrow',Ev6.c,z6,splice,c143_7]
   refine ev_q g ?_
   simp -implicitDefEqProofs[c143_8]
   by_cases h3:evM x y=0
   ·rw[if_neg (by simp[h3])]at hr
    simp -implicitDefEqProofs[h3,c143_10,w1]
    refine gcK_lays0 ⟨by simp[hb,hb'],?_⟩
    exact⟨l.length-(j+1),by omega,j+1,rfl,h1,h2,hr,by simp,by simp⟩
   ·rw[if_pos h3]at hr
    rw[←hr]at k
    simp -implicitDefEqProofs[h3,c143_9,Ext.lays]
    exact k
  ·have h2':(m.length:Int)≤j:=by omega
   have h2n:m.length≤j:=by omega
   rw[List.drop_of_length_le h2n,evs_one (by simp;omega)]at hr
   subst eQ
   simp -implicitDefEqProofs[c143_4,h2,h2',h2n,c143_5,Ext.lays]
   rw[←hr]at k
   exact k
 ·have:j=l.length:=by omega
  subst this
  rw[List.drop_length,evs_nil]at hr
  simp -implicitDefEqProofs[h1]
  generalize eQ:wO G c143_12 _ _ _=Q
  by_cases h2:l.length<m.length
  ·subst eQ
   rw[if_pos (by simp;omega)]at hr
   simp -implicitDefEqProofs[c143_12,h2,show(l.length:Int)<m.length by omega,c143_13]
   rw[←hr]at k
   exact⟨.refl _,k⟩
  ·subst eQ
   rw[if_neg (by simp;omega)]at hr
   simp -implicitDefEqProofs[c143_12,h2,show ¬(l.length:Int)<m.length by omega,c143_14]
   rw[←hr]at k
   exact⟨.refl _,k⟩
theorem co_nil{m:List (List Int)}:coM [] m=if 0<m.length then -1 else 0:=by cases m<;>simp[coM]
theorem co_one{l:List (List Int)}(h:0<l.length):coM l []=1:=by
 cases l with
 | nil=>simp at h
 | cons a l=>rfl
def inv146(h:AH)(u v:Value)(l m:List (List Int))(mm:Nat)(F:Fr)(hh:AH):Prop:=
 ∃j:Nat,mm=l.length-j∧j≤l.length∧j≤m.length∧coM (l.drop j) (m.drop j)=coM l m∧hh=h∧F=[(0,u),(1,v),(2,.func (.func 145) #[] #[]),(11,u),(12,.int .i64 l.length),(13,.int .i64 j)]
theorem co_q(g:CmpQ G){l m:List (List Int)}{u v:Value}(sl:NestX intC 1 h l u)(sm:NestX intC 1 h m v)(hl:l.length≤9223372036854775806)(hr:∀r∈l,r.length≤9223372036854775806)(k:R (.int .i64 (coM l m)) h):WC G 146 [u,v,.func (.func 145) #[] #[]] h R:=by
 obtain⟨ua,uc,rfl⟩:=sl.len
 obtain⟨va,vc,rfl⟩:=sm.len
 refine WC_pure (WC_enter g.g146 rfl ?_)
 simp -implicitDefEqProofs[c146,c146_body,c146_0,c146_1]
 refine W_loop (inv146 h (.slice ua l.length uc) (.slice va m.length vc) l m) l.length ⟨0,rfl,by omega,by omega,rfl,rfl,rfl⟩ ?_
 rintro mm F hh ⟨j,rfl,hj,hj',hc,rfl,rfl⟩
 simp -implicitDefEqProofs[c146_11,c146_2]
 by_cases h1:j<l.length
 ·obtain⟨b,o,sp,c0,gg,ro,x,rfl,hb,hg,r1,sx⟩:=sl.at h1
  have hx:=hr _ (List.getElem_mem h1)
  simp -implicitDefEqProofs[h1,c146_3,hg,r1]
  obtain⟨xa,xc,rfl⟩:=sx.view.len
  generalize eQ:wO G c146_4 _ _ _=Q
  by_cases h2:j<m.length
  ·obtain⟨b',o',sp',c0',gg',ro',y,rfl,hb',hg',r2,sy⟩:=sm.at h2
   have w1:IntKind.i64.wrap ((j:Int)+1)=((j+1:Nat):Int):=by rw[wrap64 (by omega)];rfl
   have h2':¬(m.length:Int)≤j:=by omega
   have h2n:¬m.length≤j:=by omega
   obtain⟨ya,yc,rfl⟩:=sy.view.len
   rw[drop_two h1,drop_two h2,coM]at hc
   generalize l[j]=p at*
   generalize m[j]=q at*
   subst eQ
   simp -implicitDefEqProofs[c146_4,h2,h2',h2n,c146_6,hg',r2,c146_7]
   refine rows_q g sx.view sy.view hx ?_
   simp -implicitDefEqProofs[c146_8]
   by_cases h3:rowsM p q=0
   ·rw[if_neg (by simp[h3])]at hc
    simp -implicitDefEqProofs[h3,c146_10,w1]
    exact⟨l.length-(j+1),by omega,j+1,rfl,h1,h2,hc,rfl,rfl⟩
   ·rw[if_pos h3]at hc
    rw[←hc]at k
    simp -implicitDefEqProofs[h3,c146_9]
    exact⟨.refl _,k⟩
  ·have h2':(m.length:Int)≤j:=by omega
   have h2n:m.length≤j:=by omega
   rw[List.drop_of_length_le h2n,co_one (by simp;omega)]at hc
   subst eQ
   simp -implicitDefEqProofs[c146_4,h2,h2',h2n,c146_5]
   rw[←hc]at k
   exact⟨.refl _,k⟩
 ·have:j=l.length:=by omega
  subst this
  rw[List.drop_length,co_nil]at hc
  simp -implicitDefEqProofs[h1]
  generalize eQ:wO G c146_12 _ _ _=Q
  by_cases h2:l.length<m.length
  ·subst eQ
   rw[if_pos (by simp;omega)]at hc
   simp -implicitDefEqProofs[c146_12,h2,show(l.length:Int)<m.length by omega,c146_13]
   rw[←hc]at k
   exact⟨.refl _,k⟩
  ·subst eQ
   rw[if_neg (by simp;omega)]at hc
   simp -implicitDefEqProofs[c146_12,h2,show ¬(l.length:Int)<m.length by omega,c146_14]
   rw[←hc]at k
   exact⟨.refl _,k⟩
theorem cmpM_fnz{x y:Exe}:cmpM x y=fnz [evsM x.evs y.evs,rowsM x.rf y.rf,coM x.co y.co]:=by
 unfold cmpM
 simp only[fnz]
 split
 ·rfl
 ·split
  ·rfl
  ·split
   ·rfl
   ·omega
theorem compare_q(g:CmpQ G){x y:Exe}{ev rv cv ev' rv' cv':Value}(X:ExeV h x ev rv cv)(Y:ExeV h y ev' rv' cv')(he:x.evs.length≤9223372036854775806)(hf:x.rf.length≤9223372036854775806)(hc:x.co.length≤9223372036854775806)(hr:∀r∈x.co,r.length≤9223372036854775806)
  (k:R (.int .i64 (cmpM x y)) h):WC G 79 [.agg #[ev,rv,cv],.agg #[ev',rv',cv']] h R:=by
 obtain⟨a1,a2,rfl⟩:=X.evs.len
 obtain⟨a3,a4,rfl⟩:=X.rf.len
 obtain⟨a5,a6,rfl⟩:=X.co.len
 obtain⟨b1,b2,rfl⟩:=Y.evs.len
 obtain⟨b3,b4,rfl⟩:=Y.rf.len
 obtain⟨b5,b6,rfl⟩:=Y.co.len
 refine WC_pure (WC_enter g.g79 rfl ?_)
 simp -implicitDefEqProofs[c79,c79_body,c79_0,c79_1,c79_1b]
 refine evs_q g (X.evs.ext .lays) (Y.evs.ext .lays) he ?_
 simp -implicitDefEqProofs
 refine rows_q g (X.rf.ext .lays) (Y.rf.ext .lays) hf ?_
 simp -implicitDefEqProofs
 refine co_q g (X.co.ext .lays) (Y.co.ext .lays) hc hr ?_
 simp -implicitDefEqProofs[splice]
 refine or_q g (l:=[evsM x.evs y.evs,rowsM x.rf y.rf,coM x.co y.co]) (slv_ints 2 (by simp[intC])) (by simp) ?_
 rw[←cmpM_fnz]
 simp -implicitDefEqProofs[Ext.lays]
 exact k
end Go.Jq

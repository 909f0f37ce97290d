/- exec.Each. -/
import Derived.Test.YteobailpkkljpaaGreatDoorX
set_option linter.unusedSimpArgs false
set_option linter.unusedVariables false
set_option maxRecDepth 100000
set_option maxHeartbeats 8000000
namespace Go.Jq
variable {G:Nat→SFunc} {h h0 h1:AH} {R:Value→AH→Prop}
structure EachG(G:Nat→SFunc):Prop extends OnG G,OkG G where
 g31:G 31=c31
def zPart:List Value:=[.slice none 0 0,.slice none 0 0,.int .i64 0,.int .i64 0,.int .i64 0,.int .i64 0,.int .i64 0,.int .i64 0,.int .i64 0,.int .i64 0,.int .i64 0,.int .i64 0,.int .i64 0,.int .i64 0,.int .i64 0,.int .i64 0,.bool false,.int .i64 0]
theorem zPart_eq{n:Nat}:(List.replicate n zPart).flatten=(List.replicate n (Part.zero,((.slice none 0 0,.slice none 0 0):Value×Value))).flatMap pwc:=by
 induction n with
 | zero=>rfl
 | succ n ih=>rw[List.replicate_succ,List.flatten_cons,ih,List.replicate_succ,List.flatMap_cons];rfl
theorem SlG.put_lt{k lo n b:Nat}{hh:AH}{cs:List Value}{v:Value}{o:ABlk}(s:SlG k hh lo n cs v)(hb:b<lo):SlG k (hh.put b o) lo n cs v:=by
 obtain⟨s1,s2⟩:=s
 refine⟨s1,?_⟩
 rcases s2 with s2|⟨b',f1,f2,f3,f4⟩
 ·exact .inl s2
 ·exact .inr ⟨b',f1,by simpa using f2,by rw[AH.put_get,if_neg (by omega)];exact f3,f4⟩
theorem wr0_take{p:Prg}{i:Nat}(hi:i<p.init.length):((wr0 p).take (i+1)).flatMap Wr.c=((wr0 p).take i).flatMap Wr.c++[.int .i64 (-1),.int .i64 i,.int .i64 i,.int .i64 p.init[i]]:=by
 have hl:i<(wr0 p).length:=by rw[wr0_len];exact hi
 have e:=wr0_at hi
 rw[wrA_of hl,intA_of hi]at e
 rw[List.take_succ_eq_append_getElem hl,List.flatMap_append,e]
 rfl
def MS(wb nb ob:Nat)(v:Value):List Nat:=wb::nb::ob::(blkOf v).toList
def inv31a(h:AH)(p:Prg)(lv iv tv kv fv:Value)(wb nb pb:Nat)(ia:Option Addr)(ic:Nat)(mm:Nat)(F:Fr)(hh:AH):Prop:=
 ∃(i:Nat) (lg:Value),mm=p.init.length-i∧i≤p.init.length∧Ext h hh∧pb=h.next∧nb=h.next+1∧wb=h.next+2∧h.next+3≤hh.next∧hh.get wb=.cells [lv,iv,tv,.slice (some ⟨nb,0,none⟩) p.ths.length p.ths.length,lg,kv,fv] false false∧hh.get nb=.cells (List.replicate p.ths.length zPart).flatten false false∧SlG 4 hh (h.next+3) i (((wr0 p).take i).flatMap Wr.c) lg∧(i=0→lg=.slice none 0 0)∧hh.get pb=.cells [lv,iv,tv] false false∧
  F=[(3,.pointer (some ⟨pb,0,none⟩)),(6,.pointer (some ⟨wb,0,none⟩)),(23,.slice ia p.init.length ic),(24,.int .i64 p.init.length),(25,.int .i64 i)]
def inv31b(h:AH)(p:Prg)(lv iv tv kv fv:Value)(wb nb pb:Nat)(ms:List Nat)(mm:Nat)(F:Fr)(hh:AH):Prop:=
 ∃t:Nat,mm=p.ths.length-t∧t≤p.ths.length∧Ext h hh∧h.next+3≤hh.next∧hh.get pb=.cells [lv,iv,tv] false false∧Wst hh ms wb nb lv iv tv kv fv none p.ths.length (begW p t)∧
  F=[(3,.pointer (some ⟨pb,0,none⟩)),(6,.pointer (some ⟨wb,0,none⟩)),(48,.int .i64 p.ths.length),(49,.int .i64 t)]
theorem Each_t(g:EachG G){p:Prg}{lv iv tv kv fv:Value}{keep:Cd→Bool}{ob:Nat}{C:AH→Prop}{T:List Exe→Cd→Bool×List Exe}{Ok:List Exe→Prop}{A:List Nat}{L:List Exe}{v:Value}(Y:PrgY p)(K:KeepSp G p kv keep)(D:Told G p ob fv C T Ok)
  (V:PrgX (Sd h ob v) p lv iv tv)(hA:∀a∈A,a<h.next)(O:OutSA h ob A L v)(oL:Ok L)(hC:C (Sd h ob v))
  (k:∀h1 v1,h.next≤h1.next→Xt (Sd h ob v) (Sd h1 ob v1)→OutSA h1 ob A (tellM T (eachM p keep) L).2 v1→R (.tuple #[]) h1)
  {hh:AH}(x:Ext h hh)(hn:h.next+3≤hh.next)(gp:hh.get h.next=.cells [lv,iv,tv] false false)(gn:hh.get (h.next+1)=.cells (List.replicate p.ths.length zPart).flatten false false)(gw:hh.get (h.next+2)=.cells [lv,iv,tv,.slice (some ⟨h.next+1,0,none⟩) p.ths.length p.ths.length,.slice none 0 0,kv,fv] false false):
  wO G c31_3 [(3,.pointer (some ⟨h.next,0,none⟩)),(6,.pointer (some ⟨h.next+2,0,none⟩))] hh (keepK [3,6,23,24,25] (thenK (W G (.block 0 (.loop [3,6,23,24,25] c31_8))) (thenK (W G (((SCode.reg [3,6,48,49] c31_9).seq (.block 2 (.loop [3,6,48,49] c31_15))).seq (.reg [] c31_16))) (retK [] R)))):=by
 have Vh:=(V.xt Sd.xt)
 have hob:=O.hob
 have vlt:∀b,blkOf v=some b→b<h.next:=fun b e=>O.lt e
 have h1:=Y.T
 have h2:=Y.nl
 have h3:=Y.il
 obtain⟨ia,ic,rfl⟩:=Vh.init.len
 obtain⟨ta,tc,rfl⟩:=Vh.ths.len
 simp -implicitDefEqProofs[c31_3,gp]
 refine W_loop (inv31a h p lv (.slice ia p.init.length ic) (.slice ta p.ths.length tc) kv fv (h.next+2) (h.next+1) h.next ia ic) p.init.length ⟨0,.slice none 0 0,rfl,by omega,x,rfl,rfl,rfl,hn,gw,gn,by simpa using SlG.nil,fun _=>rfl,gp,rfl⟩ ?_
 rintro mm F hh1 ⟨i,lg,rfl,hi,x1,-,-,-,n1,gw1,gn1,sl,lz,gp1,rfl⟩
 by_cases hlt:i<p.init.length
 ·have hlt2:(i:Int)<(p.init.length:Int):=by omega
  obtain⟨la,lc,rfl⟩:=sl.len
  have hnx:=x1.next
  have Vi:=(Vh.init.xt x1.xt).view
  obtain⟨b,o,sp,c0,g1,ro,rfl,e2,e3,e4,e5,e6⟩:=SlV.rd intC_length Vi hlt
  have e6:=e6 0 (by omega)
  simp[intC]at e6
  simp -implicitDefEqProofs[c31_8,c31_4,c31_5,c31_6,c31_7,hlt,hlt2,e3,e6,gw1,AH.lays_lt (show h.next+2<hh1.next by omega),zi,List.replicate,splice]
  obtain⟨h',a1,a2,a3,a4,a5⟩:=(sl.ext (Ext.lays (L:=[.cells [.int .i64 (-1),.int .i64 i,.int .i64 i,.int .i64 p.init[i]] false false]))).append (m:=1) (m':=1) (bytes:=32) (sp:=none) (t:=hh1.next) (o:=0) (ec:=[.int .i64 (-1),.int .i64 i,.int .i64 i,.int .i64 p.init[i]]) (by simp[AH.load]) (by omega) (by omega) (by simp;omega)
  have q:∀y,y<h.next+3→h'.get y=hh1.get y:=fun y hy=>by rw[a5 y hy,AH.lays_lt (by omega)]
  have gw2:=(q (h.next+2) (by omega)).trans gw1
  simp at a3
  simp -implicitDefEqProofs[a1,gw2,wrap64 (show -9223372036854775808≤(i:Int)+1∧(i:Int)+1≤9223372036854775807 by omega)]
  refine⟨p.init.length-(i+1),by omega,i+1,_,rfl,hlt,?_,rfl,rfl,rfl,by rw[AH.put_next,a3];omega,by rw[AH.put_get,if_pos rfl],by rw[AH.put_get,if_neg (by omega),q _ (by omega)];exact gn1,?_,fun e=>by omega,by rw[AH.put_get,if_neg (by omega),q _ (by omega)];exact gp1,by simp⟩
  ·exact⟨by rw[AH.put_next,a3];omega,fun y hy=>by rw[AH.put_get,if_neg (by omega),q y (by omega),x1.get y hy]⟩
  ·rw[wr0_take hlt]
   have a2:=a2.put_lt (b:=h.next+2) (o:=.cells [lv,.slice (some ⟨b,o,sp⟩) p.init.length ic,.slice ta p.ths.length tc,.slice (some ⟨h.next+1,0,none⟩) p.ths.length p.ths.length,.slice (some ⟨hh1.next+1,0,some 4⟩) (i+1) (i+1),kv,fv] false false) (by omega)
   simpa using a2
 ·have hlt2:¬(i:Int)<(p.init.length:Int):=by omega
  have ei:i=p.init.length:=by omega
  subst ei
  have et:(wr0 p).take p.init.length=wr0 p:=List.take_of_length_le (by rw[wr0_len];omega)
  rw[et]at sl
  have hnx:=x1.next
  have hms:∀m∈MS (h.next+2) (h.next+1) ob v,m=h.next+2∨m=h.next+1∨m=ob∨blkOf v=some m:=fun m hm=>by simpa[MS]using hm
  have W0:Wst hh1 (MS (h.next+2) (h.next+1) ob v) (h.next+2) (h.next+1) lv (.slice ia p.init.length ic) (.slice ta p.ths.length tc) kv fv none p.ths.length (begW p 0):=by
   refine⟨⟨lg,false,by simpa[begW]using gw1,?_⟩,⟨List.replicate p.ths.length (Part.zero,(.slice none 0 0,.slice none 0 0)),false,by rw[gn1,zPart_eq],by simp[begW],?_⟩,by omega,by simp[MS],by simp[MS],?_⟩
   ·refine⟨?_,fun e=>?_⟩
    ·have:(begW p 0).log=wr0 p:=rfl
     rw[this,wr0_len]
     refine sl.x.same (by simp) fun b hb=>Km.get fun m=>?_
     have:=sl.blk hb
     rcases hms b m with q|q|q|q
     ·omega
     ·omega
     ·omega
     ·have:=vlt _ q;omega
    ·have hz:p.init.length=0:=by rw[←wr0_len (p:=p)];exact e
     exact lz hz
   ·intro x hx
    obtain⟨_,rfl⟩:=List.mem_replicate.1 hx
    exact⟨.zero,.zero⟩
   ·intro m hm
    rcases hms m hm with q|q|q|q
    ·omega
    ·omega
    ·omega
    ·have:=vlt _ q;omega
  simp -implicitDefEqProofs[c31_8,c31_4,hlt,hlt2,c31_9,gw1]
  refine W_loop (inv31b h p lv (.slice ia p.init.length ic) (.slice ta p.ths.length tc) kv fv (h.next+2) (h.next+1) h.next (MS (h.next+2) (h.next+1) ob v)) p.ths.length ⟨0,rfl,by omega,x1,n1,gp1,W0,rfl⟩ ?_
  clear W0 sl lz gp1 gn1 gw1 n1 x1 gp gn gw hn x hnx
  clear hh hh1
  rintro mm F hh ⟨t,rfl,ht,x1,n1,gp1,S,rfl⟩
  have lw:=begW_len (p:=p) t
  by_cases htl:t<p.ths.length
  ·have htl2:(t:Int)<(p.ths.length:Int):=by omega
   have htw:t<(begW p t).parts.length:=by omega
   obtain⟨lg,g1,gw,rl⟩:=S.wbk
   obtain⟨xs,g2,wv,gn,ex,px,hx0,ewv⟩:=S.at htw
   obtain⟨be1,be2,be3⟩:=beg_eq (p:=p) t ht
   have pz:=(be3 t (Nat.le_refl _) htl).1
   rw[pz]at ewv
   obtain⟨hle,rowN,lcs,lc1,rd1⟩:=pfacts hx0 ewv
   have bf:=beg_fit Y.toPrgB htl
   have tkl:=Y.tok _ (List.getElem_mem htl)
   rw[lw]at gw
   have Vx:Xt (Sd h ob v) (Km hh (MS (h.next+2) (h.next+1) ob v)):=Sd.km x1 fun b m=>by
    rcases hms b m with q|q|q|q
    ·exact .inr (.inr (by omega))
    ·exact .inr (.inr (by omega))
    ·exact .inl q
    ·exact .inr (.inl q)
   have Vm:=V.xt Vx
   simp -implicitDefEqProofs[c31_15,c31_10,c31_11,c31_12,c31_12b,c31_13,c31_14,htl,htl2,gp1,gw,AH.load]
   refine Start_q g.toProgG (Vm.xt Km.xt).v htl rfl tkl.1 (by omega) ?_
   have enr:thA p t=p.ths[t]:=by simp[thA,htl]
   have hst:=lcs 2 ({ Part.zero with l:=nrm p.ths[t] .zero },wv) (nrm p.ths[t] .zero).c (by simp[Lcl.c]) (by simp[pwc,Part.c,Lcl.c,Ins.c,splice])
   have lcl:(nrm p.ths[t] .zero).c.length=5:=by simp[Lcl.c]
   have e3:(nrm p.ths[t] .zero).v=.agg (nrm p.ths[t] .zero).c.toArray:=rfl
   rw[e3]
   have S2:=S.put (g2:=g2) ex px hx0 (x:={ Part.zero with l:=nrm p.ths[t] .zero }) ewv rfl rfl
   have nn2:h.next+1<hh.next:=by omega
   rw[←hst]at S2
   generalize hcs:xs.flatMap pwc=cs at gn hle S2
   simp -implicitDefEqProofs[htl,htl2,gn,lcl,AH.load,gp1,gw,show t*18+2+5≤cs.length by omega]
   have o2:Only [h.next+2,h.next+1] hh (hh.put (h.next+1) (.cells (splice cs (t*18+2) (nrm p.ths[t] .zero).c) g2 false)):=(Ext.refl hh).only.put (.inl (by simp))
   have gp2:(hh.put (h.next+1) (.cells (splice cs (t*18+2) (nrm p.ths[t] .zero).c) g2 false)).get h.next=.cells [lv,.slice ia p.init.length ic,.slice ta p.ths.length tc] false false:=by rw[AH.put_get,if_neg (by omega)];exact gp1
   have hn2:(hh.put (h.next+1) (.cells (splice cs (t*18+2) (nrm p.ths[t] .zero).c) g2 false)).next=hh.next:=rfl
   generalize hh.put (h.next+1) (.cells (splice cs (t*18+2) (nrm p.ths[t] .zero).c) g2 false)=h2 at*
   have x2:Ext h h2:=⟨by have:=x1.next;omega,fun b hb=>by rw[o2.get b (by omega) (by simp;omega)];exact x1.get b hb⟩
   have Vx2:Xt (Sd h ob v) (Km h2 (MS (h.next+2) (h.next+1) ob v)):=Sd.km x2 fun b m=>by
    rcases hms b m with q|q|q|q
    ·exact .inr (.inr (by omega))
    ·exact .inr (.inr (by omega))
    ·exact .inl q
    ·exact .inr (.inl q)
   have ept:partA ((begW p t).parts.set t { Part.zero with l:=nrm p.ths[t] .zero }) t={ Part.zero with l:=nrm p.ths[t] .zero }:=by rw[partA_set htw,if_pos rfl]
   refine run_q g.toWalkG S2 (V.xt Vx2).v (by simpa using htw) htl rfl tkl.1 (by omega) (by rw[ept];simp[Part.zero]) (by rw[ept];rfl) (by rw[ept];simp only;omega) fun h3 o3 S3=>?_
   have enw:begW p (t+1)=⟨((begW p t).parts.set t { Part.zero with l:=nrm p.ths[t] .zero }).set t (runP p.ths[t] t { Part.zero with l:=nrm p.ths[t] .zero } (begW p t).log).1,(runP p.ths[t] t { Part.zero with l:=nrm p.ths[t] .zero } (begW p t).log).2⟩:=by
    simp only[begW]
    rw[pz,enr,List.set_set]
   simp only[ept]at S3
   rw[←enw]at S3
   have n3:=o3.next
   simp -implicitDefEqProofs[wrap64 (show -9223372036854775808≤(t:Int)+1∧(t:Int)+1≤9223372036854775807 by omega)]
   exact⟨p.ths.length-(t+1),by omega,t+1,rfl,htl,⟨by have:=x2.next;omega,fun b hb=>by rw[o3.get b (by omega) (by simp;omega)];exact x2.get b hb⟩,by omega,by rw[o3.get _ (by omega) (by simp)];exact gp2,S3,by simp⟩
  ·have htl2:¬(t:Int)<(p.ths.length:Int):=by omega
   have et:t=p.ths.length:=by omega
   subst et
   simp -implicitDefEqProofs[c31_15,c31_10,c31_16,htl,htl2]
   have bo:=beg_ok Y.toPrgB
   have xs2:Xt (Km hh (MS (h.next+2) (h.next+1) ob v)) (Sd hh ob v):=Km.sd (.refl _) ⟨by simp[MS],fun b e=>by simp[MS,e]⟩
   have W:Wrd (Sd hh ob v) (h.next+2) (h.next+1) lv (.slice ia p.init.length ic) (.slice ta p.ths.length tc) kv fv none p.ths.length (begW p p.ths.length):=by
    obtain⟨lg,g1,gw,rl⟩:=S.wbk
    obtain⟨xs,g2,gn,ex,px⟩:=S.nbk
    refine⟨⟨lg,g1,?_,rl.xt xs2⟩,⟨xs,g2,?_,ex,fun x hx=>(px x hx).xt xs2⟩,by simp[Sd];omega,by simp[Sd];omega⟩
    ·rw[Sd.get (by omega) (fun e=>by have:=vlt _ e;omega)];exact gw
    ·rw[Sd.get (by omega) (fun e=>by have:=vlt _ e;omega)];exact gn
   refine on_all g.toOnG Y.toPrgB (fun l hl=>(Y.tok l hl).1) K D (sizeM p+1) hh _ (begW p p.ths.length) (h.next+2) (h.next+1) lv _ _ none p.ths.length L v A (beg_left (begW_len _)) bo.1 bo.2 (fun a ha=>by have:=hA a ha;omega) (O.ext x1) oL (V.xt (Sd.ext x1)) (D.xt _ _ (Sd.ext x1) hC) W fun h4 v4 n4 x4 O4=>?_
   have kk:=k h4 v4 (by omega) ((Sd.ext x1).trans x4) O4
   revert kk
   generalize (tellM T (onM p keep (sizeM p+1) (begW p p.ths.length)) L).1=b
   intro kk
   simp -implicitDefEqProofs
   exact kk
theorem Each_q(g:EachG G){p:Prg}{lv iv tv kv fv:Value}{keep:Cd→Bool}{ob:Nat}{C:AH→Prop}{T:List Exe→Cd→Bool×List Exe}{Ok:List Exe→Prop}{A:List Nat}{L:List Exe}{v:Value}(Y:PrgY p)(K:KeepSp G p kv keep)(D:Told G p ob fv C T Ok)
  (V:PrgX (Sd h ob v) p lv iv tv)(hA:∀a∈A,a<h.next)(O:OutSA h ob A L v)(oL:Ok L)(hC:C (Sd h ob v))
  (k:∀h1 v1,h.next≤h1.next→Xt (Sd h ob v) (Sd h1 ob v1)→OutSA h1 ob A (tellM T (eachM p keep) L).2 v1→R (.tuple #[]) h1):WC G 31 [.agg #[lv,iv,tv],kv,fv] h R:=by
 have Vh:=(V.xt Sd.xt)
 obtain⟨fn,caps,efv,sp⟩:=id D.sp
 subst efv
 have hob:=O.hob
 have vlt:∀b,blkOf v=some b→b<h.next:=fun b e=>O.lt e
 have h1:=Y.T
 have h2:=Y.nl
 have h3:=Y.il
 obtain⟨ia,ic,hiv⟩:=Vh.init.len
 obtain⟨ta,tc,htv⟩:=Vh.ths.len
 refine WC_enter g.g31 rfl ?_
 simp -implicitDefEqProofs[c31,c31_body,c31_0,c31_1]
 refine Ok_q g.toOkG (Vh.v.ext .lays) Y ?_
 have fin:∀(hh:AH),Ext h hh→h.next+3≤hh.next→hh.get h.next=.cells [lv,iv,tv] false false→hh.get (h.next+1)=.cells (List.replicate p.ths.length zPart).flatten false false→hh.get (h.next+2)=.cells [lv,iv,tv,.slice (some ⟨h.next+1,0,none⟩) p.ths.length p.ths.length,.slice none 0 0,kv,.func (.func fn) #[] caps.toArray] false false→_:=fun hh x n a b c=>Each_t g Y K D V hA O oL hC k x n a b c
 have fin2:=fun L hl a b c=>fin (h.lays L) .lays hl a b c
 subst htv
 rcases id K with⟨rfl,_⟩|⟨f,rfl,_⟩
 ·simp -implicitDefEqProofs[c31_2,c31_2b]
  refine⟨by omega,?_⟩
  exact fin2 _ (by simp) (by simp) (by simp[zPart]) (by simp)
 ·simp -implicitDefEqProofs[c31_2,c31_2b]
  refine⟨by omega,?_⟩
  exact fin2 _ (by simp) (by simp) (by simp[zPart]) (by simp)
end Go.Jq
namespace Go.Jq
variable {G:Nat→SFunc} {h h0 h1:AH} {R:Value→AH→Prop}
structure AllXG(G:Nat→SFunc):Prop extends EachG G,ChoseG G,SortG5 G,RelG2 G where
 g39:G 39=c39
 g37:G 37=c37
 g22:G 22=c22
theorem SlG.put_off{k lo n b:Nat}{hh:AH}{cs:List Value}{v:Value}{o:ABlk}(s:SlG k hh lo n cs v)(hb:blkOf v≠some b):SlG k (hh.put b o) lo n cs v:=by
 obtain⟨s1,s2⟩:=s
 refine⟨s1,?_⟩
 rcases s2 with s2|⟨b',f1,f2,f3,f4⟩
 ·exact .inl s2
 ·exact .inr ⟨b',f1,by simpa using f2,by rw[AH.put_get,if_neg (by rintro rfl;rw[f4]at hb;exact hb rfl)];exact f3,f4⟩
def addX(most:Nat)(L:List Exe)(x:Exe):Bool×List Exe:=(decide (L.length+1≤most),L++[x])
def MostC(mb most:Nat)(h:AH):Prop:=mb<h.next∧h.get mb=.cells [.int .i64 most] false false
theorem MostC.xt{mb most:Nat}(x:Xt h h1)(c:MostC mb most h):MostC mb most h1:=⟨Nat.lt_of_lt_of_le c.1 x.next,x.get _ _ _ _ c.1 c.2⟩
theorem add39(g:G 39=c39){ob mb most:Nat}(hm:most≤100000):TellX G (.func (.func 39) #[] #[.pointer (some ⟨ob,0,none⟩),.pointer (some ⟨mb,0,none⟩)]) ob (MostC mb most) (addX most) (fun L=>L.length≤most) Sm:=by
 refine⟨fun h h1 x c=>c.xt x,fun L x _ e=>by simpa[addX]using e,39,[.pointer (some ⟨ob,0,none⟩),.pointer (some ⟨mb,0,none⟩)],rfl,?_⟩
 intro h R L v x ev rv cv A hA O oL C sx xv k
 obtain⟨mlt,mg⟩:=C
 obtain⟨mo,mv,mg2⟩:=Sd.up mg
 have mlt:mb<h.next:=mlt
 have hob:=O.hob
 have gob:=O.at'
 obtain⟨ws,sl,all⟩:=O.ws
 have bl:∀b,blkOf v=some b→b<h.next:=fun b e=>O.lt e
 obtain⟨a,c,ev'⟩:=sl.len
 obtain⟨h',a1,a2,a3,a4,a5⟩:=(sl.ext (Ext.lays (L:=[.cells [ev,rv,cv] false false,.cells [ev,rv,cv] false false]))).append (m:=1) (m':=1) (bytes:=72) (sp:=none) (t:=h.next+1) (o:=0) (ec:=[ev,rv,cv]) (by simp[AH.load]) (by omega) (by omega) (by omega)
 subst ev'
 refine WC_enter g rfl ?_
 simp -implicitDefEqProofs[c39,c39_body,c39_0,c39_1,c39_2,AH.lays_lt hob,gob,a1]
 simp at a3
 have q:∀b,b<h.next→blkOf (Value.slice a L.length c)≠some b→h'.get b=h.get b:=fun b hb hn=>by
  rw[a4 b (by simp;omega) (fun n' e1=>hn (by rw[e1];rfl)),AH.lays_lt hb]
 have go2:=(q ob hob O.ne).trans gob
 have gm2:=(q mb mlt mv).trans mg2
 have mo2:¬ob=mb:=fun e=>mo e.symm
 simp -implicitDefEqProofs[a1,go2,gm2,mo,mo2,mlt,hob]
 have kk:=k (h'.put ob (.cells [.slice (some ⟨h.next+2,0,some 3⟩) (L.length+1) (L.length+1)] false false)) (.slice (some ⟨h.next+2,0,some 3⟩) (L.length+1) (L.length+1)) (by rw[AH.put_next];omega)
 simp only[addX]at kk
 have e:decide ((L.length:Int)+1≤(most:Int))=decide (L.length+1≤most):=by
  simp only[decide_eq_decide];omega
 try rw[e]
 refine kk ?_ ?_
 ·refine Sd.chg (by rw[AH.put_next];omega) (fun b hb h1 h2=>by rw[AH.put_get,if_neg h1];exact q b hb h2) fun b hb=>?_
  simp[blkOf]at hb
  omega
 ·refine⟨by rw[AH.put_get,if_pos rfl],by rw[AH.put_next];omega,by simp[blkOf];omega,?_,ws++[(ev,rv,cv)],?_,?_⟩
  ·intro y hy
   rcases List.mem_append.1 hy with m|m
   ·exact O.sm y m
   ·simp at m;rw[m];exact sx
  ·have s2:=a2.put_off (b:=ob) (o:=.cells [.slice (some ⟨h.next+2,0,some 3⟩) (L.length+1) (L.length+1)] false false) (by simp[blkOf];omega)
   simpa[c3]using s2
  ·have X:Xt (Km h (ob::((blkOf (Value.slice a L.length c)).toList++A))) (Km (h'.put ob (.cells [.slice (some ⟨h.next+2,0,some 3⟩) (L.length+1) (L.length+1)] false false)) (ob::((blkOf (Value.slice (some ⟨h.next+2,0,some 3⟩) (L.length+1) (L.length+1))).toList++A))):=by
    refine Km.chg (by rw[AH.put_next];omega) (fun b hb hn=>?_) fun b hb=>?_
    ·simp at hn
     rw[AH.put_get,if_neg hn.1]
     exact q b hb hn.2.1
    ·simp[blkOf]at hb
     rcases hb with e|e|e
     ·exact .inl (by simp[e])
     ·exact .inr (by omega)
     ·exact .inl (by simp[e])
   exact(all.imp fun _ _ _ _ e=>ExeV.xt e X).snoc (ExeV.xt xv X)
end Go.Jq
namespace Go.Jq
section
variable {α β:Type}
def offS(f:α→List β)(l:List α)(t:Nat):Nat:=((l.take t).map fun x=>(f x).length).sum
theorem fl_at{f:α→List β}{l:List α}{t i:Nat}(ht:t<l.length)(hi:i<(f l[t]).length):(l.flatMap f)[offS f l t+i]?=(f l[t])[i]?:=by
 induction l generalizing t with
 | nil=>simp at ht
 | cons a l ih=>
  cases t with
  | zero=>
   simp only[offS,List.take_zero,List.map_nil,List.sum_nil,Nat.zero_add,List.getElem_cons_zero]at hi ⊢
   rw[List.flatMap_cons,List.getElem?_append_left hi]
  | succ t=>
   simp only[List.length_cons]at ht
   simp only[List.getElem_cons_succ]at hi ⊢
   have:=ih (by omega) hi
   rw[List.flatMap_cons]
   simp only[offS,List.take_succ_cons,List.map_cons,List.sum_cons]
   rw[List.getElem?_append_right (by omega),←this]
   congr 1
   simp only[offS];omega
theorem fl_len{f:α→List β}{l:List α}:(l.flatMap f).length=offS f l l.length:=by
 unfold offS
 rw[List.take_length,List.length_flatMap]
theorem off_succ{f:α→List β}{l:List α}{t:Nat}(ht:t<l.length):offS f l (t+1)=offS f l t+(f l[t]).length:=by
 unfold offS
 rw[List.take_succ_eq_append_getElem ht,List.map_append,List.sum_append]
 simp
theorem off_mono {f : α → List β} {l : List α} {t s : Nat} (h : t ≤ s) (hs : s ≤ l.length) : offS f l t ≤ offS f l s := by
  induction s with
  | zero => have : t = 0 := by omega
            subst this; exact Nat.le_refl _
  | succ s ih =>
    by_cases e : t = s + 1
    · subst e; exact Nat.le_refl _
    · have := ih (by omega) (by omega)
      rw [off_succ (by omega)]; omega
theorem fl_lt{f:α→List β}{l:List α}{t i:Nat}(ht:t<l.length)(hi:i<(f l[t]).length):offS f l t+i<(l.flatMap f).length:=by
 rw[fl_len]
 have:=off_mono (f:=f) (l:=l) (t:=t+1) (s:=l.length) (by omega) (Nat.le_refl _)
 rw[off_succ ht]at this
 omega
theorem fl_split{f:α→List β}:∀{l:List α} {j:Nat},j<(l.flatMap f).length→∃t i,∃ht:t<l.length,i<(f l[t]).length∧j=offS f l t+i:=by
 intro l
 induction l with
 | nil=>intro j h;simp at h
 | cons a l ih=>
  intro j h
  rw[List.flatMap_cons,List.length_append]at h
  by_cases e:j<(f a).length
  ·exact⟨0,j,by simp,by simpa using e,by simp[offS]⟩
  ·obtain⟨t,i,ht,hi,hj⟩:=ih (j:=j-(f a).length) (by omega)
   refine⟨t+1,i,by simp only[List.length_cons];omega,by simpa using hi,?_⟩
   simp only[offS,List.take_succ_cons,List.map_cons,List.sum_cons]
   simp only[offS]at hj
   omega
theorem fl_inj{f:α→List β}{l:List α}{t i s j:Nat}(ht:t<l.length)(hs:s<l.length)(hi:i<(f l[t]).length)(hj:j<(f l[s]).length)(e:offS f l t+i=offS f l s+j):t=s∧i=j:=by
 have a:∀{t i s j:Nat} (ht:t<l.length) (hs:s<l.length) (hi:i<(f l[t]).length),t<s→offS f l t+i<offS f l s+j:=fun{t i s j} ht hs hi hlt=>by
  have:=off_mono (f:=f) (l:=l) (t:=t+1) (s:=s) (by omega) (by omega)
  rw[off_succ ht]at this
  omega
 rcases Nat.lt_trichotomy t s with q|q|q
 ·have:=a (j:=j) ht hs hi q;omega
 ·subst q;exact⟨rfl,by omega⟩
 ·have:=a (j:=i) hs ht hj q;omega
theorem off_congr{γ:Type}{f:α→List β}{g:α→List γ}{l:List α}(h:∀x∈l,(f x).length=(g x).length)(t:Nat):offS f l t=offS g l t:=by
 unfold offS
 congr 1
 refine List.map_congr_left fun x hx=>h x (List.mem_of_mem_take hx)
end
structure CandP(p:Prg)(evs:List Ev6)(rf:List Int):Prop where
 rl:rf.length=evs.length
 n60:evs.length≤60
 n0:p.locs.length≤evs.length
 ini:∀c,c<p.locs.length→evA evs c=iniE p c
 loc:∀j,j<evs.length→(evA evs j).reads=true∨(evA evs j).writes=true→plP p.locs.length (evA evs j).loc
 tid:∀j,j<evs.length→p.locs.length≤j→∃t i:Nat,(evA evs j).t=t∧(evA evs j).i=i∧t<p.ths.length
 src:∀j,j<evs.length→if(evA evs j).reads=true then ∃f:Nat,intA rf j=f∧f<evs.length∧(evA evs f).writes=true∧(evA evs f).loc=(evA evs j).loc∧(evA evs f).w=(evA evs j).r else intA rf j=-1
 rank:∃rk:Nat→Nat,(∀a b,a<evs.length→b<evs.length→poP evs a b=true→rk a<rk b)∧∀j f:Nat,j<evs.length→(evA evs j).reads=true→intA rf j=f→rk f<rk j
theorem sum_le{l:List Nat}{k:Nat}(h:∀x∈l,x≤k):l.sum≤k*l.length:=by
 induction l with
 | nil=>simp
 | cons a l ih=>
  have:=ih fun x hx=>h x (by simp[hx])
  have h2:=h a (by simp)
  simp only[List.sum_cons,List.length_cons,Nat.mul_succ]
  omega
theorem cand_p{p:Prg}{w:Wk}(B:PrgB p)(W:WOk p w):CandP p (flatE p w.parts) (flatR p w):=by
 obtain⟨σ,N,I⟩:=W.inv
 have hT:=B.T
 have hl:=I.len
 have hn0:(initsM p).length=p.locs.length:=by simp[initsM]
 obtain⟨n0,en0⟩:∃n0,n0=p.locs.length:=⟨_,rfl⟩
 rw[←en0]at hn0
 have hil:p.init.length=n0:=by rw[B.il,en0]
 have hnl:=B.nl
 have pe:∀t (ht:t<w.parts.length),w.parts[t]=partA w.parts t:=fun t ht=>(partA_of ht).symm
 have hsl:∀x∈w.parts,x.evs.length=(x.src.map (placeM n0 w.parts w.log)).length:=fun x hx=>by
  obtain⟨t,ht,rfl⟩:=List.mem_iff_getElem.1 hx
  rw[pe t ht,List.length_map,I.slen t ht]
 have off2:=off_congr (f:=Part.evs) (g:=fun x:Part=>x.src.map (placeM n0 w.parts w.log)) hsl
 have el:(flatE p w.parts).length=n0+offS Part.evs w.parts w.parts.length:=by
  unfold flatE;rw[List.length_append,hn0,fl_len]
 have rl:(flatR p w).length=n0+offS Part.evs w.parts w.parts.length:=by
  unfold flatR;rw[List.length_append,List.length_replicate,hn0,fl_len,off2]
 have ini:∀c,c<n0→evA (flatE p w.parts) c=iniE p c:=fun c hc=>by
  unfold flatE
  rw[evA_app (by omega)]
  simp[evA,initsM,show c<p.locs.length by omega]
 have inr:∀c,c<n0→intA (flatR p w) c=-1:=fun c hc=>by
  unfold flatR
  rw[intA_app (by simp;omega)]
  simp[intA,hn0,hc]
 have atE:∀t i,t<w.parts.length→i<(partA w.parts t).evs.length→evA (flatE p w.parts) (n0+(offS Part.evs w.parts t+i))=evA (partA w.parts t).evs i:=fun t i ht hi=>by
  have hi':i<(w.parts[t]).evs.length:=by rw[pe t ht];exact hi
  have:=fl_at (f:=Part.evs) ht hi'
  unfold flatE evA
  rw[List.getElem?_append_right (by omega),hn0,Nat.add_sub_cancel_left,this,pe t ht]
 have atR:∀t i,t<w.parts.length→i<(partA w.parts t).evs.length→intA (flatR p w) (n0+(offS Part.evs w.parts t+i))=placeM n0 w.parts w.log (intA (partA w.parts t).src i):=fun t i ht hi=>by
  have hs:=I.slen t ht
  have hi':i<((fun x:Part=>x.src.map (placeM n0 w.parts w.log)) w.parts[t]).length:=by simp only[List.length_map];rw[pe t ht];omega
  have:=fl_at (f:=fun x:Part=>x.src.map (placeM n0 w.parts w.log)) ht hi'
  unfold flatR intA
  rw[List.getElem?_append_right (by simp;omega),List.length_replicate,hn0,Nat.add_sub_cancel_left,off2,this,pe t ht]
  simp only[List.getElem?_map]
  rw[List.getElem?_eq_getElem (by omega)]
  simp
 have pos:∀j,j<(flatE p w.parts).length→j<n0∨∃t i,t<w.parts.length∧i<(partA w.parts t).evs.length∧j=n0+(offS Part.evs w.parts t+i):=fun j hj=>by
  by_cases e:j<n0
  ·exact .inl e
  ·obtain⟨t,i,ht,hi,hji⟩:=fl_split (f:=Part.evs) (l:=w.parts) (j:=j-n0) (by rw[fl_len];omega)
   rw[pe t ht]at hi
   exact .inr ⟨t,i,ht,hi,by omega⟩
 have plt:∀t i,t<w.parts.length→i<(partA w.parts t).evs.length→n0+(offS Part.evs w.parts t+i)<(flatE p w.parts).length:=fun t i ht hi=>by
  have:=fl_lt (f:=Part.evs) (l:=w.parts) (t:=t) (i:=i) ht (by rw[pe t ht];exact hi)
  rw[fl_len]at this
  omega
 obtain⟨rk,rk0,rk1⟩:∃rk:Nat→Nat,(∀j,j<n0→rk j=0)∧∀t i,t<w.parts.length→i<(partA w.parts t).evs.length→rk (n0+(offS Part.evs w.parts t+i))=1+σ t i:=by
  classical
  refine⟨fun j=>if h:∃ti:Nat×Nat,ti.1<w.parts.length∧ti.2<(partA w.parts ti.1).evs.length∧j=n0+(offS Part.evs w.parts ti.1+ti.2)then 1+σ h.choose.1 h.choose.2 else 0,fun j hj=>?_,fun t i ht hi=>?_⟩
  ·refine dif_neg ?_
   rintro⟨ti,_,_,e⟩
   omega
  ·have ex:∃ti:Nat×Nat,ti.1<w.parts.length∧ti.2<(partA w.parts ti.1).evs.length∧n0+(offS Part.evs w.parts t+i)=n0+(offS Part.evs w.parts ti.1+ti.2):=⟨(t,i),ht,hi,rfl⟩
   refine(dif_pos ex).trans ?_
   obtain⟨a,b,c⟩:=ex.choose_spec
   generalize ex.choose=ti at*
   obtain⟨e1,e2⟩:=fl_inj (f:=Part.evs) ht a (by rw[pe t ht];exact hi) (by rw[pe _ a];exact b) (by omega)
   rw[←e1,←e2]
 have σm:∀t i k,t<w.parts.length→i+(k+1)<(partA w.parts t).evs.length→σ t i<σ t (i+(k+1)):=fun t i k ht=>by
  induction k with
  | zero=>intro hi;exact I.mono t i ht hi
  | succ k ih=>intro hi;exact Nat.lt_trans (ih (by omega)) (I.mono t (i+(k+1)) ht hi)
 have srcF:∀t i,t<w.parts.length→i<(partA w.parts t).evs.length→(evA (partA w.parts t).evs i).reads=true→∃f:Nat,placeM n0 w.parts w.log (intA (partA w.parts t).src i)=f∧f<(flatE p w.parts).length∧(evA (flatE p w.parts) f).writes=true∧(evA (flatE p w.parts) f).loc=(evA (partA w.parts t).evs i).loc∧(evA (flatE p w.parts) f).w=(evA (partA w.parts t).evs i).r∧rk f<1+σ t i:=fun t i ht hi hr=>by
  have:=I.src t ht i hi
  rw[if_pos hr]at this
  obtain⟨f,e1,e2,e3,e4,e5⟩:=this
  rw[e1]
  unfold placeM
  rw[if_neg (by omega),Int.toNat_natCast]
  by_cases hf:f<p.init.length
  ·have l0:=I.l0 f hf
   rw[l0]at e3 e4 ⊢
   rw[if_pos (by show(-1:Int)<0;omega)]
   refine⟨f,rfl,by omega,?_,?_,?_,?_⟩
   ·rw[ini f (by omega)];rfl
   ·rw[ini f (by omega)];exact e3
   ·rw[ini f (by omega)];exact e4
   ·rw[rk0 f (by omega)];omega
  ·obtain⟨s,k,a1,a2,a3,a4,a5,a6,a7⟩:=I.ent f (by omega) e2
   rw[a1,a2,if_neg (by omega),Int.toNat_natCast]
   have ep:((k:Int)+(firstM n0 w.parts s:Nat))=((n0+(offS Part.evs w.parts s+k):Nat):Int):=by
    simp only[firstM,offS];omega
   refine⟨n0+(offS Part.evs w.parts s+k),ep,plt s k a3 a4,?_,?_,?_,?_⟩
   ·rw[atE s k a3 a4];exact a5
   ·rw[atE s k a3 a4,a6];exact e3
   ·rw[atE s k a3 a4,a7];exact e4
   ·rw[rk1 s k a3 a4]
    have:=e5 s k a1 a2
    omega
 refine⟨by omega,?_,by omega,fun c hc=>ini c (by omega),fun j hj h=>?_,fun j hj hn=>?_,fun j hj=>?_,rk,fun a b ha hb h=>?_,fun j f hj hr hf=>?_⟩
 ·have:offS Part.evs w.parts w.parts.length≤11*w.parts.length:=by
   unfold offS
   rw[List.take_length]
   have:=sum_le (l:=w.parts.map fun x=>x.evs.length) (k:=11) fun x hx=>by
    obtain⟨y,hy,rfl⟩:=List.mem_map.1 hx
    obtain⟨t,ht,rfl⟩:=List.mem_iff_getElem.1 hy
    rw[pe t ht]
    exact W.ev_le B ht
   simpa using this
  omega
 ·rcases pos j hj with q|⟨t,i,ht,hi,rfl⟩
  ·rw[ini j q]
   exact⟨by simp[iniE],by simp[iniE];omega⟩
  ·rw[atE t i ht hi]at h ⊢
   exact(I.evs t ht i hi).2.2 h
 ·rcases pos j hj with q|⟨t,i,ht,hi,rfl⟩
  ·omega
  ·rw[atE t i ht hi]
   obtain⟨a,b,_⟩:=I.evs t ht i hi
   exact⟨t,i,a,b,by omega⟩
 ·rcases pos j hj with q|⟨t,i,ht,hi,rfl⟩
  ·rw[ini j q,if_neg (by simp[iniE,Ev6.reads])]
   exact inr j q
  ·rw[atE t i ht hi,atR t i ht hi]
   by_cases hr:(evA (partA w.parts t).evs i).reads=true
   ·rw[if_pos hr]
    obtain⟨f,a,b,c,d,e,_⟩:=srcF t i ht hi hr
    exact⟨f,a,b,c,d,e⟩
   ·rw[if_neg hr]
    have:=I.src t ht i hi
    rw[if_neg hr]at this
    rw[this];rfl
 ·rcases pos a ha with q|⟨t,i,ht,hi,rfl⟩
  ·rcases pos b hb with q2|⟨s,k,hs,hk,rfl⟩
   ·simp[poP,poE,ini a q,ini b q2,iniE]at h
   ·rw[rk0 a q,rk1 s k hs hk];omega
  ·obtain⟨e1,e2,_⟩:=I.evs t ht i hi
   rcases pos b hb with q2|⟨s,k,hs,hk,rfl⟩
   ·simp[poP,poE,atE t i ht hi,ini b q2,iniE,e1]at h
   ·obtain⟨f1,f2,_⟩:=I.evs s hs k hk
    have h':t=s∧i<k:=by
     simp[poP,poE,atE t i ht hi,atE s k hs hk,e1,e2,f1,f2]at h
     omega
    obtain⟨rfl,h2⟩:=h'
    rw[rk1 t i ht hi,rk1 t k hs hk]
    have:=σm t i (k-i-1) ht (by omega)
    rw[show i+(k-i-1+1)=k by omega]at this
    omega
 ·rcases pos j hj with q|⟨t,i,ht,hi,rfl⟩
  ·rw[ini j q]at hr;simp[iniE,Ev6.reads]at hr
  ·rw[atE t i ht hi]at hr
   rw[atR t i ht hi]at hf
   obtain⟨f',a,_,_,_,_,b⟩:=srcF t i ht hi hr
   have:f=f':=by omega
   rw[this,rk1 t i ht hi]
   exact b
end Go.Jq
namespace Go.Jq
variable {G:Nat→SFunc} {h h0 h1:AH} {R:Value→AH→Prop}
theorem rowsF_mem{l:List Int}{sk:Nat→Int→Bool}:∀(n:Nat) (out:List Int) (done:Nat) (row:List Int),row∈rowsF l sk n out done→row.length=l.length∧out <+: row∧∀i∈row,i∈out∨i∈l:=by
 intro n
 induction n with
 | zero=>intro out done row h;simp[rowsF]at h
 | succ n ih=>
  intro out done row h
  simp only[rowsF]at h
  split at h
  ·rename_i e
   simp at h
   subst h
   exact⟨e,List.prefix_rfl,fun i hi=>.inl hi⟩
  ·obtain⟨i,hi,h⟩:=List.mem_flatMap.1 h
   split at h
   ·simp at h
   ·obtain⟨a,b,c⟩:=ih _ _ _ h
    refine⟨a,(List.prefix_append out [i]).trans b,fun j hj=>?_⟩
    rcases c j hj with q|q
    ·rcases List.mem_append.1 q with m|m
     ·exact .inl m
     ·simp at m;rw[m];exact .inr hi
    ·exact .inr q
theorem rowsW_mem{l:List Int}{sk:Nat→Int→Bool}{row:List Int}(h:row∈rowsW l sk):row.length=l.length∧l.take 1 <+: row∧∀i∈row,i∈l:=by
 obtain⟨a,b,c⟩:=rowsF_mem _ _ _ _ h
 refine⟨a,b,fun i hi=>?_⟩
 rcases c i hi with q|q
 ·exact List.mem_of_mem_take q
 ·exact q
theorem prodL_mem:∀{W:List (List (List Int))} {co:List (List Int)},co∈prodL W→co.length=W.length∧∀c (h1:c<co.length) (h2:c<W.length),co[c]∈W[c]:=by
 intro W
 induction W with
 | nil=>intro co h;simp[prodL]at h;subst h;exact⟨rfl,fun c h1=>by simp at h1⟩
 | cons rs W ih=>
  intro co h
  simp only[prodL]at h
  obtain⟨r,hr,h⟩:=List.mem_flatMap.1 h
  obtain⟨q,hq,rfl⟩:=List.mem_map.1 h
  obtain⟨a,b⟩:=ih hq
  refine⟨by simp[a],fun c h1 h2=>?_⟩
  cases c with
  | zero=>simpa using hr
  | succ c=>simpa using b c (by simpa using h1) (by simpa using h2)
theorem choose_mem{nl n:Nat}{evs:List Ev6}{r:Nat→Nat}{co:List (List Int)}(h:co∈chooseM nl evs n r):co.length=nl∧∀c (h1:c<co.length),co[c].length=(wrtN evs c evs.length).length∧(wrtN evs c evs.length).take 1 <+: co[c]∧∀i∈co[c],i∈wrtN evs c evs.length:=by
 obtain⟨a,b⟩:=prodL_mem h
 have hl:(rowsL n (invR n r) (wrtM nl evs)).length=nl:=by simp[rowsL,wrtM]
 rw[hl]at a
 refine⟨a,fun c h1=>?_⟩
 have:=b c h1 (by omega)
 simp only[rowsL,wrtM,List.getElem_map,List.getElem_range]at this
 exact rowsW_mem this
theorem cand_sm{p:Prg}{evs:List Ev6}{rf:List Int}{n:Nat}{r:Nat→Nat}{co:List (List Int)}(C:CandP p evs rf)(hnl:p.locs.length≤4)(h:co∈chooseM p.locs.length evs n r):Sm ⟨evs,rf,co⟩:=by
 obtain⟨a,b⟩:=choose_mem h
 have n60:=C.n60
 have rl:=C.rl
 refine⟨n60,by simp only;omega,by simp only;omega,fun l hl=>?_⟩
 obtain⟨c,hc,rfl⟩:=List.mem_iff_getElem.1 hl
 have:=(b c hc).1
 have:=wrtN_le (evs:=evs) (c:=c) (j:=evs.length)
 simp only at hc ⊢
 omega
theorem cand_w0{p:Prg}{evs:List Ev6}{rf:List Int}(C:CandP p evs rf):∀l∈wrtM p.locs.length evs,0<l.length:=by
 intro l hl
 obtain⟨c,hc,rfl⟩:=List.mem_map.1 hl
 have hc:c<p.locs.length:=by simpa using hc
 have n0:=C.n0
 have:(c:Int)∈wrtN evs c evs.length:=by
  unfold wrtN
  refine List.mem_map.2 ⟨c,List.mem_filter.2 ⟨by simp;omega,?_⟩,rfl⟩
  simp[wrtB,C.ini c hc,iniE,Ev6.writes]
 exact List.length_pos_of_mem this
theorem tell_inv{S C:Type}{Ok:S→Prop}{T:S→C→Bool×S}(ok:∀L c,Ok L→(T L c).1=true→Ok (T L c).2):∀(l:List C) (L:S),Ok L→(tellM T l L).1=true→Ok (tellM T l L).2:=by
 intro l
 induction l with
 | nil=>intro L h _;exact h
 | cons c l ih=>
  intro L h e
  simp only[tellM]at e ⊢
  split at e
  ·rename_i q
   rw[if_pos q]
   exact ih _ (ok L c h q) e
  ·simp at e
theorem tell_all{S C:Type}{P:S→Prop}{T:S→C→Bool×S}:∀(l:List C) (L:S),(∀L,∀c∈l,P L→P (T L c).2)→P L→P (tellM T l L).2:=by
 intro l
 induction l with
 | nil=>intro L _ h;exact h
 | cons c l ih=>
  intro L ok h
  simp only[tellM]
  have:=ok L c (by simp) h
  split
  ·exact ih _ (fun L c hc=>ok L c (by simp[hc])) this
  ·exact this
def addC(nl most:Nat)(L:List Exe)(c:Cd):Bool×List Exe:=tellM (fun L co=>addX most L ⟨c.1,c.2,co⟩) (chooseM nl c.1 0 fun _=>0) L
def AllC(p:Prg)(lv iv tv:Value)(pb mb most:Nat)(h:AH):Prop:=(pb<h.next∧h.get pb=.cells [lv,iv,tv] false false)∧PrgX h p lv iv tv∧MostC mb most h
theorem told37(g:AllXG G){p:Prg}(Y:PrgY p){lv iv tv:Value}{ob pb mb most:Nat}(hm:most≤100000):Told G p ob (.func (.func 37) #[] #[.pointer (some ⟨pb,0,none⟩),.pointer (some ⟨ob,0,none⟩),.pointer (some ⟨mb,0,none⟩)]) (AllC p lv iv tv pb mb most) (addC p.locs.length most) (fun L=>L.length≤most):=by
 have D:=add39 (G:=G) (ob:=ob) (mb:=mb) g.g39 hm
 have hnl:=Y.nl
 refine⟨fun h h1 x c=>⟨⟨Nat.lt_of_lt_of_le c.1.1 x.next,x.get _ _ _ _ c.1.1 c.1.2⟩,c.2.1.xt x,c.2.2.xt x⟩,fun L c o e=>tell_inv (Ok:=fun L:List Exe=>L.length≤most) (fun L co o e=>D.ok L ⟨c.1,c.2,co⟩ o e) _ L o e,37,[.pointer (some ⟨pb,0,none⟩),.pointer (some ⟨ob,0,none⟩),.pointer (some ⟨mb,0,none⟩)],rfl,?_⟩
 intro h R L v c ev rv A hA O C ct oL se sr k
 obtain⟨⟨plt,pg⟩,V,Mc⟩:=C
 obtain⟨po,pv,pg2⟩:=Sd.up pg
 obtain⟨w,Wo,_,rfl⟩:=ct
 have cp:=cand_p Y.toPrgB Wo
 simp only[flatM]at se sr k
 have n60:=cp.n60
 have rl:=cp.rl
 refine WC_enter g.g37 rfl ?_
 simp -implicitDefEqProofs[c37,c37_body,c37_0,c37_1,c37_1b,pg2]
 refine New_r g.toRelG ?_
 have z:newN 0=0:=rfl
 rw[z]
 simp -implicitDefEqProofs[pg2]
 refine Choose_q g.toChoseG g.toRelG2 (D) (V.xt Sd.xt).v (by omega) (by omega) (fun _=>by simp) hA O oL Mc se sr (by omega) (by omega) (fun i hi hw=>cp.loc i hi (.inr hw)) (cand_w0 cp) (fun co hco=>cand_sm cp (by omega) hco) fun h1 v1 n1 x1 O1=>?_
 have kk:=k h1 v1 n1 x1 O1
 revert kk
 simp only[addC]
 generalize (tellM _ _ L).1=b
 intro kk
 simp -implicitDefEqProofs
 exact kk
end Go.Jq
namespace Go.Jq
variable {G:Nat→SFunc} {h h0 h1:AH} {R:Value→AH→Prop}
def invN(h:AH)(F0:Fr)(mm:Nat)(F:Fr)(hh:AH):Prop:=mm=0∧hh=h∧F=F0
theorem ins_nil(g:SortG5 G)(k:R (.tuple #[]) h):WC G 187 [.slice none 0 0,.int .i64 0,.int .i64 0,fvC] h R:=by
 refine WC_enter g.g187 rfl ?_
 simp -implicitDefEqProofs[c187,c187_body,c187_0,wrap64 (show -9223372036854775808≤(0:Int)+1∧(0:Int)+1≤9223372036854775807 by omega)]
 refine W_loop (invN h _) 0 ⟨rfl,rfl,rfl⟩ ?_
 rintro mm F hh ⟨-,rfl,rfl⟩
 simp -implicitDefEqProofs[c187_8,c187_1]
 exact k
theorem pdq_nil(g:SortG5 G){l:Nat}(k:R (.tuple #[]) h):WC G 140 [.slice none 0 0,.int .i64 0,.int .i64 0,.int .i64 l,fvC] h R:=by
 refine WC_enter g.g140 rfl ?_
 simp -implicitDefEqProofs[c140,c140_body,c140_0,c140_1]
 refine W_loop (invN h _) 0 ⟨rfl,rfl,rfl⟩ ?_
 rintro mm F hh ⟨-,rfl,rfl⟩
 simp -implicitDefEqProofs[c140_31,c140_2,c140_3,wrap64 (show -9223372036854775808≤(0:Int)-0∧(0:Int)-0≤9223372036854775807 by omega),c140_4]
 refine ins_nil g ?_
 simp -implicitDefEqProofs
 exact k
theorem Sort_nil(g:SortG5 G)(k:R (.tuple #[]) h):WC G 36 [.slice none 0 0] h R:=by
 refine WC_enter g.g36 rfl ?_
 simp -implicitDefEqProofs[c36,c36_body,c36_0]
 have w1:IntKind.u64.wrap (0:Int)=0:=by decide
 refine WC_enter g.g78 rfl ?_
 simp -implicitDefEqProofs[c78,c78_body,c78_0,c78_1,w1]
 refine len2_q g.toSortG4 (n:=0) (by omega) fun m m1 m2=>?_
 simp -implicitDefEqProofs
 refine pdq_nil g ?_
 simp -implicitDefEqProofs
 exact k
structure CandX(p:Prg)(x:Exe):Prop where
 c:CandP p x.evs x.rf
 co:x.co∈chooseM p.locs.length x.evs 0 fun _=>0
theorem each_cand{p:Prg}(B:PrgB p){keep:Cd→Bool}:∀c∈eachM p keep,CandT p c:=
 on_inv (I:=WOk p) (fun w t f W ht hm hf hl _=>read_ok B.loc W ht hm hf hl) (fun w t n W ht=>stale_ok W ht) (fun w W hm=>⟨w,W,hm,rfl⟩) _ _ (beg_ok B).1
theorem AllX_q(g:AllXG G){p:Prg}{lv iv tv:Value}{most:Nat}(Y:PrgY p)(V:PrgX h p lv iv tv)(hm:most≤100000)
  (k:∀h1 L v ok,Xt h h1→OutS h1 L v→(∀x∈L,CandX p x)→(ok=true∨L=[])→L.length≤most→R (.tuple #[v,.bool ok]) h1):WC G 22 [.agg #[lv,iv,tv],.int .i64 most] h R:=by
 refine WC_enter g.g22 rfl ?_
 simp -implicitDefEqProofs[c22,c22_body,c22_0,c22_1,c22_2,c22_3]
 have em:(if(100000:Int)<(if(most:Int)<0 then(0:Int)else(most:Int))then(100000:Int)else(if(most:Int)<0 then(0:Int)else(most:Int)))=(most:Int):=by
  rw[if_neg (show ¬(most:Int)<0 by omega),if_neg (by omega)]
 rw[em]
 obtain⟨hL,ehL⟩:∃hL,hL=h.lays [.cells [lv,iv,tv] false false,.cells [.int .i64 most] false false,.cells [.slice none 0 0] false false]:=⟨_,rfl⟩
 rw[←ehL]
 have xL:Ext h hL:=by rw[ehL];exact .lays
 have nL:hL.next=h.next+3:=by rw[ehL];simp
 have g0:hL.get h.next=.cells [lv,iv,tv] false false:=by rw[ehL];simp
 have g1:hL.get (h.next+1)=.cells [.int .i64 most] false false:=by rw[ehL];simp
 have g2:hL.get (h.next+2)=.cells [.slice none 0 0] false false:=by rw[ehL];simp
 clear ehL
 have sdg:∀b,b≠h.next+2→(Sd hL (h.next+2) (.slice none 0 0)).get b=hL.get b:=fun b hb=>Sd.get hb (by simp[blkOf])
 have xS:Xt h (Sd hL (h.next+2) (.slice none 0 0)):=⟨xL.next,fun b c g ro hb e=>by rw[sdg b (by omega),xL.get b hb];exact e⟩
 have O0:OutSA hL (h.next+2) [] [] (.slice none 0 0):=⟨g2,by omega,by simp[blkOf],by simp,[],SlG.nil,.nil⟩
 have C0:AllC p lv iv tv h.next (h.next+1) most (Sd hL (h.next+2) (.slice none 0 0)):=⟨⟨by simp[Sd];omega,by rw[sdg _ (by omega)];exact g0⟩,V.xt xS,⟨by simp[Sd];omega,by rw[sdg _ (by omega)];exact g1⟩⟩
 refine Each_q g.toEachG Y (.inl ⟨rfl,fun c=>rfl⟩) (told37 g Y (ob:=h.next+2) (pb:=h.next) (mb:=h.next+1) hm) (V.xt xS) (A:=[]) (by simp) O0 (by simp) C0 fun h2 v2 n2 x2 O2=>?_
 have X2:∀x∈(tellM (addC p.locs.length most) (eachM p fun _=>true) []).2,CandX p x:=by
  refine tell_all (P:=fun L:List Exe=>∀x∈L,CandX p x) _ _ (fun L c hc hL=>?_) (by simp)
  obtain⟨w,Wo,_,rfl⟩:=each_cand Y.toPrgB c hc
  have cp:=cand_p Y.toPrgB Wo
  refine tell_all (P:=fun L:List Exe=>∀x∈L,CandX p x) _ _ (fun L co hco hL=>?_) hL
  intro x hx
  rcases List.mem_append.1 hx with m|m
  ·exact hL x m
  ·simp at m;subst m
   exact⟨cp,hco⟩
 generalize (tellM (addC p.locs.length most) (eachM p fun _=>true) []).2=L at*
 have gob:=O2.at'
 have gmb:h2.get (h.next+1)=.cells [.int .i64 most] false false:=by
  have:=x2.get (h.next+1) _ _ _ (by simp[Sd];omega) (by rw[sdg _ (by omega)];exact g1)
  exact(Sd.up this).2.2
 obtain⟨ws,sl,all⟩:=O2.ws
 have xh:Xt h h2:=(xS.trans x2).trans Sd.xt
 have sm:=O2.sm
 obtain⟨va,vc,ev2⟩:=sl.len
 have hsr:L.length≤most→∀R:Value→AH→Prop,(∀h3 L',L'.Perm L→h2.next≤h3.next→(∀i,i<h2.next→blkOf v2≠some i→h3.get i=h2.get i)→(∃ws',SlG 3 h3 0 L'.length (ws'.flatMap c3) v2∧All2 (ExW h3) L' ws')→R (.tuple #[]) h3)→WC G 36 [v2] h2 R:=by
  intro hl R k
  rcases id sl.2 with⟨e1,rfl⟩|⟨b,b1,b2,b3,rfl⟩
  ·exact Sort_nil g.toSortG5 (k h2 L (.refl _) (Nat.le_refl _) (fun _ _ _=>rfl) ⟨ws,sl,all.imp fun _ _ _ _ e=>ExeV.xt e Km.xt⟩)
  ·have sd:SD h2 b L ws:=⟨b3,b2,all.imp fun _ _ _ _ e=>ExeV.xt e (Km.sd (.refl _) ⟨by simp[blkOf],fun b e=>by simp[blkOf]at e⟩),fun x hx=>by
    obtain⟨s1,s2,s3,s4⟩:=sm x hx
    exact⟨by omega,by omega,by omega,fun r hr=>by have:=s4 r hr;omega⟩⟩
   refine Sort_q g.toSortG5 sd (by omega) fun h3 L' ws' S=>?_
   have e:=S.len
   refine k h3 L' S.pm S.fr.next (fun i hi hn=>S.fr.get i hi (by rintro rfl;exact hn rfl)) ⟨ws',⟨by rw[c3_fm_len,S.sd.len],.inr ⟨b,Nat.zero_le _,S.sd.lt,S.sd.blk,by rw[e]⟩⟩,S.sd.el.imp fun _ _ _ _ e=>ExeV.xt e Sd.xt⟩
 subst ev2
 have oob:=O2.ne
 have hob2:=O2.hob
 by_cases hgt:most<L.length
 ·have hgt2:(most:Int)<(L.length:Int):=by omega
  simp -implicitDefEqProofs[c22_4,c22_5,gob,gmb,hgt,hgt2]
  exact k h2 [] _ false xh OutS.nil (by simp) (.inr rfl) (by simp)
 ·have hgt2:¬(most:Int)<(L.length:Int):=by omega
  simp -implicitDefEqProofs[c22_4,c22_6,c22_7,gob,gmb,hgt,hgt2]
  refine hsr (by omega) _ fun h3 L' pm n3 fr W=>?_
  obtain⟨ws',sl',all'⟩:=W
  have gob3:=(fr _ hob2 oob).trans gob
  simp -implicitDefEqProofs[gob3]
  refine k h3 L' _ true ?_ ⟨fun x hx=>sm x (pm.mem_iff.1 hx),ws',sl',all'⟩ (fun x hx=>X2 x (pm.mem_iff.1 hx)) (.inl rfl) (by have:=pm.length_eq;omega)
  refine(xS.trans x2).trans ⟨n3,fun b c g ro hb e=>?_⟩
  obtain⟨q1,q2,q3⟩:=Sd.up e
  rw[fr b hb q2];exact q3
end Go.Jq
namespace Go.Jq
theorem letters_up{f:Nat→Bool}:∀i (hi:i+1<(letters f).length),(letters f)[i]<(letters f)[i+1]:=by
 have:(letters f).Pairwise (·<·):=by
  unfold letters lettersN
  exact List.Pairwise.map _ (fun a b (h:a<b)=>by omega) (List.Pairwise.filter f (by decide))
 intro i hi
 exact List.pairwise_iff_getElem.1 this i (i+1) (by omega) hi (by omega)
theorem letters_in{f:Nat→Bool}:∀x∈letters f,97≤x∧x≤122:=by
 intro x hx
 unfold letters lettersN at hx
 obtain⟨i,hi,rfl⟩:=List.mem_map.1 hx
 have:=(List.mem_filter.1 hi).1
 simp at this
 omega
theorem PrgOk.y{most:Nat}{p:Prg}(o:PrgOk most p):PrgY p:=by
 have h1:=o.ths
 have h2:=o.locs_len
 refine⟨⟨by omega,by omega,fun l hl=>by have:=(o.ok l hl).2;omega,h2,o.init,fun t l i hn hk=>?_⟩,fun l hl=>⟨(o.ok l hl).1,by have:=(o.ok l hl).2;omega⟩,?_,?_,?_⟩
 ·have hm:=(nextM_mem hn).1
  unfold thA at hm
  by_cases ht:t<p.ths.length
  ·rw[List.getElem?_eq_getElem ht]at hm
   have ok:=(o.ok _ (List.getElem_mem ht)).1.ok i hm
   unfold iOk at ok
   rcases ok with q|q|q|q|q|q
   ·exact q.2.1
   ·exact q.2.1
   ·omega
   ·exact q.2.1
   ·omega
   ·omega
  ·rw[List.getElem?_eq_none (by omega)]at hm
   simp at hm
 ·unfold sizeM
  have:∀l:List (List Ins),(∀x∈l,x.length≤6)→(l.map List.length).sum≤6*l.length:=by
   intro l
   induction l with
   | nil=>intro _;simp
   | cons a l ih=>
    intro h
    have:=ih fun x hx=>h x (by simp[hx])
    have h2:=h a (by simp)
    simp only[List.map_cons,List.sum_cons,List.length_cons]
    omega
  have:=this p.ths fun x hx=>(o.ok x hx).2
  omega
 ·obtain⟨f,_,e⟩:=o.locs
  rw[e];exact letters_in
 ·obtain⟨f,_,e⟩:=o.locs
  have:∀l:List Int,l=letters f→∀i (hi:i+1<l.length),l[i]<l[i+1]:=by
   rintro l rfl;exact letters_up
  exact this _ e
end Go.Jq
namespace Go.Jq
variable {G:Nat→SFunc} {h h0 h1:AH} {R:Value→AH→Prop}
structure NowG(G:Nat→SFunc):Prop where
 all:AllXG G
 cmp:CompG G
 doc:DocG G
 g361:G 361=c361
 aw:∀(h:AH) (R:Value→AH→Prop),(∀h1,Ext h h1→R (.bool true) h1)→WC G 23 [] h R
theorem OutS.rds'{L:List Exe}{a:Option Addr}{c:Nat}(o:OutS h L (.slice a L.length c))(hn:0<L.length):∃b o' sp c0 g ro,a=some ⟨b,o',sp⟩∧b<h.next∧h.get b=.cells c0 g ro∧
  ∀i (hi:i<L.length),o'+i*3+3≤c0.length∧∃ev rv cv,(c0.drop (o'+i*3)).take 3=[ev,rv,cv]∧ExeV h L[i] ev rv cv:=by
 obtain⟨o1,ws,o2,o3⟩:=o
 have hl:=o3.len
 have o2':SlV 3 h ws.length (ws.flatMap c3) (.slice a ws.length c):=by rw[←hl];exact o2.x.view
 obtain⟨b,o',sp,c0,g,ro,ea,hb,hg,hr⟩:=o2'.rds (f:=c3) (fun _=>rfl) (by omega)
 refine⟨b,o',sp,c0,g,ro,ea,hb,hg,fun i hi=>?_⟩
 obtain⟨hw,e⟩:=o3.at hi
 obtain⟨r1,r2,_⟩:=hr i hw
 exact⟨r1,_,_,_,r2,e⟩
theorem fwd_acy{rk:Nat→Nat}{n:Nat}{r:Nat→Nat}(f:FwdR rk r):acyM n r=true:=by
 unfold acyM
 rw[List.all_eq_true]
 intro i _
 cases e:(clo n r i).testBit i with
 | false=>rfl
 | true=>have:=FwdR.clo (n:=n) f i i e;omega
def inv361(h2:AH)(pb:Nat)(n:Nat)(v:Value)(ok:Bool)(mm:Nat)(F:Fr)(hh:AH):Prop:=
 ∃i:Nat,mm=n-i∧i≤n∧Ext h2 hh∧F=[(3,.pointer (some ⟨pb,0,none⟩)),(4,v),(5,.bool ok),(6,.int .i64 i)]
def inv361k(hA:AH)(pb xb:Nat)(v:Value)(ok:Bool)(i n:Nat)(rk:Nat→Nat)(mm:Nat)(F:Fr)(hh:AH):Prop:=
 ∃(k:Nat) (r:Nat→Nat),mm=n-k∧k≤n∧hh=hA.lays [.cells (relC n r) false false]∧RowsOk r∧FwdR rk r∧
  F=[(3,.pointer (some ⟨pb,0,none⟩)),(4,v),(5,.bool ok),(6,.int .i64 i),(7,.pointer (some ⟨xb,0,none⟩)),(8,.pointer (some ⟨hA.next,0,none⟩)),(9,.int .i64 k)]
theorem ExecNowhere_spec(g:NowG G){lv:Value}{l:List Int}(s:SlV 1 h l.length (l.flatMap intC) lv)(hl:l.length≤9223372036854775807)(k:∀h1,R (.bool true) h1):WC G 361 [lv] h R:=by
 refine WC_enter g.g361 rfl ?_
 simp -implicitDefEqProofs[c361,c361_body,c361_0,c361_1]
 refine Of_own g.cmp (most:=5) (by omega) s hl fun h1 p lv iv tv x1 S PO=>?_
 have V:=S.px
 clear S s
 obtain⟨la,lc,rfl⟩:=V.locs.len
 have hn1:=x1.next
 simp -implicitDefEqProofs[c361_2,splice]
 refine AllX_q g.all (most:=2500) PO.y (V.xt Ext.lays.xt) (by omega) fun h2 L v ok x2 O X hok hLn=>?_
 obtain⟨a,c,rfl⟩:∃a c,v=.slice a L.length c:=by obtain⟨_,ws,s,_⟩:=O;exact s.len
 have gp:h2.get h1.next=.cells [.slice la p.locs.length lc,iv,tv] false false:=x2.get _ _ _ _ (by simp) (by simp)
 have hp:h1.next<h2.next:=by have:=x2.next;simp at this;omega
 simp -implicitDefEqProofs[c361_3]
 refine W_loop (inv361 h2 h1.next L.length (.slice a L.length c) ok) L.length ⟨0,rfl,by omega,.refl _,rfl⟩ ?_
 rintro mm F hh ⟨i,rfl,hi,x3,rfl⟩
 have n3:=x3.next
 by_cases hlt:i<L.length
 ·have hlt2:(i:Int)<(L.length:Int):=by omega
  obtain⟨b,o',sp,c0,gg,ro,rfl,hb,hg,rds⟩:=OutS.rds' O (by omega)
  obtain⟨r1,ev,rv,cv,r2,E⟩:=rds i hlt
  obtain⟨Cx,hco⟩:=X L[i] (List.getElem_mem hlt)
  have hcl:=(choose_mem hco).1
  have n60:=Cx.n60
  have rl:=Cx.rl
  have Cs:=Cx.src
  obtain⟨rk,rk1,rk2⟩:=Cx.rank
  generalize L[i]=x at*
  obtain⟨ea,ec,rfl⟩:=E.evs.len
  obtain⟨ra,rc,rfl⟩:=E.rf.len
  obtain⟨ca,cc,rfl⟩:∃ca cc,cv=.slice ca x.co.length cc:=by
   obtain⟨ws,q,_⟩:=E.co;exact q.view.len
  have gp3:hh.get h1.next=.cells [.slice la p.locs.length lc,iv,tv] false false:=by rw[x3.get _ hp];exact gp
  have hg3:hh.get b=.cells c0 gg ro:=by rw[x3.get _ hb];exact hg
  simp -implicitDefEqProofs[c361_23,c361_4,c361_5,hlt,hlt2,hg3,AH.load,r1,r2]
  obtain⟨hA,ehA⟩:∃hA,hA=hh.lays [.cells [.slice ea x.evs.length ec,.slice ra x.rf.length rc,.slice ca x.co.length cc] false false]:=⟨_,rfl⟩
  rw[←ehA]
  have xA:Ext hh hA:=by rw[ehA];exact .lays
  have nA:hA.next=hh.next+1:=by rw[ehA];simp
  have gxA:hA.get hh.next=.cells [.slice ea x.evs.length ec,.slice ra x.rf.length rc,.slice ca x.co.length cc] false false:=by rw[ehA];simp
  have gpA:hA.get h1.next=.cells [.slice la p.locs.length lc,iv,tv] false false:=by rw[xA.get _ (by omega)];exact gp3
  clear ehA
  have EA:=E.ext (x3.trans xA)
  have hcl2:(x.co.length:Int)=(p.locs.length:Int):=by omega
  have rl2:(x.rf.length:Int)=(x.evs.length:Int):=by omega
  simp -implicitDefEqProofs[c361_6,c361_8,gxA,gpA,hcl,rl,hcl2,rl2]
  refine PO_d g.doc EA.evs ?_
  have epo:poN x.evs=x.evs.length:=by unfold poN;rw[if_neg (by omega)]
  rw[epo]
  simp -implicitDefEqProofs[relV,relC_take,zrel_splice,zrel_length,AH.load,c361_9]
  have F0:FwdR rk (relOf x.evs.length (poP x.evs)):=fun a b e=>by
   rw[relOf_bit]at e
   simp only[Bool.and_eq_true,decide_eq_true_eq]at e
   exact rk1 a b e.1 e.2.1 e.2.2
  refine W_loop (inv361k hA h1.next hh.next (.slice (some ⟨b,o',sp⟩) L.length c) ok i x.evs.length rk) x.evs.length ⟨0,_,rfl,by omega,rfl,relOf_ok (by omega),F0,rfl⟩ ?_
  rintro mm F h5 ⟨kk,r,rfl,hk,rfl,hr,fr,rfl⟩
  have gx5:∀y,(hA.lays y).get hh.next=.cells [.slice ea x.evs.length ec,.slice ra x.rf.length rc,.slice ca x.co.length cc] false false:=fun y=>by rw[AH.lays_lt (by omega)];exact gxA
  by_cases hk1:kk<x.evs.length
  ·have hk2:(kk:Int)<(x.evs.length:Int):=by omega
   have hkr:kk<x.rf.length:=by omega
   obtain⟨eb,eo,esp,e0,eg,ero,rfl,eb1,eb2,erds⟩:=SlV.rds Ev6.c_length EA.evs (by omega)
   obtain⟨fb,fo,fsp,f0,fg,fro,rfl,fb1,fb2,_,_,frd⟩:=SlV.rd intC_length EA.rf hkr
   have frd:=frd 0 (by omega)
   simp only[intC,List.getElem?_cons_zero,Nat.add_zero,Nat.mul_one]at frd
   rw[←intA_of hkr]at frd
   have eb3:∀y,(hA.lays y).get eb=.cells e0 eg ero:=fun y=>by rw[AH.lays_lt eb1];exact eb2
   have fb3:∀y,(hA.lays y).get fb=.cells f0 fg fro:=fun y=>by rw[AH.lays_lt fb1];exact fb2
   obtain⟨k1,k2,k3⟩:=erds kk hk1
   have k4:=k3 4 (by omega)
   have k5:=k3 3 (by omega)
   rw[←evA_of hk1]at k2 k4 k5
   simp only[Ev6.c,List.getElem?_cons_zero,List.getElem?_cons_succ]at k2 k4 k5
   have cs:=Cs kk hk1
   simp -implicitDefEqProofs[c361_19,c361_10,c361_11,c361_12,hk1,hk2,gx5,eb3,fb3,frd,hkr,AH.load,k1,k2]
   refine Reads_d g.doc (e:=evA x.evs kk) ?_
   have w1:IntKind.i64.wrap ((kk:Int)+1)=((kk+1:Nat):Int):=by rw[wrap64 (by omega)];rfl
   by_cases hrd:(evA x.evs kk).reads=true
   ·rw[if_pos hrd]at cs
    obtain⟨f,f1,f2,f3,f4,f5⟩:=cs
    have rk3:=rk2 kk f hk1 hrd f1
    rw[f1]at frd
    rw[f1]
    have f0':¬(f:Int)<0:=by omega
    have f6:(f:Int)<(x.evs.length:Int):=by omega
    have f7:¬(x.evs.length:Int)≤(f:Int):=by omega
    have f8:¬x.evs.length≤f:=by omega
    obtain⟨m1,m2,m3⟩:=erds f f2
    have m4:=m3 5 (by omega)
    have m5:=m3 3 (by omega)
    rw[←evA_of f2]at m2 m4 m5
    simp only[Ev6.c,List.getElem?_cons_zero,List.getElem?_cons_succ]at m2 m4 m5
    rw[f5]at m4
    rw[f4]at m5
    simp -implicitDefEqProofs[hrd,f0',f6,f7,f8,f2,gx5,c361_14,c361_15,c361_15b,eb3,AH.load,m1,m2]
    refine Writes_d g.doc (e:=evA x.evs f) ?_
    rw[f3]
    simp -implicitDefEqProofs[f2,f6,gx5,eb3,AH.load,m4,m5,k4,k5,hk1,hk2]
    simp -implicitDefEqProofs[c361_17]
    have hb64:kk<64:=by omega
    have hp2:(2:Nat)^kk<2^64:=Nat.pow_lt_pow_right (by omega) hb64
    refine Add_d g.doc (n:=x.evs.length) (r:=r) (by simp) (hr f) (by omega) hb64 ?_
    simp -implicitDefEqProofs[c361_18,w1]
    refine⟨x.evs.length-(kk+1),by omega,kk+1,updR r f (r f ||| 2^kk),rfl,by omega,by simp,fun j=>?_,fun a c e=>?_,by simp⟩
    ·unfold updR;split
     ·exact Nat.or_lt_two_pow (hr f) hp2
     ·exact hr j
    ·unfold updR at e
     split at e
     ·rename_i q
      rw[Nat.testBit_or,Bool.or_eq_true]at e
      rcases e with e|e
      ·rw[q];exact fr f c e
      ·have:kk=c:=by rw[Nat.testBit_two_pow]at e;simpa using e
       rw[q,←this];exact rk3
     ·exact fr a c e
   ·rw[if_neg hrd]at cs
    have hrd':(evA x.evs kk).reads=false:=by simpa using hrd
    rw[cs]
    simp -implicitDefEqProofs[hrd',gx5,AH.load,c361_14,c361_18,w1,show ¬(x.evs.length:Int)≤-1 by omega]
    exact⟨x.evs.length-(kk+1),by omega,kk+1,r,rfl,by omega,rfl,hr,fr,by simp⟩
  ·have hk2:¬(kk:Int)<(x.evs.length:Int):=by omega
   have ek:kk=x.evs.length:=by omega
   subst ek
   simp -implicitDefEqProofs[c361_19,c361_10,c361_20,c361_22,hk1,hk2,gx5,AH.load,relC_take]
   refine Acyclic_d g.doc (by omega) hr ?_
   rw[fwd_acy fr]
   have w1:IntKind.i64.wrap ((i:Int)+1)=((i+1:Nat):Int):=by rw[wrap64 (by omega)];rfl
   simp -implicitDefEqProofs[w1]
   exact⟨L.length-(i+1),by omega,i+1,rfl,by omega,(x3.trans xA).trans .lays,by simp⟩
 ·have hlt2:¬(i:Int)<(L.length:Int):=by omega
  rcases hok with rfl|hL
  ·simp -implicitDefEqProofs[c361_23,c361_4,c361_24,hlt,hlt2]
   refine g.aw _ _ fun h5 x5=>?_
   simp -implicitDefEqProofs
   exact k h5
  ·subst hL
   cases ok
   all_goals
    simp -implicitDefEqProofs[c361_23,c361_4,c361_24,hlt,hlt2]
    refine g.aw _ _ fun h5 x5=>?_
    simp -implicitDefEqProofs
    exact k h5
end Go.Jq

/- exec.Choose: clones, the writers of each location, sets of numbers. -/
import Derived.Test.YteobailpkkljpaaGreatDoorY
set_option linter.unusedSimpArgs false
set_option linter.unusedVariables false
set_option maxHeartbeats 8000000
namespace Go.Jq
variable {G:Nat→SFunc} {h h0 h1:AH} {R:Value→AH→Prop}
structure ChoG(G:Nat→SFunc):Prop extends OnG G where
 g69:G 69=c69
 g70:G 70=c70
 g63:G 63=c63
 g122:G 122=c122
theorem cloneN{k bytes n:Nat}{cs:List Value}{a:Option Addr}{c:Nat}(s:SlX k h n cs (.slice a n c))(hb:n*bytes≤70368744177664)(hk:0<k)(ha:a≠none):
  ∃v' h',sappend (h.lays [.cells [] false false]) k bytes (.slice (some ⟨h.next,0,none⟩) 0 0) (.slice a n c)=some (v',h')∧GrowR k h' h.next n cs v'∧Ext h h':=by
 have g0:GrowR k (h.lays [.cells [] false false]) h.next 0 [] (.slice (some ⟨h.next,0,none⟩) 0 0):=⟨by simp,.inr ⟨h.next,none,false,Nat.le_refl _,by simp,by simp,.inl rfl,rfl⟩⟩
 obtain⟨v',h',e,g1,n1,q⟩:=g0.append (bytes:=bytes) (s.ext (Ext.lays (L:=[.cells [] false false]))) (by rw[Nat.zero_add];exact hb) (by simp) hk
 simp at n1
 refine⟨v',h',e,by simpa using g1,by omega,fun b hb=>?_⟩
 rw[q b (by simp;omega) (by simp[blkOf];omega),AH.lays_lt hb]
theorem SlX.nil0{k n c:Nat}{cs:List Value}(s:SlX k h n cs (.slice none n c)):n=0∧c=0∧cs=[]:=by
 obtain⟨s1,s2⟩:=s
 rcases s2 with⟨rfl,e⟩|⟨b,o,sp,c',c0,g,ro,e,_⟩
 ·simp at e s1;exact⟨rfl,e,s1⟩
 ·simp at e
theorem clone70(g:ChoG G){n:Nat}{cs:List Value}{v:Value}(s:SlX 1 h n cs v)(hn:n≤1000)(k:∀h1 v',Ext h h1→GrowR 1 h1 h.next n cs v'→R v' h1):WC G 70 [v] h R:=by
 obtain⟨a,c,rfl⟩:=s.len
 cases a with
 | none=>
  obtain⟨rfl,rfl,rfl⟩:=s.nil0
  refine WC_enter g.g70 rfl ?_
  simp -implicitDefEqProofs[c70,c70_body,c70_0,c70_1,c70_2]
  exact k _ _ (.refl _) ⟨rfl,.inl ⟨rfl,rfl⟩⟩
 | some a=>
  obtain⟨v',h',e,g1,x⟩:=cloneN (bytes:=8) s (by omega) (by omega) (by simp)
  refine WC_enter g.g70 rfl ?_
  simp -implicitDefEqProofs[c70,c70_body,c70_0,c70_1,c70_3,e]
  exact k _ _ x g1
theorem clone69(g:ChoG G){n:Nat}{cs:List Value}{v:Value}(s:SlX 6 h n cs v)(hn:n≤1000)(k:∀h1 v',Ext h h1→GrowR 6 h1 h.next n cs v'→R v' h1):WC G 69 [v] h R:=by
 obtain⟨a,c,rfl⟩:=s.len
 cases a with
 | none=>
  obtain⟨rfl,rfl,rfl⟩:=s.nil0
  refine WC_enter g.g69 rfl ?_
  simp -implicitDefEqProofs[c69,c69_body,c69_0,c69_1,c69_2]
  exact k _ _ (.refl _) ⟨rfl,.inl ⟨rfl,rfl⟩⟩
 | some a=>
  obtain⟨v',h',e,g1,x⟩:=cloneN (bytes:=48) s (by omega) (by omega) (by simp)
  refine WC_enter g.g69 rfl ?_
  simp -implicitDefEqProofs[c69,c69_body,c69_0,c69_1,c69_3,e]
  exact k _ _ x g1
def ofN(l:List Int):Nat:=l.foldl withN 0
def inv122(h:AH)(l:List Int)(a:Option Addr)(c:Nat)(mm:Nat)(F:Fr)(hh:AH):Prop:=
 ∃j:Nat,mm=l.length-j∧j≤l.length∧hh=h∧(l.take j).foldl withN 0<2^64∧F=[(3,stW ((l.take j).foldl withN 0)),(6,.slice a l.length c),(7,.int .i64 l.length),(8,.int .i64 j)]
theorem Of_s(g:ChoG G)(gs:SetG G){l:List Int}{v:Value}(s:SlV 1 h l.length (l.flatMap intC) v)(hl:l.length≤1000)(k:R (stW (ofN l)) h):WC G 122 [v] h R:=by
 obtain⟨a,c,rfl⟩:=s.len
 refine WC_enter g.g122 rfl ?_
 simp -implicitDefEqProofs[c122,c122_body,c122_0,c122_1,c122_2]
 refine W_loop (inv122 h l a c) l.length ⟨0,rfl,by omega,rfl,by simp,by simp[stW]⟩ ?_
 rintro mm F hh ⟨j,rfl,hj,rfl,hs,rfl⟩
 simp -implicitDefEqProofs[c122_7,c122_3]
 by_cases h1:j<l.length
 ·obtain⟨b,o,sp,c0,gg,ro,rfl,hb,hg,hle,hrow,hr⟩:=s.rd intC_length h1
  have r0:=hr 0 (by omega)
  have w1:IntKind.i64.wrap ((j:Int)+1)=((j+1:Nat):Int):=by rw[wrap64 (by omega)];rfl
  simp only[intC,Nat.add_zero,List.getElem?_cons_zero,Nat.mul_one]at r0
  simp -implicitDefEqProofs[h1,c122_4,hg,r0,c122_5]
  refine With_spec gs hs ?_
  have e:(l.take (j+1)).foldl withN 0=withN ((l.take j).foldl withN 0) l[j]:=by rw[List.take_succ_eq_append_getElem h1,List.foldl_append];rfl
  simp -implicitDefEqProofs[c122_6,w1]
  exact⟨l.length-(j+1),by omega,j+1,rfl,h1,rfl,by rw[e];exact withN_lt hs,by rw[e];simp⟩
 ·have:j=l.length:=by omega
  subst this
  simp -implicitDefEqProofs[h1,c122_8]
  exact k
def wrtB(evs:List Ev6)(c:Nat)(i:Nat):Bool:=(evA evs i).writes&&decide ((evA evs i).loc=c)
def wrtN(evs:List Ev6)(c j:Nat):List Int:=((List.range j).filter (wrtB evs c)).map fun(i:Nat)=>(i:Int)
def wrtM(nl:Nat)(evs:List Ev6):List (List Int):=(List.range nl).map fun c=>wrtN evs c evs.length
theorem wrtN_succ{evs:List Ev6}{c j:Nat}:wrtN evs c (j+1)=if wrtB evs c j=true then wrtN evs c j++[(j:Int)]else wrtN evs c j:=by
 unfold wrtN
 rw[List.range_succ,List.filter_append,List.map_append]
 by_cases e:wrtB evs c j=true
 ·rw[if_pos e];simp[e]
 ·rw[if_neg e];simp[e]
theorem wrtN_le{evs:List Ev6}{c j:Nat}:(wrtN evs c j).length≤j:=by
 unfold wrtN
 rw[List.length_map]
 exact Nat.le_trans (List.length_filter_le _ _) (by simp)
structure RowsG(h:AH)(lo:Nat)(f:Nat→List Int)(vs:List Value):Prop where
 row:∀c (hc:c<vs.length),SlG 1 h lo (f c).length ((f c).flatMap intC) vs[c]
 apart:∀c d (hc:c<vs.length) (hd:d<vs.length),c≠d→∀b,blkOf vs[c]=some b→blkOf vs[d]≠some b
def inv63(h:AH)(nl:Nat)(evs:List Ev6)(ob:Nat)(a:Option Addr)(c:Nat)(mm:Nat)(F:Fr)(hh:AH):Prop:=
 ∃(j:Nat) (vs:List Value),mm=evs.length-j∧j≤evs.length∧Ext h hh∧ob<hh.next∧hh.get ob=.cells vs false false∧vs.length=nl∧RowsG hh (ob+1) (fun c=>wrtN evs c j) vs∧
  F=[(5,.slice (some ⟨ob,0,none⟩) nl nl),(12,.slice a evs.length c),(13,.int .i64 evs.length),(14,.int .i64 j)]
theorem Writers_q(g:ChoG G){p:Prg}{lv iv tv ev:Value}{evs:List Ev6}(V:PrgV h p lv iv tv)(hnl:p.locs.length≤4)(s:SlV 6 h evs.length (evs.flatMap Ev6.c) ev)(he:evs.length≤1000)
  (hloc:∀i,i<evs.length→(evA evs i).writes=true→plP p.locs.length (evA evs i).loc)
  (k:∀h1 ob vs,Ext h h1→h.next≤ob→ob<h1.next→h1.get ob=.cells vs false false→vs.length=p.locs.length→RowsG h1 (ob+1) (fun c=>wrtN evs c evs.length) vs→R (.slice (some ⟨ob,0,none⟩) p.locs.length p.locs.length) h1):
  WC G 63 [.agg #[lv,iv,tv],ev] h R:=by
 obtain⟨la,lc,rfl⟩:=V.locs.len
 obtain⟨a,c,rfl⟩:=s.len
 refine WC_enter g.g63 rfl ?_
 simp -implicitDefEqProofs[c63,c63_body,c63_0,c63_1,c63_2]
 refine⟨by omega,?_⟩
 refine W_loop (inv63 h p.locs.length evs (h.next+1) a c) evs.length ⟨0,List.replicate p.locs.length (.slice none 0 0),rfl,by omega,.lays,by simp,by simp,by simp,⟨fun c hc=>?_,fun c d hc hd _ b e=>?_⟩,by simp⟩ ?_
 ·simpa[wrtN]using SlG.nil
 ·simp[blkOf]at e
 rintro mm F hh ⟨j,vs,rfl,hj,x,hob,gob,hvs,rg,rfl⟩
 simp -implicitDefEqProofs[c63_8,c63_3]
 by_cases h1:j<evs.length
 ·have w1:IntKind.i64.wrap ((j:Int)+1)=((j+1:Nat):Int):=by rw[wrap64 (by omega)];rfl
  obtain⟨b,o,sp,c0,gg,ro,rfl,hb,hg,hle,hrow,hr⟩:=(s.ext x).rd ev_len h1
  have hEv:evA evs j=evs[j]:=by simp[evA,h1]
  rw[←hEv]at hrow
  have ec:(evA evs j).c=[.int .i64 (evA evs j).t,.int .i64 (evA evs j).i,.int .i64 (evA evs j).kind,.int .i64 (evA evs j).loc,.int .i64 (evA evs j).r,.int .i64 (evA evs j).w]:=rfl
  rw[ec]at hrow
  have hl:=hloc j h1
  obtain⟨e,he⟩:∃e,e=evA evs j:=⟨_,rfl⟩
  rw[←he]at hrow hl
  simp -implicitDefEqProofs[h1,c63_4,hg,AH.load,hle,hrow,zi_6,splice,c63_5]
  refine Writes_e (e:=e) g.toEvG ?_
  cases hw:e.writes with
  | false=>
   simp -implicitDefEqProofs[c63_7,w1]
   refine⟨evs.length-(j+1),by omega,j+1,vs,rfl,h1,x.lays',by simp;omega,by rw[AH.lays_lt hob];exact gob,hvs,?_,by simp⟩
   have ef:∀c,wrtN evs c (j+1)=wrtN evs c j:=fun c=>by rw[wrtN_succ,if_neg (by unfold wrtB;rw[←he,hw];simp)]
   simp only[ef]
   exact⟨fun c hc=>(rg.row c hc).ext .lays,rg.apart⟩
  | true=>
   obtain⟨l1,l2⟩:=hl hw
   obtain⟨cl,hcl⟩:∃cl:Nat,e.loc=cl:=⟨e.loc.toNat,by omega⟩
   have hcl2:cl<vs.length:=by omega
   have hcl3:cl<p.locs.length:=by omega
   have rc:=rg.row cl hcl2
   have hv:vs[cl]?=some vs[cl]:=List.getElem?_eq_getElem hcl2
   have lle:=wrtN_le (evs:=evs) (c:=cl) (j:=j)
   simp -implicitDefEqProofs[c63_6,c63_6b,hcl,AH.lays_lt hob,gob,hv,hcl2,hcl3]
   refine SlG.app (rc.ext .lays) (ec:=[.int .i64 j]) (o:=0) (by simp[AH.load]) (by omega) (by omega) (by simp;omega) fun h' s' hn' hg'=>?_
   simp at hn'
   have hx:∀y,y<hh.next→blkOf vs[cl]≠some y→h'.get y=hh.get y:=fun y hy hne=>by rw[hg' y (by simp;omega) hne,AH.lays_lt hy]
   have nob:blkOf vs[cl]≠some (h.next+1):=fun e=>by have:=(rc.blk e).1;omega
   have gob':h'.get (h.next+1)=.cells vs false false:=by rw[hx _ hob nob];exact gob
   have g8:h'.get hh.next=.cells [.int .i64 e.t,.int .i64 e.i,.int .i64 e.kind,.int .i64 cl,.int .i64 e.r,.int .i64 e.w] false false:=by
    rw[hg' _ (by simp) (fun e=>by have:=(rc.blk e).2;omega)];simp
   simp -implicitDefEqProofs[gob',g8,hcl2,hcl3,hvs,show cl+1≤p.locs.length by omega,w1,c63_7]
   obtain⟨nv,hnv⟩:∃nv,nv=Value.slice (some ⟨hh.next+2,0,some 1⟩) ((wrtN evs cl j).length+1) ((wrtN evs cl j).length+1):=⟨_,rfl⟩
   have s'':SlG 1 h' (h.next+1+1) ((wrtN evs cl j).length+1) (List.flatMap intC (wrtN evs cl j)++[.int .i64 j]) nv:=by rw[hnv];simpa using s'
   rw[←hnv]
   have esp:splice vs cl [nv]=vs.set cl nv:=by rw[set_splice hcl2]
   rw[esp]
   have hbn:blkOf nv=some (hh.next+2):=by rw[hnv];rfl
   clear hnv s'
   have nxt:=x.next
   refine⟨evs.length-(j+1),by omega,j+1,vs.set cl nv,rfl,h1,⟨by show h.next≤h'.next;omega,fun b hb=>?_⟩,by show h.next+1<h'.next;omega,by rw[AH.put_get,if_pos rfl],by simp[hvs],⟨fun c hc=>?_,fun c d hc hd hcd b e1 e2=>?_⟩,by simp⟩
   ·rw[AH.put_get,if_neg (by omega),hx b (by omega) (fun e=>by have:=(rc.blk e).1;omega)]
    exact x.get b hb
   ·rw[List.length_set]at hc
    have hw2:wrtN evs c (j+1)=if c=cl then wrtN evs c j++[(j:Int)]else wrtN evs c j:=by
     rw[wrtN_succ]
     unfold wrtB
     rw[←he,hw,hcl]
     by_cases e:c=cl
     ·rw[if_pos e,if_pos (by simp[e])]
     ·rw[if_neg e,if_neg (by simp;omega)]
    simp only[hw2]
    rw[List.getElem_set]
    by_cases e:cl=c
    ·subst e
     rw[if_pos rfl,if_pos rfl,List.length_append,List.flatMap_append]
     refine s''.up (Nat.le_refl _) fun i hi _=>?_
     rw[AH.put_get,if_neg (by omega)]
    ·rw[if_neg e,if_neg (fun q=>e q.symm)]
     have rc2:=rg.row c hc
     obtain⟨q1,q2⟩:=rc2
     refine⟨q1,?_⟩
     rcases q2 with q2|⟨b,z1,z2,z3,z4⟩
     ·exact .inl q2
     ·refine .inr ⟨b,z1,by show b<h'.next;omega,?_,z4⟩
      rw[AH.put_get,if_neg (by omega),hx b z2 (rg.apart c cl hc hcl2 (fun q=>e q.symm) b (by rw[z4];rfl))]
      exact z3
   ·rw[List.length_set]at hc hd
    rw[List.getElem_set]at e1 e2
    by_cases ec:cl=c
    ·rw[if_pos ec]at e1
     rw[if_neg (by omega)]at e2
     rw[hbn]at e1
     simp only[Option.some.injEq]at e1
     have:=(rg.row d hd).blk e2
     omega
    ·rw[if_neg ec]at e1
     by_cases ed:cl=d
     ·rw[if_pos ed,hbn]at e2
      simp only[Option.some.injEq]at e2
      have:=(rg.row c hc).blk e1
      omega
     ·rw[if_neg ed]at e2
      exact rg.apart c d hc hd hcd b e1 e2
 ·have:j=evs.length:=by omega
  subst this
  simp -implicitDefEqProofs[h1,c63_9]
  exact k hh (h.next+1) vs x (by omega) hob gob hvs rg
end Go.Jq
namespace Go.Jq
def skipB(n:Nat)(r:Nat→Nat)(l:List Int)(done:Nat)(i:Int):Bool:=hasB done i||!decide (iandn .u64 (iand .u64 (rowN n r i:Nat) (ofN l:Nat)) (done:Nat)=0)
def rowsF(l:List Int)(sk:Nat→Int→Bool):Nat→List Int→Nat→List (List Int)
 | 0,_,_=>[]
 | n+1,out,done=>if out.length=l.length then [out]else l.flatMap fun i=>if sk done i then []else rowsF l sk n (out++[i]) (withN done i)
def rowsW(l:List Int)(sk:Nat→Int→Bool):List (List Int):=rowsF l sk (l.length+1) (l.take 1) (ofN (l.take 1))
def prodL:List (List (List Int))→List (List (List Int))
 | []=>[[]]
 | rs::rest=>rs.flatMap fun r=>(prodL rest).map (r::·)
theorem tell_flat{S A C:Type}{T:S→C→Bool×S}{f:A→List C}{l:List A}{s:S}:tellM T (l.flatMap f) s=tellM (fun s a=>tellM T (f a) s) l s:=by
 induction l generalizing s with
 | nil=>rfl
 | cons a l ih=>
  rw[List.flatMap_cons,tell_app]
  simp only[tellM]
  split
  ·rw[ih]
  ·rfl
theorem tell_one2{S C:Type}{T:S→C→Bool×S}{c:C}{L:S}:tellM T [c] L=T L c:=by
 simp only[tellM]
 split
 ·rename_i h;rw[←h]
 ·rename_i h;simp at h;rw[←h]
end Go.Jq
namespace Go.Jq
variable {G:Nat→SFunc} {h h0 h1:AH} {R:Value→AH→Prop}
def E1(cb ob:Nat)(v:Value):List Nat:=cb::ob::(blkOf v).toList
def E2(rb cb ob:Nat)(v:Value):List Nat:=rb::E1 cb ob v
theorem E1_mem{cb ob b:Nat}{v:Value}:b∈E1 cb ob v↔b=cb∨b=ob∨blkOf v=some b:=by simp[E1,eq_comm]
theorem E2_mem{rb cb ob b:Nat}{v:Value}:b∈E2 rb cb ob v↔b=rb∨b=cb∨b=ob∨blkOf v=some b:=by simp[E2,E1_mem]
theorem E12{rb cb ob:Nat}{v v1:Value}(x:Xt (Km h (E1 cb ob v)) (Km h1 (E1 cb ob v1))):Xt (Km h (E2 rb cb ob v)) (Km h1 (E2 rb cb ob v1)):=⟨x.next,fun b c g ro hb e=>by
 obtain⟨q1,q2⟩:=Km.up e
 rw[E2_mem]at q1
 have q3:b∉E1 cb ob v:=fun m=>q1 (.inr (E1_mem.1 m))
 obtain⟨q4,q5⟩:=Km.up (x.get b c g ro hb (by rw[Km.get q3];exact q2))
 rw[Km.get (fun m=>by rcases E2_mem.1 m with q|q;exact q1 (.inl q);exact q4 (E1_mem.2 q))]
 exact q5⟩
theorem E1_keep{cb ob b:Nat}{v v1:Value}{c:List Value}{g ro:Bool}(x:Xt (Km h (E1 cb ob v)) (Km h1 (E1 cb ob v1)))(hb:b<h.next)(hn:b∉E1 cb ob v)(e:h.get b=.cells c g ro):h1.get b=.cells c g ro∧b∉E1 cb ob v1:=by
 obtain⟨q1,q2⟩:=Km.up (x.get b c g ro hb (by rw[Km.get hn];exact e))
 exact⟨q2,q1⟩
def OutRow(hb h:AH)(E:List Nat)(A:List Nat)(v:Value)(out:List Int)(outv:Value):Prop:=
 ((∃b o,outv=.slice (some ⟨b,o,none⟩) 1 1)∧out.length=1∧SlX 1 (Km hb E) 1 (out.flatMap intC) outv)∨
 ∃b cs,outv=.slice (some ⟨b,0,some 1⟩) out.length cs.length∧hb.next≤b∧b<h.next∧h.get b=.cells cs true false∧out.length≤cs.length∧cs.take out.length=out.flatMap intC∧b∈A∧blkOf v≠some b
structure RowSt(hb h:AH)(rb cb ob:Nat)(v0 v:Value)(A:List Nat)(co:AH→Prop)(L:List Exe)(out:List Int):Prop where
 lo:hb.next≤h.next
 xt:Xt (Km hb (E2 rb cb ob v0)) (Km h (E2 rb cb ob v))
 st:∃A' outv,(∀a∈A,a∈A')∧rb∈A'∧(∀a∈A',a<h.next)∧OutSA h ob A' L v∧h.get rb=.cells [outv] false false∧OutRow hb h (E2 rb cb ob v0) A' v out outv
 co:co h
 rv:blkOf v≠some rb
structure RowB(hb:AH)(rb cb ob:Nat):Prop where
 r:rb<hb.next
 c:cb<hb.next
 o:ob<hb.next
 rc:rb≠cb
 ro:rb≠ob
section
variable {hb:AH} {rb cb ob:Nat} {v0 v:Value} {A:List Nat} {co:AH→Prop} {L:List Exe} {out:List Int}
theorem fmi_len{l:List Int}:(l.flatMap intC).length=l.length:=by rw[fm_map];simp
theorem RowSt.push(S:RowSt hb h rb cb ob v0 v A co L out)(B:RowB hb rb cb ob)(hco:∀h h1,h1.get cb=h.get cb→co h→co h1)(i:Int)(hl:out.length≤1000):
  ∃outv outv' h',h.get rb=.cells [outv] false false∧sappend (h.lays [.cells [.int .i64 i] false false]) 1 8 outv (.slice (some ⟨h.next,0,none⟩) 1 1)=some (outv',h')∧h'.get rb=.cells [outv] false false∧h.next+1≤h'.next∧
   RowSt hb (h'.put rb (.cells [outv'] false false)) rb cb ob v0 v A co L (out++[i]):=by
 obtain⟨A',outv,a1,a2,a3,O,gr,orow⟩:=S.st
 have lo:=S.lo
 have hr:=B.r
 have hc:=B.c
 have ho:=B.o
 have vlt:∀b,blkOf v=some b→b<h.next:=fun b e=>O.lt e
 have cut:(.cells [outv] false false:ABlk)=.cells [outv] false false:=rfl
 -- what is left to show of a new memory
 have fin:∀(h':AH) (A'':List Nat) (outv':Value),h.next+1≤h'.next→(∀b,b<h.next→(b<hb.next∨b∉A')→h'.get b=h.get b)→(∀a∈A',a∈A'')→(∀a∈A'',a<h'.next)→OutSA h' ob A'' L v→OutRow hb h' (E2 rb cb ob v0) A'' v (out++[i]) outv'→h'.get rb=.cells [outv] false false∧RowSt hb (h'.put rb (.cells [outv'] false false)) rb cb ob v0 v A co L (out++[i]):=by
  intro h' A'' outv' hn hg hA hAl O' OR
  refine⟨by rw[hg rb (by omega) (.inl hr)];exact gr,by show hb.next≤h'.next;omega,⟨by show hb.next≤h'.next;omega,fun b c g ro hbb e=>?_⟩,⟨A'',outv',fun a m=>hA a (a1 a m),hA _ a2,hAl,O'.put (hA _ a2) B.ro S.rv,by rw[AH.put_get,if_pos rfl],?_⟩,hco _ _ (by rw[AH.put_get,if_neg (fun e=>B.rc e.symm),hg cb (by omega) (.inl hc)]) S.co,S.rv⟩
  ·have hbb:b<hb.next:=hbb
   obtain⟨q1,q2⟩:=Km.up (S.xt.get b c g ro hbb e)
   rw[Km.get q1,AH.put_get,if_neg (fun e=>q1 (E2_mem.2 (.inl e))),hg b (by omega) (.inl hbb)]
   exact q2
  ·rcases OR with OR|⟨b,cs,e1,e2,e3,e4,e5,e6,e7,e8⟩
   ·exact .inl OR
   ·exact .inr ⟨b,cs,e1,e2,e3,by rw[AH.put_get,if_neg (by omega)];exact e4,e5,e6,e7,e8⟩
 rcases orow with⟨⟨b,o,rfl⟩,ol,sx⟩|⟨b,cs,rfl,q1,q2,q3,q4,q5,q6,q7⟩
 ·-- the first row,which is another's
  have sxh:=(sx.xt S.xt).xt Km.xt
  obtain⟨s1,s2⟩:=sxh
  rcases s2 with⟨z,_⟩|⟨b',o',sp',c',c0,g',ro',e,_,_,z2,z3,z4,z5⟩
  ·omega
  ·simp only[Value.slice.injEq,Option.some.injEq,Addr.mk.injEq,true_and]at e
   obtain⟨⟨rfl,rfl,rfl⟩,rfl⟩:=e
   refine⟨_,.slice (some ⟨h.next+1,0,some 1⟩) (1+1) (1+1),(h.lays [.cells [.int .i64 i] false false]).alloc (.cells (out.flatMap intC++[.int .i64 i]) true false),gr,?_,?_⟩
   ·unfold sappend
    have lf:firstOf (h.lays [.cells [.int .i64 i] false false]) 1 1 (.slice (some ⟨h.next,0,none⟩) 1 1)=some [.int .i64 i]:=by simp[firstOf,AH.load]
    have ld:(h.lays [.cells [.int .i64 i] false false]).load b o (1*1)=some (out.flatMap intC):=by
     rw[load_of (by rw[AH.lays_lt z2];exact z3) (by omega),z5]
    simp only[lenOf,lf]
    rw[if_neg (by omega),if_neg (by omega)]
    rw[ld,AH.lays_lt z2,z3]
    rfl
   ·have nx:((h.lays [ABlk.cells [.int .i64 i] false false]).alloc (.cells (out.flatMap intC++[.int .i64 i]) true false)).next=h.next+2:=rfl
    have gx:∀y,y<h.next→((h.lays [ABlk.cells [.int .i64 i] false false]).alloc (.cells (out.flatMap intC++[.int .i64 i]) true false)).get y=h.get y:=fun y hy=>by
     rw[AH.alloc_get,if_neg (by simp;omega),AH.lays_lt hy]
    have:=fin _ ((h.next+1)::A') (.slice (some ⟨h.next+1,0,some 1⟩) (1+1) (1+1)) (by rw[nx];omega) (fun b hb' _=>gx b hb') (fun a m=>by simp[m]) (fun a m=>by simp at m;rcases m with q|q;rw[nx];omega;have:=a3 a q;rw[nx];omega)
     (O.new ⟨by rw[nx];omega,gx⟩ fun a m=>by simp at m;rcases m with q|q;exact .inr (by omega);exact .inl q)
     (.inr ⟨h.next+1,out.flatMap intC++[.int .i64 i],by simp[ol,fmi_len,-List.length_flatMap],by omega,by rw[nx];omega,by rw[AH.alloc_get,if_pos (by simp)],by simp[ol,fmi_len,-List.length_flatMap],by rw[List.take_of_length_le (by simp[fmi_len,-List.length_flatMap])];simp[intC],by simp,fun e=>by have:=vlt _ e;omega⟩)
    exact⟨this.1,by rw[nx];omega,this.2⟩
 ·by_cases hin:out.length+1≤cs.length
  ·-- there is room
   refine⟨_,.slice (some ⟨b,0,some 1⟩) (out.length+1) cs.length,(h.lays [.cells [.int .i64 i] false false]).put b (.cells (splice cs out.length [.int .i64 i]) true false),gr,?_,?_⟩
   ·unfold sappend
    have lf:firstOf (h.lays [.cells [.int .i64 i] false false]) 1 1 (.slice (some ⟨h.next,0,none⟩) 1 1)=some [.int .i64 i]:=by simp[firstOf,AH.load]
    simp only[lenOf,lf]
    rw[if_neg (by omega),if_pos hin,if_neg (by omega)]
    simp[AH.store,AH.lays_lt q2,q3,hin]
   ·have nx:((h.lays [ABlk.cells [.int .i64 i] false false]).put b (.cells (splice cs out.length [.int .i64 i]) true false)).next=h.next+1:=rfl
    have spl:(splice cs out.length [Value.int .i64 i]).length=cs.length:=by simp[splice];omega
    have x1:Ext h (h.lays [ABlk.cells [.int .i64 i] false false]):=.lays
    have:=fin ((h.lays [ABlk.cells [.int .i64 i] false false]).put b (.cells (splice cs out.length [.int .i64 i]) true false)) A' (.slice (some ⟨b,0,some 1⟩) (out.length+1) cs.length) (by rw[nx];omega) (fun y hy hq=>by
      rw[AH.put_get,if_neg (by rintro rfl;rcases hq with q|q;omega;exact q q6),AH.lays_lt hy]) (fun a m=>m) (fun a m=>by have:=a3 a m;rw[nx];omega)
     ((O.ext x1).put q6 (by omega) q7)
     (.inr ⟨b,splice cs out.length [.int .i64 i],by rw[spl];simp,q1,by rw[nx];omega,by rw[AH.put_get,if_pos rfl],by rw[spl];simpa using hin,by
      have el:(out++[i]).length=out.length+1:=by simp
      rw[el,List.flatMap_append,←q5]
      have e2:splice cs out.length [Value.int .i64 i]=(cs.take out.length++[Value.int .i64 i])++cs.drop (out.length+1):=by simp[splice]
      rw[e2,List.take_append_of_le_length (by simp;omega),List.take_of_length_le (by simp;omega)]
      simp[intC],q6,q7⟩)
    exact⟨this.1,by rw[nx];omega,this.2⟩
  ·-- it grows
   have hcl:cs.length=out.length:=by omega
   have hcs:cs=out.flatMap intC:=by rw[←q5,List.take_of_length_le (by omega)]
   refine⟨_,.slice (some ⟨h.next+1,0,some 1⟩) (out.length+1) (out.length+1),((h.lays [.cells [.int .i64 i] false false]).put b .dead).alloc (.cells (cs++[.int .i64 i]) true false),gr,?_,?_⟩
   ·unfold sappend
    have lf:firstOf (h.lays [.cells [.int .i64 i] false false]) 1 1 (.slice (some ⟨h.next,0,none⟩) 1 1)=some [.int .i64 i]:=by simp[firstOf,AH.load]
    have ld:(h.lays [.cells [.int .i64 i] false false]).load b 0 (out.length*1)=some cs:=load_all (by rw[AH.lays_lt q2];exact q3) (by omega)
    simp only[lenOf,lf]
    rw[if_neg (by omega),if_neg hin]
    rw[ld,AH.lays_lt q2,q3]
    simp
   ·have nx:(((h.lays [ABlk.cells [.int .i64 i] false false]).put b .dead).alloc (.cells (cs++[.int .i64 i]) true false)).next=h.next+2:=rfl
    have gx:∀y,y<h.next+1→y≠b→(((h.lays [ABlk.cells [.int .i64 i] false false]).put b .dead).alloc (.cells (cs++[.int .i64 i]) true false)).get y=(h.lays [ABlk.cells [.int .i64 i] false false]).get y:=fun y hy hn=>by
     rw[AH.alloc_get,if_neg (by show y≠h.next+1;omega),AH.put_get,if_neg hn]
    have O1:OutSA ((h.lays [ABlk.cells [.int .i64 i] false false]).put b .dead) ob A' L v:=(O.ext .lays).put q6 (by omega) q7
    have:=fin (((h.lays [ABlk.cells [.int .i64 i] false false]).put b .dead).alloc (.cells (cs++[.int .i64 i]) true false)) ((h.next+1)::A') (.slice (some ⟨h.next+1,0,some 1⟩) (out.length+1) (out.length+1)) (by rw[nx];omega) (fun y hy hq=>by
      rw[gx y (by omega) (by rintro rfl;rcases hq with q|q;omega;exact q q6),AH.lays_lt hy]) (fun a m=>by simp[m]) (fun a m=>by simp at m;rcases m with q|q;rw[nx];omega;have:=a3 a q;rw[nx];omega)
     (O1.new (Ext.alloc (.refl _) _) fun a m=>by simp at m;rcases m with q|q;exact .inr (by show h.next+1≤a;omega);exact .inl q)
     (.inr ⟨h.next+1,cs++[.int .i64 i],by simp[hcl],by omega,by rw[nx];omega,by rw[AH.alloc_get,if_pos (by rfl)],by simp[hcl],by rw[List.take_of_length_le (by simp[hcl]),hcs];simp[intC],by simp,fun e=>by have:=vlt _ e;omega⟩)
    exact⟨this.1,by rw[nx];omega,this.2⟩
theorem RowSt.pop{i:Int}(S:RowSt hb h rb cb ob v0 v A co L (out++[i]))(B:RowB hb rb cb ob)(hco:∀h h1,h1.get cb=h.get cb→co h→co h1)(hl:0<out.length):
  ∃a c outv',h.get rb=.cells [.slice a (out.length+1) c] false false∧sslice 1 a (out.length+1) c none (some (.int .i64 out.length)) none=some outv'∧RowSt hb (h.put rb (.cells [outv'] false false)) rb cb ob v0 v A co L out:=by
 obtain⟨A',outv,a1,a2,a3,O,gr,orow⟩:=S.st
 rcases orow with⟨_,ol,_⟩|⟨b,cs,rfl,q1,q2,q3,q4,q5,q6,q7⟩
 ·rw[List.length_append,List.length_singleton]at ol;omega
 ·have el:(out++[i]).length=out.length+1:=by simp
  rw[el]at gr q4 q5
  have ss:sslice 1 (some ⟨b,0,some 1⟩) (out.length+1) cs.length none (some (.int .i64 out.length)) none=some (.slice (some ⟨b,0,some 1⟩) out.length cs.length):=by
   unfold sslice
   rw[sbounds_h,if_pos (by constructor<;>omega)]
   simp[addrAdd]
  refine⟨_,_,_,gr,ss,S.lo,⟨S.lo,fun b' c g ro hbb e=>?_⟩,⟨A',_,a1,a2,a3,O.put a2 B.ro S.rv,by rw[AH.put_get,if_pos rfl],.inr ⟨b,cs,rfl,q1,q2,by rw[AH.put_get,if_neg (by have:=B.r;omega)];exact q3,by omega,?_,q6,q7⟩⟩,hco _ _ (by rw[AH.put_get,if_neg (fun e=>B.rc e.symm)]) S.co,S.rv⟩
  ·obtain⟨z1,z2⟩:=Km.up (S.xt.get b' c g ro hbb e)
   rw[Km.get z1,AH.put_get,if_neg (fun e=>z1 (E2_mem.2 (.inl e)))]
   exact z2
  ·have:=congrArg (List.take out.length) q5
   rw[List.take_take,Nat.min_eq_left (by omega),List.flatMap_append,List.take_append_of_le_length (l₁:=out.flatMap intC) (by rw[fmi_len];omega),List.take_of_length_le (l:=out.flatMap intC) (by rw[fmi_len];omega)]at this
   exact this
theorem RowSt.ext(S:RowSt hb h rb cb ob v0 v A co L out)(B:RowB hb rb cb ob)(hco:∀h h1,h1.get cb=h.get cb→co h→co h1)(x:Ext h h1):RowSt hb h1 rb cb ob v0 v A co L out:=by
 obtain⟨A',outv,a1,a2,a3,O,gr,orow⟩:=S.st
 have lo:=S.lo
 have hr:=B.r
 have hc:=B.c
 have n:=x.next
 refine⟨by omega,S.xt.trans (Km.ext x),⟨A',outv,a1,a2,fun a m=>by have:=a3 a m;omega,O.ext x,by rw[x.get _ (by omega)];exact gr,?_⟩,hco _ _ (by rw[x.get _ (by omega)]) S.co,S.rv⟩
 rcases orow with q|⟨b,cs,e1,q1,q2,q3,q4⟩
 ·exact .inl q
 ·exact .inr ⟨b,cs,e1,q1,by omega,by rw[x.get _ q2];exact q3,q4⟩
theorem RowSt.told{L1:List Exe}{v1:Value}{A':List Nat}{outv:Value}(S:RowSt hb h rb cb ob v0 v A co L out)(B:RowB hb rb cb ob)(gr:h.get rb=.cells [outv] false false)(orow:OutRow hb h (E2 rb cb ob v0) A' v out outv)(a1:∀a∈A,a∈A')(a2:rb∈A')(a3:∀a∈A',a<h.next)
  (hn:h.next≤h1.next)(x:Xt (Km h (E1 cb ob v)) (Km h1 (E1 cb ob v1)))(O:OutSA h1 ob A' L1 v1)(c1:co h1):RowSt hb h1 rb cb ob v0 v1 A co L1 out:=by
 have lo:=S.lo
 have hr:=B.r
 have ho:=B.o
 have hc:=B.c
 have k1:=E1_keep x (by omega) (fun m=>by rcases E1_mem.1 m with q|q|q;exact B.rc q;exact B.ro q;exact S.rv q) gr
 refine⟨by omega,S.xt.trans (E12 x),⟨A',outv,a1,a2,fun a m=>by have:=a3 a m;omega,O,k1.1,?_⟩,c1,fun e=>k1.2 (E1_mem.2 (.inr (.inr e)))⟩
 rcases orow with q|⟨b,cs,e1,q1,q2,q3,q4,q5,q6,q7⟩
 ·exact .inl q
 ·have k2:=E1_keep x q2 (fun m=>by rcases E1_mem.1 m with q|q|q;omega;omega;exact q7 q) q3
  exact .inr ⟨b,cs,e1,q1,by omega,k2.1,q4,q5,q6,fun e=>k2.2 (E1_mem.2 (.inr (.inr e)))⟩
theorem OutRow.x{outv:Value}{A':List Nat}(S:RowSt hb h rb cb ob v0 v A co L out)(B:RowB hb rb cb ob)(orow:OutRow hb h (E2 rb cb ob v0) A' v out outv):SlX 1 (Km h (E1 cb ob v)) out.length (out.flatMap intC) outv:=by
 have lo:=S.lo
 have hr:=B.r
 have ho:=B.o
 have hc:=B.c
 rcases orow with⟨_,ol,sx⟩|⟨b,cs,rfl,q1,q2,q3,q4,q5,q6,q7⟩
 ·rw[ol]
  exact(sx.xt S.xt).xt (Km.sub fun b m=>E2_mem.2 (.inr (E1_mem.1 m)))
 ·refine⟨by rw[fmi_len];omega,.inr ⟨b,0,some 1,cs.length,cs,true,false,rfl,.inr rfl,q4,q2,?_,by omega,by simpa using q5⟩⟩
  rw[Km.get (fun m=>by rcases E1_mem.1 m with q|q|q;omega;omega;exact q7 q)]
  exact q3
end
end Go.Jq
namespace Go.Jq
variable {G:Nat→SFunc} {h h0 h1:AH} {R:Value→AH→Prop}
structure RowG(G:Nat→SFunc):Prop extends ChoG G,SetG G where
 g66:G 66=c66
 g121:G 121=c121
theorem RowSt.slice{hb:AH}{rb cb ob:Nat}{v0 v ov:Value}{A:List Nat}{co:AH→Prop}{L:List Exe}{out:List Int}(S:RowSt hb (h.put rb (.cells [ov] false false)) rb cb ob v0 v A co L out)(B:RowB hb rb cb ob):∃a c,ov=.slice a out.length c:=by
 obtain⟨A2,ov2,b1,b2,b3,O2,g2,or2⟩:=S.st
 rw[AH.put_get,if_pos rfl]at g2
 simp only[ABlk.cells.injEq,List.cons.injEq,and_true]at g2
 subst g2
 exact(OutRow.x S B or2).len
structure TellR(G:Nat→SFunc)(fv:Value)(ob cb:Nat)(co Cx:AH→Prop)(T2:List Exe→List Int→Bool×List Exe)(Ok:List Exe→Prop)(Q:List Int→Prop):Prop where
 cos:∀h h1,h1.get cb=h.get cb→co h→co h1
 cxs:∀h h1,Xt h h1→Cx h→Cx h1
 ok:∀L r,Ok L→(T2 L r).1=true→Ok (T2 L r).2
 sp:∃(fn:Nat) (caps:List Value),fv=.func (.func fn) #[] caps.toArray∧∀(h:AH) (R:Value→AH→Prop) (L:List Exe) (v:Value) (r:List Int) (rv:Value) (A:List Nat),(∀a∈A,a<h.next)→cb∈A→OutSA h ob A L v→Ok L→co h→Cx (Km h (E1 cb ob v))→r.length≤1000→Q r→
  SlX 1 (Km h (E1 cb ob v)) r.length (r.flatMap intC) rv→(∀h1 v1,h.next≤h1.next→Xt (Km h (E1 cb ob v)) (Km h1 (E1 cb ob v1))→OutSA h1 ob A (T2 L r).2 v1→co h1→R (.bool (T2 L r).1) h1)→WC G fn (rv::caps) h R
structure RowC2(hb:AH)(rb cb ob lb tb bb ab:Nat)(v0 fv lv:Value)(l:List Int)(n:Nat)(r:Nat→Nat)(Cx:AH→Prop):Prop where
 B:RowB hb rb cb ob
 l1:lb<hb.next
 t1:tb<hb.next
 b1:bb<hb.next
 a1:ab<hb.next
 l2:(Km hb (E2 rb cb ob v0)).get lb=.cells [lv] false false
 t2:(Km hb (E2 rb cb ob v0)).get tb=.cells [fv] false false
 b2:(Km hb (E2 rb cb ob v0)).get bb=.cells [.func (.func 53) #[relV n r] #[]] false false
 a2:(Km hb (E2 rb cb ob v0)).get ab=.cells [.func (.func 121) #[] #[.pointer (some ⟨rb,0,none⟩),.pointer (some ⟨lb,0,none⟩),.pointer (some ⟨tb,0,none⟩),.pointer (some ⟨bb,0,none⟩),.pointer (some ⟨ab,0,none⟩)]] false false
 row:SlX 1 (Km hb (E2 rb cb ob v0)) l.length (l.flatMap intC) lv
 len:l.length≤900
 n64:n≤64
 rok:RowsOk r
 cx:Cx (Km hb (E2 rb cb ob v0))
section
variable (G:Nat→SFunc) (hb:AH) (rb cb ob lb tb bb ab:Nat) (v0:Value) (A:List Nat) (co:AH→Prop) (Ok:List Exe→Prop) (T2:List Exe→List Int→Bool×List Exe) (l:List Int) (n:Nat) (r:Nat→Nat) (Q:List Int→Prop)
def RowSp(m:Nat):Prop:=∀(h:AH) (R:Value→AH→Prop) (v:Value) (L:List Exe) (out:List Int) (done:Nat),done<2^64→l.length<out.length+m→0<out.length→out.length≤l.length→RowSt hb h rb cb ob v0 v A co L out→Ok L→(∀x∈rowsF l (skipB n r l) m out done,Q x)→
 (∀h1 v1,RowSt hb h1 rb cb ob v0 v1 A co (tellM T2 (rowsF l (skipB n r l) m out done) L).2 out→R (.bool (tellM T2 (rowsF l (skipB n r l) m out done) L).1) h1)→
 WC G 121 [stW done,.pointer (some ⟨rb,0,none⟩),.pointer (some ⟨lb,0,none⟩),.pointer (some ⟨tb,0,none⟩),.pointer (some ⟨bb,0,none⟩),.pointer (some ⟨ab,0,none⟩)] h R
theorem tell_okA{A:Type}{Ok:List Exe→Prop}{T:List Exe→A→Bool×List Exe}(ok:∀L c,Ok L→(T L c).1=true→Ok (T L c).2):∀(l:List A) (L:List Exe),Ok L→(tellM T l L).1=true→Ok (tellM T l L).2:=by
 intro l
 induction l with
 | nil=>intro L h _;exact h
 | cons c l ih=>
  intro L h e
  simp only[tellM]at e ⊢
  split at e
  ·rename_i q
   rw[if_pos q]
   exact ih _ (ok L c h q) e
  ·simp at e
def inv121(m:Nat)(out:List Int)(done:Nat)(L:List Exe)(la:Option Addr)(lc:Nat)(mm:Nat)(F:Fr)(hh:AH):Prop:=
 ∃(j:Nat) (v':Value) (L':List Exe),mm=l.length-j∧j≤l.length∧RowSt hb hh rb cb ob v0 v' A co L' out∧Ok L'∧
  tellM T2 (rowsF l (skipB n r l) (m+1) out done) L=tellM T2 ((l.drop j).flatMap fun i=>if skipB n r l done i then []else rowsF l (skipB n r l) m (out++[i]) (withN done i)) L'∧
  F=[(0,stW done),(1,.pointer (some ⟨rb,0,none⟩)),(2,.pointer (some ⟨lb,0,none⟩)),(4,.pointer (some ⟨bb,0,none⟩)),(5,.pointer (some ⟨ab,0,none⟩)),(19,.slice la l.length lc),(20,.int .i64 l.length),(21,.int .i64 j)]
end
theorem row_step(g:RowG G)(gr:RelG2 G){hb:AH}{rb cb ob lb tb bb ab:Nat}{v0 fv lv:Value}{A:List Nat}{co Cx:AH→Prop}{Ok:List Exe→Prop}{T2:List Exe→List Int→Bool×List Exe}{l:List Int}{n:Nat}{r:Nat→Nat}{Q:List Int→Prop}(hA:cb∈A)
  (D:TellR G fv ob cb co Cx T2 Ok Q)(C:RowC2 hb rb cb ob lb tb bb ab v0 fv lv l n r Cx){m:Nat}(ih:RowSp G hb rb cb ob lb tb bb ab v0 A co Ok T2 l n r Q m):RowSp G hb rb cb ob lb tb bb ab v0 A co Ok T2 l n r Q (m+1):=by
 intro h R v L out done hd hm h0 hle S oL hQ k
 obtain⟨fn,caps,rfl,sp⟩:=D.sp
 have B:=C.B
 have still:∀{hh:AH} {v':Value} {L':List Exe} {out':List Int},RowSt hb hh rb cb ob v0 v' A co L' out'→hh.get lb=.cells [lv] false false∧hh.get tb=.cells [.func (.func fn) #[] caps.toArray] false false∧hh.get bb=.cells [.func (.func 53) #[relV n r] #[]] false false∧
   hh.get ab=.cells [.func (.func 121) #[] #[.pointer (some ⟨rb,0,none⟩),.pointer (some ⟨lb,0,none⟩),.pointer (some ⟨tb,0,none⟩),.pointer (some ⟨bb,0,none⟩),.pointer (some ⟨ab,0,none⟩)]] false false∧SlX 1 hh l.length (l.flatMap intC) lv:=fun S'=>
  ⟨(Km.up (S'.xt.get _ _ _ _ C.l1 C.l2)).2,(Km.up (S'.xt.get _ _ _ _ C.t1 C.t2)).2,(Km.up (S'.xt.get _ _ _ _ C.b1 C.b2)).2,(Km.up (S'.xt.get _ _ _ _ C.a1 C.a2)).2,(C.row.xt S'.xt).xt Km.xt⟩
 obtain⟨la,lc,hlv⟩:=C.row.len
 obtain⟨s1,s2,s3,s4,s5⟩:=still S
 obtain⟨A',outv,a1,a2,a3,O,grb,orow⟩:=S.st
 have hll:=C.len
 subst hlv
 have sx:=OutRow.x S B orow
 obtain⟨oa,oc,rfl⟩:=sx.len
 refine WC_enter g.g121 rfl ?_
 simp -implicitDefEqProofs[c121,c121_body,c121_0,c121_1,stW,grb,s1]
 generalize eQ:branchK G _ _ _ _ _ _=Q
 by_cases e:out.length=l.length
 ·rw[rowsF,if_pos e,tell_one2]at k
  subst eQ
  simp -implicitDefEqProofs[eq_true e,eq_true (show(out.length:Int)=l.length by omega),c121_2,s2,grb]
  refine sp h _ L v out _ A' a3 (a1 _ hA) O oL S.co (D.cxs _ _ (S.xt.trans (Km.sub fun b m=>E2_mem.2 (.inr (E1_mem.1 m)))) C.cx) (by omega) (hQ out (by rw[rowsF,if_pos e];simp)) sx fun h1 v1 n1 x1 O1 c1=>?_
  simp -implicitDefEqProofs
  exact k h1 v1 (S.told B grb orow a1 a2 a3 n1 x1 O1 c1)
 ·have hT:tellM T2 (rowsF l (skipB n r l) (m+1) out done) L=tellM T2 (l.flatMap fun i=>if skipB n r l done i then []else rowsF l (skipB n r l) m (out++[i]) (withN done i)) L:=by rw[rowsF,if_neg e]
  subst eQ
  simp -implicitDefEqProofs[eq_false e,eq_false (show ¬(out.length:Int)=l.length by omega),c121_3,s1]
  refine W_loop (inv121 hb rb cb ob lb bb ab v0 A co Ok T2 l n r m out done L la lc) l.length ⟨0,v,L,rfl,by omega,S,oL,hT,by simp[stW]⟩ ?_
  clear hT S s1 s2 s3 s4 s5 A' a1 a2 a3 O grb orow oL sx
  rintro mm F hh ⟨j,v',L',rfl,hj,S,oL,hrest,rfl⟩
  obtain⟨s1,s2,s3,s4,s5⟩:=still S
  simp -implicitDefEqProofs[c121_13,c121_4,stW]
  by_cases h1:j<l.length
  ·have w1:IntKind.i64.wrap ((j:Int)+1)=((j+1:Nat):Int):=by rw[wrap64 (by omega)];rfl
   obtain⟨b,o,sp',c0,gg,ro,rfl,hb',hg,hle',hrow,hr⟩:=s5.view.rd intC_length h1
   have r0:=hr 0 (by omega)
   simp only[intC,Nat.add_zero,List.getElem?_cons_zero,Nat.mul_one]at r0
   rw[List.drop_eq_getElem_cons h1,List.flatMap_cons,tell_app]at hrest
   obtain⟨i,hi⟩:∃i,i=l[j]:=⟨_,rfl⟩
   rw[←hi]at r0 hrest
   simp -implicitDefEqProofs[h1,c121_5,hg,r0,c121_6,c121_6b]
   refine Has_spec g.toSetG hd ?_
   cases eh:hasB done i with
   | true=>
    have es:skipB n r l done i=true:=by unfold skipB;rw[eh];rfl
    rw[es]at hrest
    simp only[if_true,tellM]at hrest
    simp -implicitDefEqProofs[c121_12,w1]
    exact⟨l.length-(j+1),by omega,j+1,v',L',rfl,h1,S,oL,hrest,by simp[stW]⟩
   | false=>
    simp -implicitDefEqProofs[s1,s3]
    refine Row_r gr C.n64 C.rok ?_
    simp -implicitDefEqProofs[stW,s1,s3]
    refine Of_s g.toChoG g.toSetG s5.view (by omega) ?_
    simp -implicitDefEqProofs[stW,s1,s3]
    generalize eQ:branchK G _ _ _ _ _ _=Q
    by_cases ez:iandn .u64 (iand .u64 (rowN n r i:Nat) (ofN l:Nat)) (done:Nat)=0
    ·have es:skipB n r l done i=false:=by unfold skipB;rw[eh,decide_eq_true ez];rfl
     rw[es]at hrest
     simp only[Bool.false_eq_true,if_false]at hrest
     subst eQ
     obtain⟨outv,outv',h',p1,p2,p3,p4,S'⟩:=S.push B D.cos i (by omega)
     obtain⟨oa2,oc2,rfl⟩:=S'.slice B
     rw[show(out++[i]).length=out.length+1 by simp]at S' p2
     simp -implicitDefEqProofs[eq_true ez,c121_7,p1,p2,p3]
     generalize h'.put rb (.cells [.slice oa2 (out.length+1) oc2] false false)=hq at*
     have hd':withN done i<2^64:=withN_lt hd
     obtain⟨t1,t2,t3,t4,t5⟩:=still S'
     simp -implicitDefEqProofs[c121_8,c121_8b,t4,-AH.put_get]
     refine With_spec g.toSetG hd ?_
     simp -implicitDefEqProofs[t4,stW]
     refine ih _ _ v' L' (out++[i]) (withN done i) hd' (by simp;omega) (by simp) (by simp;omega) S' oL (fun x hx=>hQ x ?_) fun h4 v4 S4=>?_
     ·rw[rowsF,if_neg e,List.mem_flatMap]
      exact⟨i,by rw[hi];exact List.getElem_mem h1,by rw[es,if_neg (by simp)];exact hx⟩
     have tok:=tell_okA D.ok (rowsF l (skipB n r l) m (out++[i]) (withN done i)) L' oL
     generalize eT:tellM T2 (rowsF l (skipB n r l) m (out++[i]) (withN done i)) L'=rr at*
     obtain⟨bT,LT⟩:=rr
     obtain⟨ra,rc,outv2,o1,o2,S5⟩:=S4.pop B D.cos h0
     obtain⟨oa3,oc3,rfl⟩:=S5.slice B
     have w5:IntKind.i64.wrap (out.length:Int)=(out.length:Int):=wrap64 (by omega)
     simp -implicitDefEqProofs[t4,stW]
     simp -implicitDefEqProofs[c121_9,o1,w5,o2]
     cases bT with
     | false=>
      simp only[Bool.false_eq_true,if_false]at hrest
      rw[hrest]at k
      simp -implicitDefEqProofs[c121_10,c121_11]
      exact k _ v4 S5
     | true=>
      simp only[if_true]at hrest
      simp -implicitDefEqProofs[c121_10,c121_12,w1]
      exact⟨l.length-(j+1),by omega,j+1,v4,LT,rfl,h1,S5,tok rfl,hrest,by simp[stW]⟩
    ·have es:skipB n r l done i=true:=by unfold skipB;rw[eh,decide_eq_false ez];rfl
     rw[es]at hrest
     simp only[if_true,tellM]at hrest
     subst eQ
     simp -implicitDefEqProofs[eq_false ez,c121_12,w1]
     exact⟨l.length-(j+1),by omega,j+1,v',L',rfl,h1,S,oL,hrest,by simp[stW]⟩
  ·have:j=l.length:=by omega
   subst this
   simp only[List.drop_length,List.flatMap_nil,tellM]at hrest
   rw[hrest]at k
   simp -implicitDefEqProofs[h1,c121_14]
   exact k hh v' S
end Go.Jq
namespace Go.Jq
variable {G:Nat→SFunc} {h h0 h1:AH} {R:Value→AH→Prop}
theorem row_all(g:RowG G)(gr:RelG2 G){hb:AH}{rb cb ob lb tb bb ab:Nat}{v0 fv lv:Value}{A:List Nat}{co Cx:AH→Prop}{Ok:List Exe→Prop}{T2:List Exe→List Int→Bool×List Exe}{l:List Int}{n:Nat}{r:Nat→Nat}{Q:List Int→Prop}(hA:cb∈A)
  (D:TellR G fv ob cb co Cx T2 Ok Q)(C:RowC2 hb rb cb ob lb tb bb ab v0 fv lv l n r Cx):∀m,RowSp G hb rb cb ob lb tb bb ab v0 A co Ok T2 l n r Q m:=by
 intro m
 induction m with
 | zero=>intro h R v L out done _ hm _ hle;omega
 | succ m ih=>exact row_step g gr hA D C ih
theorem cut1{k n:Nat}{cs:List Value}{a:Option Addr}{c:Nat}(s:SlX k h n cs (.slice a n c))(hn:0<n):∃b o,sslice k a n c none (some (.int .i64 1)) (some (.int .i64 1))=some (.slice (some ⟨b,o,none⟩) 1 1)∧SlX k h 1 (cs.take k) (.slice (some ⟨b,o,none⟩) 1 1):=by
 obtain⟨s1,s2⟩:=s
 rcases s2 with⟨z,_⟩|⟨b,o,sp,c',c0,g,ro,e,e6,e7,e2,e3,e4,e5⟩
 ·omega
 ·simp only[Value.slice.injEq,true_and]at e
  obtain⟨rfl,rfl⟩:=e
  have hk:1*k≤n*k:=Nat.mul_le_mul_right k hn
  refine⟨b,o,?_,?_⟩
  ·have hb:sbounds n c none (some (.int .i64 1)) (some (.int .i64 1))=some (0,1,1):=by
    unfold sbounds sbound
    dsimp only
    rw[if_pos (by omega)]
    rfl
   unfold sslice
   rw[hb]
   dsimp only
   rcases e6 with rfl|rfl
   ·simp[addrAdd]
   ·simp;omega
  ·refine⟨by rw[List.length_take,s1];omega,.inr ⟨b,o,none,1,c0,g,ro,rfl,.inl rfl,Nat.le_refl _,e2,e3,by omega,?_⟩⟩
   rw[←e5,List.take_take,Nat.one_mul,Nat.min_eq_left (by omega)]
theorem rows66(g:RowG G)(gr:RelG2 G){cb ob n:Nat}{v fv lv:Value}{A:List Nat}{co Cx:AH→Prop}{Ok:List Exe→Prop}{T2:List Exe→List Int→Bool×List Exe}{L:List Exe}{l:List Int}{r:Nat→Nat}{Q:List Int→Prop}(D:TellR G fv ob cb co Cx T2 Ok Q)(hQ:∀x∈rowsW l (skipB n r l),Q x)(hA:cb∈A)(hAl:∀a∈A,a<h.next)
  (O:OutSA h ob A L v)(oL:Ok L)(c0:co h)(cx:Cx (Km h (E1 cb ob v)))(s:SlX 1 (Km h (E1 cb ob v)) l.length (l.flatMap intC) lv)(hl0:0<l.length)(hl:l.length≤900)(hn:n≤64)(hr:RowsOk r)
  (k:∀h1 v1,h.next≤h1.next→Xt (Km h (E1 cb ob v)) (Km h1 (E1 cb ob v1))→OutSA h1 ob A (tellM T2 (rowsW l (skipB n r l)) L).2 v1→co h1→R (.bool (tellM T2 (rowsW l (skipB n r l)) L).1) h1):
  WC G 66 [lv,.func (.func 53) #[relV n r] #[],fv] h R:=by
 obtain⟨la,lc,rfl⟩:=s.len
 obtain⟨b1,o1,e1,s1⟩:=cut1 s hl0
 obtain⟨fn,caps,efv,sp0⟩:=id D.sp
 subst efv
 have hc:=hAl _ hA
 have ho:=O.hob
 refine WC_enter g.g66 rfl ?_
 have sh:=s.xt Km.xt
 obtain⟨b,o,sp',cc,gg,ro,rfl,hb',hg,hle',hrow,hr'⟩:=sh.view.rd intC_length hl0
 have r0:=hr' 0 (by omega)
 simp only[intC,Nat.add_zero,List.getElem?_cons_zero,Nat.mul_one,Nat.zero_mul]at r0
 simp -implicitDefEqProofs[c66,c66_body,c66_0,c66_1,e1,c66_2,c66_3]
 have tk1:l.take 1=[l[0]]:=by
  rw[List.take_one]
  cases l with
  | nil=>simp at hl0
  | cons a l=>rfl
 simp -implicitDefEqProofs[c66_4,c66_4b,AH.lays_lt hb',hg,r0,hl0]
 refine Of_s (l:=[l[0]]) g.toChoG g.toSetG ⟨rfl,.inr ⟨h.next+5,0,none,1,[.int .i64 l[0]],false,false,rfl,by simp,by simp,by simp,by simp[intC]⟩⟩ (by simp) ?_
 obtain⟨hB,ehB⟩:∃hB,hB=h.lays [.cells [.slice (some ⟨b,o,sp'⟩) l.length lc] false false,.cells [.func (.func 53) #[relV n r] #[]] false false,.cells [.func (.func fn) #[] caps.toArray] false false,.cells [.slice (some ⟨b1,o1,none⟩) 1 1] false false,
  .cells [.func (.func 121) #[] #[.pointer (some ⟨h.next+3,0,none⟩),.pointer (some ⟨h.next,0,none⟩),.pointer (some ⟨h.next+2,0,none⟩),.pointer (some ⟨h.next+1,0,none⟩),.pointer (some ⟨h.next+4,0,none⟩)]] false false,.cells [.int .i64 l[0]] false false]:=⟨_,rfl⟩
 simp -implicitDefEqProofs[stW]
 rw[←ehB]
 have xB:Ext h hB:=by rw[ehB];exact .lays
 have nB:hB.next=h.next+6:=by rw[ehB];simp
 have vlt:∀b,blkOf v=some b→b<h.next:=fun b e=>O.lt e
 have g0:hB.get h.next=.cells [.slice (some ⟨b,o,sp'⟩) l.length lc] false false:=by rw[ehB];simp
 have g1:hB.get (h.next+1)=.cells [.func (.func 53) #[relV n r] #[]] false false:=by rw[ehB];simp
 have g2:hB.get (h.next+2)=.cells [.func (.func fn) #[] caps.toArray] false false:=by rw[ehB];simp
 have g3:hB.get (h.next+3)=.cells [.slice (some ⟨b1,o1,none⟩) 1 1] false false:=by rw[ehB];simp
 have g4:hB.get (h.next+4)=.cells [.func (.func 121) #[] #[.pointer (some ⟨h.next+3,0,none⟩),.pointer (some ⟨h.next,0,none⟩),.pointer (some ⟨h.next+2,0,none⟩),.pointer (some ⟨h.next+1,0,none⟩),.pointer (some ⟨h.next+4,0,none⟩)]] false false:=by rw[ehB];simp
 clear ehB
 have E2x:Xt (Km h (E1 cb ob v)) (Km hB (E2 (h.next+3) cb ob v)):=Km.chg xB.next (fun b hb _=>xB.get b hb) fun b m=>by
  rcases E2_mem.1 m with q|q
  ·exact .inr (by omega)
  ·exact .inl (E1_mem.2 q)
 have up:∀i,i<6→i≠3→(Km hB (E2 (h.next+3) cb ob v)).get (h.next+i)=hB.get (h.next+i):=fun i hi h3=>Km.get fun m=>by
  rcases E2_mem.1 m with q|q|q|q
  ·omega
  ·omega
  ·omega
  ·have:=vlt _ q;omega
 have B:RowB hB (h.next+3) cb ob:=⟨by omega,by omega,by omega,by omega,by omega⟩
 have C:RowC2 hB (h.next+3) cb ob h.next (h.next+2) (h.next+1) (h.next+4) v (.func (.func fn) #[] caps.toArray) (.slice (some ⟨b,o,sp'⟩) l.length lc) l n r Cx:=by
  refine⟨B,by omega,by omega,by omega,by omega,?_,?_,?_,?_,s.xt E2x,hl,hn,hr,D.cxs _ _ E2x cx⟩
  ·rw[show h.next=h.next+0 from rfl,up 0 (by omega) (by omega)];exact g0
  ·rw[up 2 (by omega) (by omega)];exact g2
  ·rw[up 1 (by omega) (by omega)];exact g1
  ·rw[up 4 (by omega) (by omega)];exact g4
 have S:RowSt hB hB (h.next+3) cb ob v v A co L (l.take 1):=by
  refine⟨Nat.le_refl _,.refl _,⟨(h.next+3)::A,_,fun a m=>by simp[m],by simp,fun a m=>by simp at m;rcases m with q|q;omega;have:=hAl a q;omega,O.new xB fun a m=>by simp at m;rcases m with q|q;exact .inr (by omega);exact .inl q,g3,.inl ⟨⟨b1,o1,rfl⟩,by rw[tk1];rfl,?_⟩⟩,D.cos _ _ (xB.get _ hc) c0,fun e=>by have:=vlt _ e;omega⟩
  have:=s1.xt E2x
  rw[show(l.flatMap intC).take 1=(l.take 1).flatMap intC from by rw[fm_map,fm_map,List.map_take]]at this
  exact this
 have w0:ofN [l[0]]<2^64:=by unfold ofN;exact withN_lt (by decide)
 have eW:rowsF l (skipB n r l) (l.length+1) (l.take 1) (ofN [l[0]])=rowsW l (skipB n r l):=by unfold rowsW;rw[tk1]
 have hQ':∀x∈rowsF l (skipB n r l) (l.length+1) (l.take 1) (ofN [l[0]]),Q x:=by rw[eW];exact hQ
 have all:=row_all g gr hA D C (l.length+1)
 refine all hB _ v L (l.take 1) (ofN [l[0]]) w0 (by omega) (by rw[tk1];simp) (by rw[tk1];simp;omega) S oL hQ' fun h1 v1 S1=>?_
 rw[eW]at S1 ⊢
 simp -implicitDefEqProofs
 obtain⟨A',outv,a1,a2,a3,O1,_,_⟩:=S1.st
 exact k h1 v1 (by have:=S1.lo;omega) ((E2x.trans S1.xt).trans (Km.sub fun b m=>E2_mem.2 (.inr (E1_mem.1 m)))) (O1.less a1) S1.co
end Go.Jq
namespace Go.Jq
variable {G:Nat→SFunc} {h h0 h1:AH} {R:Value→AH→Prop}
structure OrdsG(G:Nat→SFunc):Prop extends RowG G where
 g65:G 65=c65
 g67:G 67=c67
 g68:G 68=c68
 g123:G 123=c123
 g124:G 124=c124
theorem GrowR.km{k lo n:Nat}{cs:List Value}{u:Value}{ms:List Nat}(s:GrowR k h lo n cs u)(hm:∀m∈ms,m<lo):SlX k (Km h ms) n cs u:=by
 obtain⟨s1,s2⟩:=s.x
 refine⟨s1,?_⟩
 rcases s2 with s2|⟨b,o,sp,c,c0,g,ro,rfl,e6,e7,e2,e3,e4,e5⟩
 ·exact .inl s2
 ·have:=(s.blk (b:=b) rfl).1
  exact .inr ⟨b,o,sp,c,c0,g,ro,rfl,e6,e7,e2,by rw[Km.get (fun m=>by have:=hm b m;omega)];exact e3,e4,e5⟩
structure TellX(G:Nat→SFunc)(fv:Value)(ob:Nat)(Cx:AH→Prop)(T:List Exe→Exe→Bool×List Exe)(Ok:List Exe→Prop)(X:Exe→Prop):Prop where
 cxs:∀h h1,Xt h h1→Cx h→Cx h1
 ok:∀L x,Ok L→(T L x).1=true→Ok (T L x).2
 sp:∃(fn:Nat) (caps:List Value),fv=.func (.func fn) #[] caps.toArray∧∀(h:AH) (R:Value→AH→Prop) (L:List Exe) (v:Value) (x:Exe) (ev rv cv:Value) (A:List Nat),(∀a∈A,a<h.next)→OutSA h ob A L v→Ok L→Cx (Sd h ob v)→X x→
  ExeV (Km h (ob::((blkOf v).toList++A))) x ev rv cv→OutKA h ob A v R (T L x)→WC G fn (.agg #[ev,rv,cv]::caps) h R
theorem cho2(g:OrdsG G){fv:Value}{ob tc ec rc:Nat}{Cx:AH→Prop}{T:List Exe→Exe→Bool×List Exe}{Ok:List Exe→Prop}{X:Exe→Prop}(D:TellX G fv ob Cx T Ok X){A:List Nat}{L:List Exe}{v ev rv cv:Value}{evs:List Ev6}{rf:List Int}{co:List (List Int)}
  (hA:∀a∈A,a<h.next)(O:OutSA h ob A L v)(oL:Ok L)(cx:Cx (Sd h ob v))(hx:X ⟨evs,rf,co⟩)(t1:tc<h.next)(t2:h.get tc=.cells [fv] false false)(e1:ec<h.next)(e2:h.get ec=.cells [ev] false false)(r1:rc<h.next)(r2:h.get rc=.cells [rv] false false)
  (se:SlX 6 h evs.length (evs.flatMap Ev6.c) ev)(sr:SlX 1 h rf.length (rf.flatMap intC) rv)(hel:evs.length≤1000)(hrl:rf.length≤1000)(sc:NestX intC 1 (Km h (ob::((blkOf v).toList++A))) co cv)(k:OutKA h ob A v R (T L ⟨evs,rf,co⟩)):
  WC G 68 [cv,.pointer (some ⟨tc,0,none⟩),.pointer (some ⟨ec,0,none⟩),.pointer (some ⟨rc,0,none⟩)] h R:=by
 obtain⟨fn,caps,rfl,sp⟩:=D.sp
 obtain⟨ca,cc,rfl⟩:=sc.len
 have hob:=O.hob
 have vlt:∀b,blkOf v=some b→b<h.next:=fun b e=>O.lt e
 have ml:∀m∈(ob::((blkOf v).toList++A)),m<h.next:=fun m hm=>by
  simp at hm
  rcases hm with q|q|q
  ·omega
  ·exact vlt _ q
  ·exact hA _ q
 refine WC_enter g.g68 rfl ?_
 simp -implicitDefEqProofs[c68,c68_body,c68_0,c68_1,c68_1b,t2,e2,r2]
 refine clone69 g.toChoG se hel fun h2 ev' x2 s2=>?_
 obtain⟨ea,rfl⟩:=s2.len
 have t22:=(x2.get _ t1).trans t2
 have e22:=(x2.get _ e1).trans e2
 have r22:=(x2.get _ r1).trans r2
 simp -implicitDefEqProofs[t22,e22,r22]
 refine clone70 g.toChoG (sr.ext x2) hrl fun h3 rv' x3 s3=>?_
 obtain⟨ra,rfl⟩:=s3.len
 have n2:=x2.next
 have n3:=x3.next
 have t23:=(x3.get _ (by omega)).trans t22
 have e23:=(x3.get _ (by omega)).trans e22
 have r23:=(x3.get _ (by omega)).trans r22
 have x23:=x2.trans x3
 simp -implicitDefEqProofs[t23,e23,r23,splice]
 refine sp h3 _ L v ⟨evs,rf,co⟩ _ _ _ A (fun a m=>by have:=hA a m;omega) (O.ext x23) oL (D.cxs _ _ (Sd.ext x23) cx) hx ⟨((s2.ext x3).km ml).view,(s3.km fun m hm=>by have:=ml m hm;omega).view,sc.xt (Km.ext x23)⟩ fun h4 v4 n4 x4 O4=>?_
 simp -implicitDefEqProofs
 exact k h4 v4 (by omega) ((Sd.ext x23).trans x4) O4
end Go.Jq
namespace Go.Jq
variable {G:Nat→SFunc} {h h0 h1:AH} {R:Value→AH→Prop}
structure OrdB where
 nB:Nat
 coc:Nat
 tb:Nat
 chb:Nat
 atb:Nat
 wc:Nat
 rlc:Nat
 ttc:Nat
 evc:Nat
 rfc:Nat
structure OrdC(M:AH)(b:OrdB)(nl cb wb:Nat)(fv ev rv:Value)(wvs:List Value)(evs:List Ev6)(rf:List Int)(W:List (List Int))(n:Nat)(r:Nat→Nat):Prop where
 lt:b.nB<M.next∧b.coc<M.next∧b.tb<M.next∧b.chb<M.next∧b.atb<M.next∧b.wc<M.next∧b.rlc<M.next∧b.ttc<M.next∧b.evc<M.next∧b.rfc<M.next∧wb<M.next
 nB:M.get b.nB=.cells [.int .i64 nl] false false
 coc:M.get b.coc=.cells [.slice (some ⟨cb,0,none⟩) nl nl] false false
 tb:M.get b.tb=.cells [.func (.func 68) #[] #[.pointer (some ⟨b.ttc,0,none⟩),.pointer (some ⟨b.evc,0,none⟩),.pointer (some ⟨b.rfc,0,none⟩)]] false false
 chb:M.get b.chb=.cells [.func (.func 65) #[] #[.pointer (some ⟨b.wc,0,none⟩),.pointer (some ⟨b.rlc,0,none⟩)]] false false
 atb:M.get b.atb=.cells [.func (.func 123) #[] #[.pointer (some ⟨b.nB,0,none⟩),.pointer (some ⟨b.coc,0,none⟩),.pointer (some ⟨b.tb,0,none⟩),.pointer (some ⟨b.chb,0,none⟩),.pointer (some ⟨b.atb,0,none⟩)]] false false
 wc:M.get b.wc=.cells [.slice (some ⟨wb,0,none⟩) nl nl] false false
 rlc:M.get b.rlc=.cells (relC n r) false false
 ttc:M.get b.ttc=.cells [fv] false false
 evc:M.get b.evc=.cells [ev] false false
 rfc:M.get b.rfc=.cells [rv] false false
 wbg:M.get wb=.cells wvs false false
 wl:wvs.length=nl
 wl2:W.length=nl
 wr:∀c (hc:c<wvs.length),SlX 1 M ((W[c]?).getD []).length (((W[c]?).getD []).flatMap intC) wvs[c]
 se:SlX 6 M evs.length (evs.flatMap Ev6.c) ev
 sr:SlX 1 M rf.length (rf.flatMap intC) rv
section
variable {b:OrdB} {nl cb wb n:Nat} {fv ev rv:Value} {wvs:List Value} {evs:List Ev6} {rf:List Int} {W:List (List Int)} {r:Nat→Nat} {M M1:AH}
theorem OrdC.xt(C:OrdC M b nl cb wb fv ev rv wvs evs rf W n r)(x:Xt M M1):OrdC M1 b nl cb wb fv ev rv wvs evs rf W n r:=by
 obtain⟨l1,l2,l3,l4,l5,l6,l7,l8,l9,l10,l11⟩:=C.lt
 have nx:=x.next
 exact⟨⟨by omega,by omega,by omega,by omega,by omega,by omega,by omega,by omega,by omega,by omega,by omega⟩,x.get _ _ _ _ l1 C.nB,x.get _ _ _ _ l2 C.coc,x.get _ _ _ _ l3 C.tb,x.get _ _ _ _ l4 C.chb,x.get _ _ _ _ l5 C.atb,x.get _ _ _ _ l6 C.wc,x.get _ _ _ _ l7 C.rlc,x.get _ _ _ _ l8 C.ttc,x.get _ _ _ _ l9 C.evc,x.get _ _ _ _ l10 C.rfc,
  x.get _ _ _ _ l11 C.wbg,C.wl,C.wl2,fun c hc=>(C.wr c hc).xt x,C.se.xt x,C.sr.xt x⟩
end
def coAt(cb nl loc:Nat)(rvs:List Value)(h:AH):Prop:=∃cs,h.get cb=.cells cs false false∧cs.length=nl∧cs.take loc=rvs
def rowsL(n:Nat)(r:Nat→Nat)(W:List (List Int)):List (List (List Int)):=W.map fun l=>rowsW l (skipB n r l)
section
variable (G:Nat→SFunc) (b:OrdB) (nl cb wb ob:Nat) (fv ev rv:Value) (wvs:List Value) (evs:List Ev6) (rf:List Int) (W:List (List Int)) (n:Nat) (r:Nat→Nat) (Cx:AH→Prop) (T:List Exe→Exe→Bool×List Exe) (Ok:List Exe→Prop)
end
theorem OutSA.neG{ob b:Nat}{A:List Nat}{L:List Exe}{v:Value}{cs:List Value}{ro:Bool}(O:OutSA h ob A L v)(e:h.get b=.cells cs false ro):blkOf v≠some b:=fun q=>by
 obtain⟨ws,s,_⟩:=O.ws
 rcases s.2 with⟨_,rfl⟩|⟨b',_,_,h3,rfl⟩
 ·simp[blkOf]at q
 ·simp[blkOf]at q
  subst q
  rw[e]at h3
  simp at h3
theorem SdE1{cb ob:Nat}{v v1:Value}(x:Xt (Sd h ob v) (Sd h1 ob v1)):Xt (Km h (E1 cb ob v)) (Km h1 (E1 cb ob v1)):=⟨x.next,fun b c g ro hb e=>by
 obtain⟨q1,q2⟩:=Km.up e
 rw[E1_mem]at q1
 obtain⟨q3,q4,q5⟩:=Sd.up (x.get b c g ro hb (by rw[Sd.get (fun e=>q1 (.inr (.inl e))) (fun e=>q1 (.inr (.inr e)))];exact q2))
 rw[Km.get (fun m=>by rcases E1_mem.1 m with q|q|q;exact q1 (.inl q);exact q3 q;exact q4 q)]
 exact q5⟩
theorem E1Sd{cb ob:Nat}{v:Value}:Xt (Km h (E1 cb ob v)) (Sd h ob v):=Km.sd (.refl _) ⟨E1_mem.2 (.inr (.inl rfl)),fun b e=>E1_mem.2 (.inr (.inr e))⟩
theorem All2.of{α β:Type}{P:α→β→Prop}:∀{l:List α} {m:List β},l.length=m.length→(∀i (h1:i<l.length) (h2:i<m.length),P l[i] m[i])→All2 P l m
 | [],[],_,_=>.nil
 | [],_::_,e,_=>by simp at e
 | _::_,[],e,_=>by simp at e
 | a::l,b::m,e,h=>.cons (h 0 (by simp) (by simp)) (All2.of (by simpa using e) fun i h1 h2=>h (i+1) (by simpa using h1) (by simpa using h2))
def inv123(h:AH)(nl cb:Nat)(tb:Nat)(rs:List (List Int))(A:List Nat)(mm:Nat)(F:Fr)(hh:AH):Prop:=
 ∃(j:Nat) (vs:List Value),mm=nl-j∧j≤nl∧Ext h hh∧h.next+2≤hh.next∧hh.get (h.next+1)=.cells vs false false∧vs.length=nl∧(∀c (hc:c<vs.length),c<j→SlX 1 (Km hh ((h.next+1)::A)) ((rs[c]?).getD []).length (((rs[c]?).getD []).flatMap intC) vs[c])∧
  F=[(3,.pointer (some ⟨tb,0,none⟩)),(8,.slice (some ⟨h.next+1,0,none⟩) nl nl),(16,.slice (some ⟨cb,0,none⟩) nl nl),(17,.int .i64 nl),(18,.int .i64 j)]
theorem at_end(g:OrdsG G){b:OrdB}{nl cb wb ob:Nat}{fv ev rv:Value}{wvs:List Value}{evs:List Ev6}{rf:List Int}{W:List (List Int)}{n:Nat}{r:Nat→Nat}{Cx:AH→Prop}{T:List Exe→Exe→Bool×List Exe}{Ok:List Exe→Prop}{X:Exe→Prop}(D:TellX G fv ob Cx T Ok X)(hel:evs.length≤1000)(hrl:rf.length≤1000)(hnl:nl≤60)(hco:cb≠ob)
  {h:AH}{R:Value→AH→Prop}{v:Value}{L:List Exe}{A:List Nat}{rs:List (List Int)}{rvs:List Value}(hx:X ⟨evs,rf,rs⟩)(hrs:rs.length=nl)(hA:∀a∈A,a<h.next)(hcb:cb∈A)(O:OutSA h ob A L v)(oL:Ok L)(c0:coAt cb nl nl rvs h)
  (C:OrdC (Km h (E1 cb ob v)) b nl cb wb fv ev rv wvs evs rf W n r)(cx:Cx (Km h (E1 cb ob v)))(al:All2 (fun l u=>SlX 1 (Km h (E1 cb ob v)) l.length (l.flatMap intC) u) rs rvs)(hl:∀l∈rs,l.length≤1000)
  (k:∀h1 v1,h.next≤h1.next→Xt (Km h (E1 cb ob v)) (Km h1 (E1 cb ob v1))→OutSA h1 ob A (T L ⟨evs,rf,rs⟩).2 v1→coAt cb nl nl rvs h1→R (.bool (T L ⟨evs,rf,rs⟩).1) h1):
  WC G 123 [.int .i64 nl,.pointer (some ⟨b.nB,0,none⟩),.pointer (some ⟨b.coc,0,none⟩),.pointer (some ⟨b.tb,0,none⟩),.pointer (some ⟨b.chb,0,none⟩),.pointer (some ⟨b.atb,0,none⟩)] h R:=by
 have Ch:=C.xt Km.xt
 obtain⟨l1,l2,l3,l4,l5,l6,l7,l8,l9,l10,l11⟩:=Ch.lt
 obtain⟨cs,gcs,csl,cst⟩:=c0
 have hc:=hA _ hcb
 rw[List.take_of_length_le (by omega)]at cst
 subst cst
 refine WC_enter g.g123 rfl ?_
 simp -implicitDefEqProofs[c123,c123_body,c123_0,c123_1,AH.lays_lt l1,Ch.nB,c123_2,c123_3,AH.lays_lt l2,Ch.coc]
 refine⟨by omega,?_⟩
 have hob:=O.hob
 have vlt:∀b,blkOf v=some b→b<h.next:=fun b e=>O.lt e
 obtain⟨Ms,hMs⟩:∃Ms,Ms=ob::((blkOf v).toList++A):=⟨_,rfl⟩
 have ml:∀m∈Ms,m<h.next:=fun m hm=>by
  rw[hMs]at hm
  simp at hm
  rcases hm with q|q|q
  ·omega
  ·exact vlt _ q
  ·exact hA _ q
 refine W_loop (inv123 h nl cb b.tb rs Ms) nl ⟨0,List.replicate nl (.slice none 0 0),rfl,by omega,.lays,by simp,by simp,by simp,fun c _ hc=>by omega,by simp⟩ ?_
 rintro mm F hh ⟨j,vs,rfl,hj,x,hn2,gob,hvs,hrow,rfl⟩
 have gch:hh.get cb=.cells cs false false:=by rw[x.get _ hc];exact gcs
 simp -implicitDefEqProofs[c123_8,c123_4]
 by_cases h1:j<nl
 ·have w1:IntKind.i64.wrap ((j:Int)+1)=((j+1:Nat):Int):=by rw[wrap64 (by omega)];rfl
  obtain⟨hm,hs⟩:=al.at (i:=j) (by omega)
  have hv:cs[j]?=some cs[j]:=List.getElem?_eq_getElem (by omega)
  have hlj:=hl _ (List.getElem_mem (by omega:j<rs.length))
  have ers:(rs[j]?).getD []=rs[j]:=by simp[show j<rs.length by omega]
  have hjc:j<cs.length:=by omega
  simp -implicitDefEqProofs[h1,c123_5,gch,hv,hjc,c123_6]
  refine clone70 g.toChoG ((hs.xt Km.xt).ext x) hlj fun h3 v3 x3 s3=>?_
  obtain⟨va,rfl⟩:=s3.len
  have n3:=x3.next
  have gob3:h3.get (h.next+1)=.cells vs false false:=by rw[x3.get _ (by omega)];exact gob
  have hjv:j<vs.length:=by omega
  simp -implicitDefEqProofs[h1,gob3,hjv,c123_7,w1]
  refine⟨nl-(j+1),by omega,j+1,vs.set j (.slice va rs[j].length rs[j].length),rfl,h1,⟨by show h.next≤h3.next;omega,fun b hb=>?_⟩,by show h.next+2≤h3.next;omega,by rw[AH.put_get,if_pos rfl],by simp[hvs],fun c hc hcj=>?_,by simp⟩
  ·rw[AH.put_get,if_neg (by omega),x3.get _ (by omega)]
   exact x.get b hb
  ·rw[List.length_set]at hc
   rw[Km.put (by simp),List.getElem_set]
   by_cases e:j=c
   ·subst e
    rw[if_pos rfl,ers]
    refine s3.km fun m hm=>?_
    simp at hm
    rcases hm with q|q
    ·omega
    ·have:=ml m q;omega
   ·rw[if_neg e]
    exact(hrow c hc (by omega)).xt (Km.ext x3)
 ·have:j=nl:=by omega
  subst this
  have tb':hh.get b.tb=.cells [.func (.func 68) #[] #[.pointer (some ⟨b.ttc,0,none⟩),.pointer (some ⟨b.evc,0,none⟩),.pointer (some ⟨b.rfc,0,none⟩)]] false false:=by rw[x.get _ l3];exact Ch.tb
  simp -implicitDefEqProofs[h1,c123_9,tb']
  have nx:=x.next
  have Ohh:=O.ext x
  have x2:Xt (Km h (E1 cb ob v)) (Sd hh ob v):=E1Sd.trans (Sd.ext x)
  have sc:NestX intC 1 (Km hh Ms) rs (.slice (some ⟨h.next+1,0,none⟩) rs.length rs.length):=by
   refine⟨vs,⟨by simp[hvs,hrs],.inr ⟨h.next+1,0,none,rs.length,vs,false,false,rfl,.inl rfl,Nat.le_refl _,by show h.next+1<hh.next;omega,?_,by omega,by rw[List.drop_zero,List.take_of_length_le (by omega)]⟩⟩,All2.of (by omega) fun i h1 h2=>?_⟩
   ·rw[Km.get (fun m=>by have:=ml _ m;omega)];exact gob
   ·have:=hrow i h2 (by omega)
    rw[show(rs[i]?).getD []=rs[i] by simp[h1]]at this
    exact this.xt (Km.sub fun b m=>by simp[m])
  rw[hrs]at sc
  rw[hMs]at sc
  have rfl2:∀y,y<h.next→hh.get y=h.get y:=fun y hy=>x.get y hy
  refine cho2 g D (fun a m=>by have:=hA a m;omega) Ohh oL (D.cxs _ _ x2 cx) hx (by omega) (by rw[rfl2 _ l8];exact Ch.ttc) (by omega) (by rw[rfl2 _ l9];exact Ch.evc) (by omega) (by rw[rfl2 _ l10];exact Ch.rfc) (Ch.se.ext x) (Ch.sr.ext x) hel hrl sc fun h4 v4 n4 x4 O4=>?_
  simp -implicitDefEqProofs
  have xe:Xt (Km h (E1 cb ob v)) (Km h4 (E1 cb ob v4)):=(Km.ext x).trans (SdE1 x4)
  refine k h4 v4 (by omega) xe O4 ⟨cs,?_,csl,by rw[List.take_of_length_le (by omega)]⟩
  exact(Sd.up (x4.get cb cs false false (by show cb<hh.next;omega) (by rw[Sd.get hco (Ohh.neG gch)];exact gch))).2.2
end Go.Jq
namespace Go.Jq
variable {G:Nat→SFunc} {h h0 h1:AH} {R:Value→AH→Prop}
theorem prod_cons{rs:List (List Int)}{RL:List (List (List Int))}{loc:Nat}(hl:loc<RL.length):(prodL (RL.drop loc)).map (rs++·)=RL[loc].flatMap fun r=>(prodL (RL.drop (loc+1))).map ((rs++[r])++·):=by
 rw[List.drop_eq_getElem_cons hl,prodL,List.map_flatMap]
 congr 1
 funext r
 rw[List.map_map]
 congr 1
 funext co
 simp
section
variable (G:Nat→SFunc) (b:OrdB) (nl cb wb ob:Nat) (fv ev rv:Value) (wvs:List Value) (evs:List Ev6) (rf:List Int) (W:List (List Int)) (n:Nat) (r:Nat→Nat) (Cx:AH→Prop) (T:List Exe→Exe→Bool×List Exe) (Ok:List Exe→Prop) (X:Exe→Prop)
def AtSpX(d:Nat):Prop:=∀(loc:Nat) (h:AH) (R:Value→AH→Prop) (v:Value) (L:List Exe) (A:List Nat) (rs:List (List Int)) (rvs:List Value),nl-loc≤d→loc≤nl→rs.length=loc→(∀a∈A,a<h.next)→cb∈A→OutSA h ob A L v→Ok L→coAt cb nl loc rvs h→
 OrdC (Km h (E1 cb ob v)) b nl cb wb fv ev rv wvs evs rf W n r→Cx (Km h (E1 cb ob v))→All2 (fun l u=>SlX 1 (Km h (E1 cb ob v)) l.length (l.flatMap intC) u) rs rvs→(∀l∈rs,l.length≤1000)→(∀co∈prodL ((rowsL n r W).drop loc),X ⟨evs,rf,rs++co⟩)→
 (∀h1 v1,h.next≤h1.next→Xt (Km h (E1 cb ob v)) (Km h1 (E1 cb ob v1))→OutSA h1 ob A (tellM (fun L co=>T L ⟨evs,rf,co⟩) ((prodL ((rowsL n r W).drop loc)).map (rs++·)) L).2 v1→coAt cb nl loc rvs h1→R (.bool (tellM (fun L co=>T L ⟨evs,rf,co⟩) ((prodL ((rowsL n r W).drop loc)).map (rs++·)) L).1) h1)→
 WC G 123 [.int .i64 loc,.pointer (some ⟨b.nB,0,none⟩),.pointer (some ⟨b.coc,0,none⟩),.pointer (some ⟨b.tb,0,none⟩),.pointer (some ⟨b.chb,0,none⟩),.pointer (some ⟨b.atb,0,none⟩)] h R
end
theorem coAt.less{cb nl loc:Nat}{rvs:List Value}{rv:Value}(hl:rvs.length=loc)(c:coAt cb nl (loc+1) (rvs++[rv]) h):coAt cb nl loc rvs h:=by
 obtain⟨cs,a,b,c⟩:=c
 refine⟨cs,a,b,?_⟩
 have:=congrArg (List.take loc) c
 rw[List.take_take,Nat.min_eq_left (by omega),List.take_append_of_le_length (by omega),List.take_of_length_le (l:=rvs) (by omega)]at this
 exact this
theorem at_step(g:OrdsG G)(gr:RelG2 G){b:OrdB}{nl cb wb ob:Nat}{fv ev rv:Value}{wvs:List Value}{evs:List Ev6}{rf:List Int}{W:List (List Int)}{n:Nat}{r:Nat→Nat}{Cx:AH→Prop}{T:List Exe→Exe→Bool×List Exe}{Ok:List Exe→Prop}{X:Exe→Prop}(D:TellX G fv ob Cx T Ok X)(hel:evs.length≤1000)(hrl:rf.length≤1000)(hnl:nl≤60)(hco:cb≠ob)
  (hW:∀l∈W,0<l.length∧l.length≤900)(hn:n≤64)(hr:RowsOk r){d:Nat}(ih:AtSpX G b nl cb wb ob fv ev rv wvs evs rf W n r Cx T Ok X d):AtSpX G b nl cb wb ob fv ev rv wvs evs rf W n r Cx T Ok X (d+1):=by
 intro loc h R v L A rs rvs hd hle hrs hA hcb O oL c0 C cx al hl hX k
 by_cases e:loc=nl
 ·subst e
  have ed:(rowsL n r W).drop loc=[]:=List.drop_of_length_le (by simp[rowsL,C.wl2])
  rw[ed]at k hX
  simp only[prodL,List.map_singleton,List.append_nil,tell_one2]at k
  exact at_end g D hel hrl hnl hco (by have:=hX [] (by simp[prodL]);simpa using this) hrs hA hcb O oL c0 C cx al hl k
 ·have hlt:loc<nl:=by omega
  have hRL:loc<(rowsL n r W).length:=by simp[rowsL,C.wl2];exact hlt
  have hWl:loc<W.length:=by rw[C.wl2];exact hlt
  have eRL:(rowsL n r W)[loc]=rowsW W[loc] (skipB n r W[loc]):=by simp[rowsL]
  rw[prod_cons hRL,eRL]at k
  simp only[tell_flat]at k
  have ok:=hW _ (List.getElem_mem hWl)
  have Ch:=C.xt Km.xt
  obtain⟨l1,l2,l3,l4,l5,l6,l7,l8,l9,l10,l11⟩:=Ch.lt
  have hcbl:=hA _ hcb
  have al2:=al.len
  have vlt:∀b,blkOf v=some b→b<h.next:=fun b e=>O.lt e
  -- what is told of each row
  have DR:TellR G (.func (.func 124) #[] #[.pointer (some ⟨b.coc,0,none⟩),.pointer (some ⟨h.next,0,none⟩),.pointer (some ⟨b.atb,0,none⟩)]) ob cb (coAt cb nl loc rvs)
    (fun M=>OrdC M b nl cb wb fv ev rv wvs evs rf W n r∧Cx M∧All2 (fun l u=>SlX 1 M l.length (l.flatMap intC) u) rs rvs∧h.next<M.next∧M.get h.next=.cells [.int .i64 loc] false false)
    (fun L row=>tellM (fun L co=>T L ⟨evs,rf,co⟩) ((prodL ((rowsL n r W).drop (loc+1))).map ((rs++[row])++·)) L) Ok (fun row=>row∈rowsW W[loc] (skipB n r W[loc])):=by
   refine⟨fun h h1 e c=>?_,fun M M1 x c=>?_,fun L row oL e=>?_,⟨124,[.pointer (some ⟨b.coc,0,none⟩),.pointer (some ⟨h.next,0,none⟩),.pointer (some ⟨b.atb,0,none⟩)],rfl,?_⟩⟩
   ·obtain⟨cs,a1,a2,a3⟩:=c
    exact⟨cs,by rw[e];exact a1,a2,a3⟩
   ·obtain⟨a1,a2,a3,a4,a5⟩:=c
    exact⟨a1.xt x,D.cxs _ _ x a2,a3.imp fun _ _ _ _ s=>s.xt x,Nat.lt_of_lt_of_le a4 x.next,x.get _ _ _ _ a4 a5⟩
   ·exact tell_okA (fun L co=>D.ok L ⟨evs,rf,co⟩) _ L oL e
   ·intro hh R' L' v' row rowv A' hA' hcb' O' oL' c1 cx' hrow hQ sx k'
    obtain⟨C',cx2,al',q4,q5⟩:=cx'
    have Ch':=C'.xt Km.xt
    obtain⟨l1,l2,l3,l4,l5,l6,l7,l8,l9,l10,l11⟩:=Ch'.lt
    obtain⟨cs,gcs,csl,cst⟩:=c1
    obtain⟨q6,q7⟩:=Km.up q5
    obtain⟨ra,rc,rfl⟩:=sx.len
    have w1:IntKind.i64.wrap ((loc:Int)+1)=((loc+1:Nat):Int):=by rw[wrap64 (by omega)];rfl
    have hcb2:=hA' _ hcb'
    have nvc:=O'.neG gcs
    have k1:¬b.atb=cb:=fun e=>(Km.up C'.atb).1 (E1_mem.2 (.inl e))
    have k2:¬h.next=cb:=fun e=>q6 (E1_mem.2 (.inl e))
    refine WC_enter g.g124 rfl ?_
    simp -implicitDefEqProofs[c124,c124_body,c124_0,c124_1,Ch'.coc,q7,hlt,gcs,csl,c124_2,k1,k2,Ch'.atb,w1]
    have kp:∀o,Km (hh.put cb o) (E1 cb ob v')=Km hh (E1 cb ob v'):=fun o=>Km.put (E1_mem.2 (.inl rfl))
    have rvl:rvs.length=loc:=by omega
    refine ih (loc+1) _ _ v' L' A' (rs++[row]) (rvs++[.slice ra row.length rc]) (by omega) hlt (by simp[hrs]) hA' hcb' (O'.put hcb' hco nvc) oL' ⟨cs.set loc (.slice ra row.length rc),by rw[AH.put_get,if_pos rfl],by simp[csl],?_⟩ (by rw[kp];exact C') (by rw[kp];exact cx2) (by rw[kp];exact al'.snoc sx) (fun l hl'=>?_) (fun co hco'=>?_) fun h1 v1 n1 x1 O1 c1=>?_
    ·rw[List.set_eq_take_append_cons_drop,if_pos (by omega),List.take_append,List.take_take,List.length_take,csl,Nat.min_eq_right (by omega:loc≤loc+1),cst,show loc+1-min loc nl=1 by omega]
     rfl
    ·rcases List.mem_append.1 hl' with q|q
     ·exact hl l q
     ·simp at q;rw[q];exact hrow
    ·have:=hX (row::co) (by
      rw[List.drop_eq_getElem_cons hRL,prodL,List.mem_flatMap,eRL]
      exact⟨row,hQ,List.mem_map.2 ⟨co,hco',rfl⟩⟩)
     simpa using this
    ·rw[kp]at x1
     have kk:=k' h1 v1 n1 x1 O1 (c1.less rvl)
     change R' (.bool (tellM (fun L co=>T L ⟨evs,rf,co⟩) ((prodL ((rowsL n r W).drop (loc+1))).map ((rs++[row])++·)) L').1) h1 at kk
     revert kk
     generalize (tellM (fun L co=>T L ⟨evs,rf,co⟩) ((prodL ((rowsL n r W).drop (loc+1))).map ((rs++[row])++·)) L')=rr
     intro kk
     simp -implicitDefEqProofs
     exact kk
  refine WC_enter g.g123 rfl ?_
  simp -implicitDefEqProofs[c123,c123_body,c123_0,c123_1,AH.lays_lt l1,Ch.nB,e,show ¬(loc:Int)=nl by omega,c123_10,AH.lays_lt l4,Ch.chb]
  have hwv:loc<wvs.length:=by rw[C.wl];exact hlt
  have wrow:=Ch.wr loc hwv
  have eW:(W[loc]?).getD []=W[loc]:=by simp[hWl]
  rw[eW]at wrow
  refine WC_enter g.g65 rfl ?_
  simp -implicitDefEqProofs[c65,c65_body,c65_0,c65_1,c65_1b,AH.lays_lt l6,Ch.wc,AH.lays_lt l11,Ch.wbg,hlt,hwv,AH.lays_lt l7,Ch.rlc,AH.load,relC_length,relC_take]
  have xl:Ext h (h.lays [.cells [.int .i64 loc] false false]):=.lays
  refine rows66 (n:=n) (r:=r) (l:=W[loc]) (v:=v) (L:=L) (A:=A) g.toRowG gr DR (fun x hx=>hx) hcb (fun a m=>by have:=hA a m;simp;omega) (O.ext xl) oL (DR.cos _ _ (xl.get _ hcbl) c0) ⟨C.xt (Km.ext xl),D.cxs _ _ (Km.ext xl) cx,al.imp fun _ _ _ _ s=>s.xt (Km.ext xl),by simp,by rw[Km.get (fun m=>by rcases E1_mem.1 m with q|q|q;omega;have:=O.hob;omega;have:=vlt _ q;omega)];simp⟩ ?_ ok.1 ok.2 hn hr fun h1 v1 n1 x1 O1 c1=>?_
  ·have:=C.wr loc hwv
   rw[eW]at this
   exact this.xt (Km.ext xl)
  ·have kk:=k h1 v1 (by simp at n1;omega) ((Km.ext xl).trans x1) O1 c1
   revert kk
   generalize (tellM _ (rowsW W[loc] (skipB n r W[loc])) L)=rr
   intro kk
   simp -implicitDefEqProofs
   exact kk
theorem at_all(g:OrdsG G)(gr:RelG2 G){b:OrdB}{nl cb wb ob:Nat}{fv ev rv:Value}{wvs:List Value}{evs:List Ev6}{rf:List Int}{W:List (List Int)}{n:Nat}{r:Nat→Nat}{Cx:AH→Prop}{T:List Exe→Exe→Bool×List Exe}{Ok:List Exe→Prop}{X:Exe→Prop}(D:TellX G fv ob Cx T Ok X)(hel:evs.length≤1000)(hrl:rf.length≤1000)(hnl:nl≤60)(hco:cb≠ob)
  (hW:∀l∈W,0<l.length∧l.length≤900)(hn:n≤64)(hr:RowsOk r):∀d,AtSpX G b nl cb wb ob fv ev rv wvs evs rf W n r Cx T Ok X d:=by
 intro d
 induction d with
 | zero=>
  intro loc h R v L A rs rvs hd hle hrs hA hcb O oL c0 C cx al hl hX k
  have e:loc=nl:=by omega
  subst e
  have ed:(rowsL n r W).drop loc=[]:=List.drop_of_length_le (by simp[rowsL,C.wl2])
  rw[ed]at k hX
  simp only[prodL,List.map_singleton,List.append_nil,tell_one2]at k
  exact at_end g D hel hrl hnl hco (by have:=hX [] (by simp[prodL]);simpa using this) hrs hA hcb O oL c0 C cx al hl k
 | succ d ih=>exact at_step g gr D hel hrl hnl hco hW hn hr ih
end Go.Jq
namespace Go.Jq
variable {G:Nat→SFunc} {h h0 h1:AH} {R:Value→AH→Prop}
structure ChoseG(G:Nat→SFunc):Prop extends OrdsG G where
 g33:G 33=c33
def chooseM(nl:Nat)(evs:List Ev6)(n:Nat)(r:Nat→Nat):List (List (List Int)):=prodL (rowsL n (invR n r) (wrtM nl evs))
theorem Choose_q(g:ChoseG G)(gr:RelG2 G){p:Prg}{lv iv tv ev rv fv:Value}{ob n:Nat}{r:Nat→Nat}{evs:List Ev6}{rf:List Int}{Cx:AH→Prop}{T:List Exe→Exe→Bool×List Exe}{Ok:List Exe→Prop}{X:Exe→Prop}{A:List Nat}{L:List Exe}{v:Value}(D:TellX G fv ob Cx T Ok X)
  (V:PrgV h p lv iv tv)(hnl:p.locs.length≤4)(hn:n≤64)(hr:RowsOk r)(hA:∀a∈A,a<h.next)(O:OutSA h ob A L v)(oL:Ok L)(cx:Cx (Sd h ob v))(se:SlX 6 (Sd h ob v) evs.length (evs.flatMap Ev6.c) ev)(sr:SlX 1 (Sd h ob v) rf.length (rf.flatMap intC) rv)
  (hel:evs.length≤900)(hrl:rf.length≤900)(hloc:∀i,i<evs.length→(evA evs i).writes=true→plP p.locs.length (evA evs i).loc)(hw0:∀l∈wrtM p.locs.length evs,0<l.length)(hX:∀co∈chooseM p.locs.length evs n r,X ⟨evs,rf,co⟩)
  (k:OutKA h ob A v R (tellM (fun L co=>T L ⟨evs,rf,co⟩) (chooseM p.locs.length evs n r) L)):WC G 33 [.agg #[lv,iv,tv],ev,rv,relV n r,fv] h R:=by
 obtain⟨fn,caps,efv,sp⟩:=id D.sp
 subst efv
 obtain⟨ea,ec,rfl⟩:=se.len
 obtain⟨ra,rc,rfl⟩:=sr.len
 have hob:=O.hob
 have vlt:∀b,blkOf v=some b→b<h.next:=fun b e=>O.lt e
 refine WC_enter g.g33 rfl ?_
 simp -implicitDefEqProofs[c33,c33_body,c33_0,c33_1,relV,relC_take,relC_length,AH.load]
 refine Writers_q g.toChoG (V.ext .lays) hnl ((se.xt Sd.xt).view.ext .lays) (by omega) hloc fun h2 wb vs x2 hwb hwb2 gwb hvs rows=>?_
 have n2:=x2.next
 simp at n2 hwb
 have q0:h2.get h.next=.cells [lv,iv,tv] false false:=by rw[x2.get _ (by simp)];simp
 have q1:h2.get (h.next+1)=.cells [.slice ea evs.length ec] false false:=by rw[x2.get _ (by simp)];simp
 have q2:h2.get (h.next+2)=.cells [.slice ra rf.length rc] false false:=by rw[x2.get _ (by simp)];simp
 have q3:h2.get (h.next+3)=.cells (relC n r) false false:=by rw[x2.get _ (by simp)];simp
 have q4:h2.get (h.next+4)=.cells [.func (.func fn) #[] caps.toArray] false false:=by rw[x2.get _ (by simp)];simp
 simp -implicitDefEqProofs[c33_2,AH.lays_lt (show h.next+3<h2.next by omega),q3,AH.load,relC_length,relC_take]
 refine Inverse_r gr hn hr ?_
 simp -implicitDefEqProofs[relV,relC_take,relC_length,zrel_splice,zrel_length,c33_3,c33_4,AH.load]
 refine WC_enter g.g67 rfl ?_
 simp -implicitDefEqProofs[c67,c67_body,c67_0,c67_1,c67_2,c67_3,c67_4]
 refine⟨by omega,?_⟩
 obtain⟨nl,hnle⟩:∃nl,nl=p.locs.length:=⟨_,rfl⟩
 rw[←hnle]at hvs hloc hw0 hX k hnl ⊢
 obtain⟨b,hb⟩:∃b:OrdB,b=⟨h2.next+3,h2.next+6,h2.next+4,h2.next+2,h2.next+7,h2.next,h2.next+1,h.next+4,h.next+1,h.next+2⟩:=⟨_,rfl⟩
 obtain⟨hF,ehF⟩:∃hF,hF=h2.lays [.cells [.slice (some ⟨wb,0,none⟩) nl nl] false false,.cells (relC n (invR n r)) false false,.cells [.func (.func 65) #[] #[.pointer (some ⟨h2.next,0,none⟩),.pointer (some ⟨h2.next+1,0,none⟩)]] false false,.cells [.int .i64 nl] false false,
  .cells [.func (.func 68) #[] #[.pointer (some ⟨h.next+4,0,none⟩),.pointer (some ⟨h.next+1,0,none⟩),.pointer (some ⟨h.next+2,0,none⟩)]] false false,.cells (List.replicate nl (.slice none 0 0)) false false,.cells [.slice (some ⟨h2.next+5,0,none⟩) nl nl] false false,
  .cells [.func (.func 123) #[] #[.pointer (some ⟨h2.next+3,0,none⟩),.pointer (some ⟨h2.next+6,0,none⟩),.pointer (some ⟨h2.next+4,0,none⟩),.pointer (some ⟨h2.next+2,0,none⟩),.pointer (some ⟨h2.next+7,0,none⟩)]] false false]:=⟨_,rfl⟩
 rw[←ehF]
 have xF:Ext h2 hF:=by rw[ehF];exact .lays
 have nF:hF.next=h2.next+8:=by rw[ehF];simp
 have gF:∀i (c:List Value),([.cells [.slice (some ⟨wb,0,none⟩) nl nl] false false,.cells (relC n (invR n r)) false false,.cells [.func (.func 65) #[] #[.pointer (some ⟨h2.next,0,none⟩),.pointer (some ⟨h2.next+1,0,none⟩)]] false false,.cells [.int .i64 nl] false false,
  .cells [.func (.func 68) #[] #[.pointer (some ⟨h.next+4,0,none⟩),.pointer (some ⟨h.next+1,0,none⟩),.pointer (some ⟨h.next+2,0,none⟩)]] false false,.cells (List.replicate nl (.slice none 0 0)) false false,.cells [.slice (some ⟨h2.next+5,0,none⟩) nl nl] false false,
  .cells [.func (.func 123) #[] #[.pointer (some ⟨h2.next+3,0,none⟩),.pointer (some ⟨h2.next+6,0,none⟩),.pointer (some ⟨h2.next+4,0,none⟩),.pointer (some ⟨h2.next+2,0,none⟩),.pointer (some ⟨h2.next+7,0,none⟩)]] false false]:List ABlk)[i]?=some (.cells c false false)→hF.get (h2.next+i)=.cells c false false:=fun i c e=>by
  rw[ehF,AH.lays_get,e];rfl
 have xh2:Ext h h2:=⟨by omega,fun b hb=>by rw[x2.get b (by simp;omega),AH.lays_lt hb]⟩
 have xhF:Ext h hF:=xh2.trans xF
 have EF:∀y,h.next≤y→y≠h2.next+5→(Km hF (E1 (h2.next+5) ob v)).get y=hF.get y:=fun y hy hn=>Km.get fun m=>by
  rcases E1_mem.1 m with q|q|q
  ·omega
  ·omega
  ·have:=vlt _ q;omega
 have xS:Xt (Sd h ob v) (Km hF (E1 (h2.next+5) ob v)):=Sd.km xhF fun b m=>by
  rcases E1_mem.1 m with q|q|q
  ·exact .inr (.inr (by omega))
  ·exact .inl q
  ·exact .inr (.inl q)
 have C:OrdC (Km hF (E1 (h2.next+5) ob v)) b nl (h2.next+5) wb (.func (.func fn) #[] caps.toArray) (.slice ea evs.length ec) (.slice ra rf.length rc) vs evs rf (wrtM nl evs) n (invR n r):=by
  subst hb
  have lt1:∀i,i<8→h2.next+i<hF.next:=fun i hi=>by omega
  have lt2:∀i,i<5→h.next+i<hF.next:=fun i hi=>by omega
  have G1:∀i (c:List Value),i≠5→hF.get (h2.next+i)=.cells c false false→(Km hF (E1 (h2.next+5) ob v)).get (h2.next+i)=.cells c false false:=fun i c hi e=>by rw[EF _ (by omega) (by omega)];exact e
  have G2:∀i (c:List Value),i<5→h2.get (h.next+i)=.cells c false false→(Km hF (E1 (h2.next+5) ob v)).get (h.next+i)=.cells c false false:=fun i c hi e=>by rw[EF _ (by omega) (by omega),xF.get _ (by omega)];exact e
  have G3:(Km hF (E1 (h2.next+5) ob v)).get wb=.cells vs false false:=by rw[EF _ (by omega) (by omega),xF.get _ (by omega)];exact gwb
  have ltw:wb<hF.next:=by omega
  refine⟨⟨lt1 3 (by omega),lt1 6 (by omega),lt1 4 (by omega),lt1 2 (by omega),lt1 7 (by omega),lt1 0 (by omega),lt1 1 (by omega),lt2 4 (by omega),lt2 1 (by omega),lt2 2 (by omega),ltw⟩,G1 3 _ (by omega) (gF 3 _ rfl),G1 6 _ (by omega) (gF 6 _ rfl),G1 4 _ (by omega) (gF 4 _ rfl),G1 2 _ (by omega) (gF 2 _ rfl),G1 7 _ (by omega) (gF 7 _ rfl),G1 0 _ (by omega) (gF 0 _ rfl),G1 1 _ (by omega) (gF 1 _ rfl),G2 4 _ (by omega) q4,G2 1 _ (by omega) q1,G2 2 _ (by omega) q2,G3,hvs,by simp[wrtM],fun c hc=>?_,se.xt xS,sr.xt xS⟩
  ·have rw1:=(rows.row c hc).ext xF
   have e:((wrtM nl evs)[c]?).getD []=wrtN evs c evs.length:=by simp[wrtM,show c<nl by omega]
   rw[e]
   have rwb:∀b',blkOf vs[c]=some b'→wb+1≤b'∧b'<h2.next:=fun b' e=>(rows.row c hc).blk e
   obtain⟨s1,s2⟩:=rw1.x
   refine⟨s1,?_⟩
   rcases s2 with s2|⟨b',o',sp',c',c0,g',ro',e1,e6,e7,e2,e3,e4,e5⟩
   ·exact .inl s2
   ·have:=rwb b' (by rw[e1];rfl)
    exact .inr ⟨b',o',sp',c',c0,g',ro',e1,e6,e7,e2,by rw[EF _ (by omega) (by omega)];exact e3,e4,e5⟩
 have W900:∀l∈wrtM nl evs,0<l.length∧l.length≤900:=fun l hl=>⟨hw0 l hl,by
  obtain⟨c,hc,rfl⟩:=List.mem_map.1 hl
  have:=wrtN_le (evs:=evs) (c:=c) (j:=evs.length)
  omega⟩
 have all:=at_all (b:=b) (nl:=nl) (cb:=h2.next+5) (wb:=wb) (ob:=ob) (fv:=.func (.func fn) #[] caps.toArray) (ev:=.slice ea evs.length ec) (rv:=.slice ra rf.length rc) (wvs:=vs) (evs:=evs) (rf:=rf) (W:=wrtM nl evs) (n:=n) (r:=invR n r) g.toOrdsG gr D (by omega) (by omega) (by omega) (by omega) W900 hn invR_ok (nl+1)
 have eb:(⟨h2.next+3,h2.next+6,h2.next+4,h2.next+2,h2.next+7,h2.next,h2.next+1,h.next+4,h.next+1,h.next+2⟩:OrdB)=b:=hb.symm
 have e1:h2.next+3=b.nB:=by rw[hb]
 have e2:h2.next+6=b.coc:=by rw[hb]
 have e3:h2.next+4=b.tb:=by rw[hb]
 have e4:h2.next+2=b.chb:=by rw[hb]
 have e5:h2.next+7=b.atb:=by rw[hb]
 rw[e1,e2,e3,e4,e5]
 refine all 0 hF _ v L ((h2.next+5)::A) [] [] (by omega) (by omega) rfl (fun a m=>by simp at m;rcases m with q|q;omega;have:=hA a q;omega) (by simp) (O.new xhF fun a m=>by simp at m;rcases m with q|q;exact .inr (by omega);exact .inl q) oL ⟨_,gF 5 _ rfl,by simp,by simp⟩ C (D.cxs _ _ xS cx) .nil (by simp) (fun co hco=>by simpa using hX co (by simpa[chooseM]using hco)) fun h4 v4 n4 x4 O4 c4=>?_
 have ee:((prodL ((rowsL n (invR n r) (wrtM nl evs)).drop 0)).map (([]:List (List Int))++·))=chooseM nl evs n r:=by simp[chooseM]
 rw[ee]at O4 ⊢
 have kk:=k h4 v4 (by omega) ((xS.trans x4).trans E1Sd) (O4.less fun a m=>by simp[m])
 revert kk
 generalize tellM _ (chooseM nl evs n r) L=rr
 intro kk
 simp -implicitDefEqProofs
 exact kk
end Go.Jq
namespace Go.Jq
variable {G:Nat→SFunc} {h h0 h1:AH} {R:Value→AH→Prop}
structure OkG(G:Nat→SFunc):Prop where
 g59:G 59=c59
 g104:G 104=c104
 g105:G 105=c105
 g106:G 106=c106
 g107:G 107=c107
 g108:G 108=c108
 g109:G 109=c109
 g110:G 110=c110
 g171:G 171=c171
 g172:G 172=c172
 g173:G 173=c173
theorem isReg_q(g:OkG G){r:Int}(hr:r=0∨r=1)(k:R (.bool true) h):WC G 173 [.int .i64 r] h R:=by
 rcases hr with rfl|rfl
 ·refine WC_enter g.g173 rfl ?_
  simp -implicitDefEqProofs[c173,c173_body,c173_0,c173_1]
  exact k
 ·refine WC_enter g.g173 rfl ?_
  simp -implicitDefEqProofs[c173,c173_body,c173_0,c173_1]
  exact k
theorem isOpd_q(g:OkG G){r v:Int}(hr:r=-1∨r=0∨r=1)(hv:r=-1∨v=0)(k:R (.bool true) h):WC G 172 [.agg #[.int .i64 r,.int .i64 v]] h R:=by
 by_cases e:r=-1
 ·subst e
  refine WC_pure (WC_enter g.g172 rfl ?_)
  simp -implicitDefEqProofs[c172,c172_body,c172_0,c172_1,Ext.lays]
  exact k
 ·have hv:v=0:=by omega
  subst hv
  have hr':r=0∨r=1:=by omega
  refine WC_pure (WC_enter g.g172 rfl ?_)
  simp -implicitDefEqProofs[c172,c172_body,c172_0,c172_1,e]
  refine isReg_q g hr' ?_
  simp -implicitDefEqProofs[Ext.lays]
  exact k
theorem has_q(g:OkG G){x:Int}{pb nl c:Nat}{a:Option Addr}{iv tv:Value}{gg ro:Bool}(hp:pb<h.next)(gp:h.get pb=.cells [.slice a nl c,iv,tv] gg ro)(hx:plP nl x)(k:R (.bool true) h):WC G 106 [.int .i64 x,.pointer (some ⟨pb,0,none⟩)] h R:=by
 have h0:=hx.1
 have h1:=hx.2
 refine WC_enter g.g106 rfl ?_
 simp -implicitDefEqProofs[c106,c106_body,c106_0,c106_1,gp,h0,h1]
 exact k
theorem zk9:zk 9=[0,0,0,0,0,0,0,0,0]:=rfl
theorem Fields_q(g:OkG G){i:Ins}{pb nl c:Nat}{a:Option Addr}{iv tv:Value}{gg ro:Bool}(hp:pb<h.next)(gp:h.get pb=.cells [.slice a nl c,iv,tv] gg ro)(ok:iOk (plP nl) i)(fo:fOk i)(k:R (.bool true) h):WC G 110 [i.v,.func (.func 106) #[] #[.pointer (some ⟨pb,0,none⟩)]] h R:=by
 obtain⟨kd,rg,lc,ar,av,op,br,bv,n⟩:=i
 unfold iOk aOk rOk at ok
 unfold fOk at fo
 simp only at ok fo
 have gp':∀L,(h.lays L).get pb=.cells [.slice a nl c,iv,tv] gg ro:=fun L=>by rw[AH.lays_lt hp];exact gp
 have hp':∀L,pb<(h.lays L).next:=fun L=>by simp;omega
 rcases fo with⟨rfl,rfl,rfl,rfl,rfl,rfl,fo⟩|⟨rfl,rfl,rfl,rfl,rfl,rfl,rfl⟩|⟨rfl,rfl,rfl,rfl,rfl,rfl,rfl,rfl,rfl⟩|⟨rfl,rfl,rfl,fo,rfl⟩|⟨rfl,rfl,rfl,rfl,fo,rfl⟩|⟨rfl,rfl,rfl,rfl,fo,rfl⟩
 ·have:plP nl lc∧(ar=-1∨ar=0∨ar=1):=by simp at ok;exact ok
  obtain⟨o1,o2⟩:=this
  refine WC_pure (WC_enter g.g110 rfl ?_)
  simp -implicitDefEqProofs[c110,c110_body,c110_0,c110_1,c110_2,c110_3,c110_4,c110_5,c110_5b,c110_6,Ins.v,Ins.c,zi_9,splice]
  refine has_q g (hp' _) (gp' _) o1 ?_
  simp -implicitDefEqProofs
  refine isOpd_q g o2 fo ?_
  simp -implicitDefEqProofs[c110_21,Ext.lays,zk9,cellsEq,cellEq]
  exact k
 ·have:plP nl lc∧(rg=0∨rg=1):=by simp at ok;exact ok
  obtain⟨o1,o2⟩:=this
  refine WC_pure (WC_enter g.g110 rfl ?_)
  simp -implicitDefEqProofs[c110,c110_body,c110_0,c110_1,c110_2,c110_3,c110_4,c110_7,c110_8,c110_8b,c110_9,Ins.v,Ins.c,zi_9,splice]
  refine has_q g (hp' _) (gp' _) o1 ?_
  simp -implicitDefEqProofs
  refine isReg_q g o2 ?_
  simp -implicitDefEqProofs[c110_21,Ext.lays,zk9,cellsEq,cellEq]
  exact k
 ·refine WC_pure (WC_enter g.g110 rfl ?_)
  simp -implicitDefEqProofs[c110,c110_body,c110_0,c110_1,c110_2,c110_3,c110_4,c110_7,c110_10,Ins.v,Ins.c,zi_9,splice,c110_21,Ext.lays,zk9,cellsEq,cellEq]
  exact k
 ·have:plP nl lc∧(rg=0∨rg=1)∧(ar=-1∨ar=0∨ar=1):=by simp at ok;exact ok
  obtain⟨o1,o2,o3⟩:=this
  refine WC_pure (WC_enter g.g110 rfl ?_)
  simp -implicitDefEqProofs[c110,c110_body,c110_0,c110_1,c110_2,c110_3,c110_4,c110_7,c110_10,c110_11,c110_12,c110_12b,c110_13,Ins.v,Ins.c,zi_9,splice]
  refine has_q g (hp' _) (gp' _) o1 ?_
  simp -implicitDefEqProofs
  refine isReg_q g o2 ?_
  simp -implicitDefEqProofs
  refine isOpd_q g o3 fo ?_
  simp -implicitDefEqProofs
  refine isOpd_q g (.inl rfl) (.inl rfl) ?_
  simp -implicitDefEqProofs[c110_21,Ext.lays,zk9,cellsEq,cellEq]
  exact k
 ·have:(rg=0∨rg=1)∧(ar=-1∨ar=0∨ar=1):=by simp at ok;exact ok
  obtain⟨o2,o3⟩:=this
  refine WC_pure (WC_enter g.g110 rfl ?_)
  simp -implicitDefEqProofs[c110,c110_body,c110_0,c110_1,c110_2,c110_3,c110_4,c110_7,c110_10,c110_11,c110_14,c110_15,c110_15b,c110_16,Ins.v,Ins.c,zi_9,splice]
  refine isReg_q g o2 ?_
  simp -implicitDefEqProofs
  refine isOpd_q g o3 fo ?_
  simp -implicitDefEqProofs
  refine isOpd_q g (.inl rfl) (.inl rfl) ?_
  simp -implicitDefEqProofs[c110_21,Ext.lays,zk9,cellsEq,cellEq]
  exact k
 ·have:(ar=-1∨ar=0∨ar=1)∧n=1:=by simp at ok;exact ok
  obtain⟨o3,rfl⟩:=this
  refine WC_pure (WC_enter g.g110 rfl ?_)
  simp -implicitDefEqProofs[c110,c110_body,c110_0,c110_1,c110_2,c110_3,c110_4,c110_7,c110_10,c110_11,c110_14,c110_17,c110_18,c110_18b,c110_19,Ins.v,Ins.c,zi_9,splice]
  refine isOpd_q g o3 fo ?_
  simp -implicitDefEqProofs
  refine isOpd_q g (.inl rfl) (.inl rfl) ?_
  simp -implicitDefEqProofs[c110_21,Ext.lays,zk9,cellsEq,cellEq]
  exact k
theorem bad_q(g:OkG G){i:Ins}{fb pb nl c:Nat}{a:Option Addr}{iv tv:Value}{gg ro gg' ro':Bool}(hp:pb<h.next)(gp:h.get pb=.cells [.slice a nl c,iv,tv] gg ro)(hf:fb<h.next)(gf:h.get fb=.cells [.func (.func 106) #[] #[.pointer (some ⟨pb,0,none⟩)]] gg' ro')(ok:iOk (plP nl) i)(fo:fOk i)(k:R (.bool false) h):
  WC G 109 [i.v,.pointer (some ⟨fb,0,none⟩)] h R:=by
 refine WC_pure (WC_enter g.g109 rfl ?_)
 simp -implicitDefEqProofs[c109,c109_body,c109_0,c109_1,Ins.v,Ins.c,AH.lays_lt hf,gf]
 refine Fields_q (i:=i) g (by simp;omega) (by rw[AH.lays_lt hp];exact gp) ok fo ?_
 simp -implicitDefEqProofs[Ext.lays]
 exact k
def inv107(h:AH)(l:List Ins)(a:Option Addr)(c:Nat)(mm:Nat)(F:Fr)(hh:AH):Prop:=
 ∃j:Nat,mm=l.length-j∧j≤l.length∧Ext h hh∧F=[(0,.slice a l.length c),(5,.slice a l.length c),(6,.int .i64 l.length),(7,.int .i64 j)]
theorem Jumps_q(g:OkG G){P:Int→Prop}{l:List Ins}{v:Value}(s:SlV 9 h l.length (l.flatMap Ins.c) v)(ok:TOk P l)(hl:l.length≤1000)(k:R (.bool true) h):WC G 107 [v] h R:=by
 obtain⟨a,c,rfl⟩:=s.len
 refine WC_pure (WC_enter g.g107 rfl ?_)
 simp -implicitDefEqProofs[c107,c107_body,c107_0,c107_1]
 refine W_loop (inv107 h l a c) l.length ⟨0,rfl,by omega,.refl _,by simp⟩ ?_
 rintro mm F hh ⟨j,rfl,hj,x,rfl⟩
 simp -implicitDefEqProofs[c107_7,c107_2]
 by_cases h1:j<l.length
 ·have w1:IntKind.i64.wrap ((j:Int)+1)=((j+1:Nat):Int):=by rw[wrap64 (by omega)];rfl
  have w2:IntKind.i64.wrap ((l.length:Int)-j)=(l.length:Int)-j:=wrap64 (by omega)
  have w3:IntKind.i64.wrap ((l.length:Int)-j-1)=(l.length:Int)-j-1:=wrap64 (by omega)
  obtain⟨b,o,sp,c0,gg,ro,rfl,hb,hg,hle,hrow,hr⟩:=(s.ext x).rd ins_len h1
  have oi:=ok.ok _ (List.getElem_mem h1)
  have sk:=ok.skip j h1
  have hn1:l[j].kind=6→l[j].n=1:=fun e=>by
   unfold iOk at oi
   rcases oi with a|a|a|a|a|a
   ·omega
   ·omega
   ·omega
   ·omega
   ·omega
   ·exact a.2.2.2.2
  generalize l[j]=i at*
  have ic:i.c=[.int .i64 i.kind,.int .i64 i.reg,.int .i64 i.loc,.int .i64 i.areg,.int .i64 i.aval,.int .i64 i.op,.int .i64 i.breg,.int .i64 i.bval,.int .i64 i.n]:=rfl
  rw[ic]at hrow
  simp -implicitDefEqProofs[h1,c107_3,hg,AH.load,hle,hrow,zi_9,splice]
  generalize eQ:wO G c107_4 _ _ _=Q
  by_cases k6:i.kind=6
  ·have n1:=hn1 k6
   have s1:=sk k6
   subst eQ
   simp -implicitDefEqProofs[c107_4,k6,n1,w2,w3,show ¬(l.length:Int)-j-1<1 by omega,c107_6,w1]
   exact⟨l.length-(j+1),by omega,j+1,rfl,h1,x.lays',by simp⟩
  ·subst eQ
   simp -implicitDefEqProofs[c107_4,k6,c107_6,w1]
   exact⟨l.length-(j+1),by omega,j+1,rfl,h1,x.lays',by simp⟩
 ·simp -implicitDefEqProofs[h1,c107_8]
  exact⟨x,k⟩
def sizeU(ths:List (List Ins))(j:Nat):Nat:=((ths.take j).map List.length).sum
def inv104(h:AH)(ths:List (List Ins))(a:Option Addr)(c:Nat)(mm:Nat)(F:Fr)(hh:AH):Prop:=
 ∃j:Nat,mm=ths.length-j∧j≤ths.length∧Ext h hh∧F=[(3,.int .i64 (sizeU ths j)),(7,.slice a ths.length c),(8,.int .i64 ths.length),(9,.int .i64 j)]
theorem sizeU_le{ths:List (List Ins)}(hl:∀l∈ths,l.length≤1000):∀j,sizeU ths j≤1000*j:=by
 intro j
 induction j with
 | zero=>simp[sizeU]
 | succ j ih=>
  unfold sizeU at ih ⊢
  by_cases h:j<ths.length
  ·rw[List.take_succ_eq_append_getElem h,List.map_append,List.sum_append]
   have:=hl _ (List.getElem_mem h)
   simp only[List.map_singleton,List.sum_singleton]
   omega
  ·have e:ths.take (j+1)=ths.take j:=by rw[List.take_of_length_le (i:=j+1) (by omega),List.take_of_length_le (i:=j) (by omega)]
   rw[e]
   omega
theorem Size_q(g:OkG G){p:Prg}{lv iv tv:Value}(V:PrgV h p lv iv tv)(hT:p.ths.length≤1000)(hl:∀l∈p.ths,l.length≤1000)(k:R (.int .i64 (sizeM p)) h):WC G 104 [.agg #[lv,iv,tv]] h R:=by
 obtain⟨a,c,rfl⟩:=V.ths.len
 refine WC_pure (WC_enter g.g104 rfl ?_)
 simp -implicitDefEqProofs[c104,c104_body,c104_0,c104_1,c104_2]
 refine W_loop (inv104 h p.ths a c) p.ths.length ⟨0,rfl,by omega,.lays,by simp[sizeU]⟩ ?_
 rintro mm F hh ⟨j,rfl,hj,x,rfl⟩
 simp -implicitDefEqProofs[c104_7,c104_3]
 by_cases h1:j<p.ths.length
 ·have w1:IntKind.i64.wrap ((j:Int)+1)=((j+1:Nat):Int):=by rw[wrap64 (by omega)];rfl
  obtain⟨b,o,sp,c',c0,gg,ro,u,e,hb,hg,r0,su⟩:=(V.ext x).ths.at h1
  simp only[Value.slice.injEq,true_and]at e
  obtain⟨rfl,rfl⟩:=e
  obtain⟨ua,uc,rfl⟩:=su.len
  have e1:sizeU p.ths (j+1)=sizeU p.ths j+p.ths[j].length:=by
   unfold sizeU
   rw[List.take_succ_eq_append_getElem h1,List.map_append,List.sum_append]
   simp
  have hl1:=hl _ (List.getElem_mem h1)
  have sl:=sizeU_le hl j
  have w2:IntKind.i64.wrap ((sizeU p.ths j:Int)+p.ths[j].length)=((sizeU p.ths (j+1):Nat):Int):=by rw[wrap64 (by omega),e1];rfl
  simp -implicitDefEqProofs[h1,c104_4,hg,r0,c104_5,w2,c104_6,w1]
  exact⟨p.ths.length-(j+1),by omega,j+1,rfl,h1,x,by simp⟩
 ·have:j=p.ths.length:=by omega
  subst this
  simp -implicitDefEqProofs[h1,c104_8]
  have e:sizeU p.ths p.ths.length=sizeM p:=by unfold sizeU sizeM;rw[List.take_length]
  rw[e]
  exact⟨x,k⟩
theorem IsLoc_q(g:OkG G){x:Int}(hx:97≤x∧x≤122)(k:R (.bool true) h):WC G 105 [.int .i64 x] h R:=by
 have h0:=hx.1
 have h1:=hx.2
 refine WC_enter g.g105 rfl ?_
 simp -implicitDefEqProofs[c105,c105_body,c105_0,c105_1,h0,h1]
 exact k
end Go.Jq
namespace Go.Jq
variable {G:Nat→SFunc} {h h0 h1:AH} {R:Value→AH→Prop}
structure PrgY(p:Prg):Prop extends PrgB p where
 tok:∀l∈p.ths,TOk (plP p.locs.length) l∧l.length≤10
 size:sizeM p≤24
 let':∀x∈p.locs,97≤x∧x≤122
 up:∀i (hi:i+1<p.locs.length),p.locs[i]<p.locs[i+1]
def inv59a(h:AH)(p:Prg)(lv iv tv:Value)(a:Option Addr)(c:Nat)(mm:Nat)(F:Fr)(hh:AH):Prop:=
 ∃j:Nat,mm=p.locs.length-j∧j≤p.locs.length∧Ext h hh∧h.next<hh.next∧hh.get h.next=.cells [lv,iv,tv] false false∧F=[(1,.pointer (some ⟨h.next,0,none⟩)),(39,.slice a p.locs.length c),(40,.int .i64 p.locs.length),(41,.int .i64 j)]
def inv59b(h:AH)(p:Prg)(lv iv tv:Value)(a:Option Addr)(c:Nat)(fb:Nat)(mm:Nat)(F:Fr)(hh:AH):Prop:=
 ∃j:Nat,mm=p.ths.length-j∧j≤p.ths.length∧Ext h hh∧h.next<hh.next∧hh.get h.next=.cells [lv,iv,tv] false false∧fb<hh.next∧hh.get fb=.cells [.func (.func 106) #[] #[.pointer (some ⟨h.next,0,none⟩)]] false false∧F=[(5,.pointer (some ⟨fb,0,none⟩)),(67,.slice a p.ths.length c),(68,.int .i64 p.ths.length),(69,.int .i64 j)]
theorem Ok_q(g:OkG G){p:Prg}{lv iv tv:Value}(V:PrgV h p lv iv tv)(Y:PrgY p)(k:R (.bool true) h):WC G 59 [.agg #[lv,iv,tv]] h R:=by
 obtain⟨la,lc,rfl⟩:=V.locs.len
 obtain⟨ia,ic,rfl⟩:=V.init.len
 obtain⟨ta,tc,rfl⟩:=V.ths.len
 have h1:=Y.T
 have h2:=Y.pos
 have h3:=Y.nl
 have h4:=Y.il
 have h5:=Y.size
 refine WC_pure (WC_enter g.g59 rfl ?_)
 have q1:¬p.ths.length=0:=by omega
 simp -implicitDefEqProofs[c59,c59_body,c59_0,c59_1,eq_false q1,eq_false (show ¬(p.ths.length:Int)=0 by omega),show ¬(4:Int)<p.ths.length by omega,show ¬(4:Nat)<p.ths.length by omega,show ¬(4:Int)<p.locs.length by omega,h4]
 rw[h4]at V
 refine Size_q g (V.ext .lays) (by omega) (fun l hl=>by have:=(Y.tok l hl).2;omega) ?_
 simp -implicitDefEqProofs[show ¬(24:Int)<sizeM p by omega,show ¬24<sizeM p by omega,c59_3]
 refine W_loop (inv59a h p (.slice la p.locs.length lc) (.slice ia p.locs.length ic) (.slice ta p.ths.length tc) la lc) p.locs.length ⟨0,rfl,by omega,.lays,by simp,by simp,by simp⟩ ?_
 rintro mm F hh ⟨j,rfl,hj,x,hx,g0,rfl⟩
 simp -implicitDefEqProofs[c59_9,c59_4]
 by_cases hj1:j<p.locs.length
 ·have w1:IntKind.i64.wrap ((j:Int)+1)=((j+1:Nat):Int):=by rw[wrap64 (by omega)];rfl
  have w2:IntKind.i64.wrap ((j:Int)-1)=(j:Int)-1:=wrap64 (by omega)
  obtain⟨b,o,sp,c0,gg,ro,rfl,hb,hg,hle,hrow,hr⟩:=(V.ext x).locs.rd bytC_length hj1
  have r0:=hr 0 (by omega)
  have lt:=Y.let' _ (List.getElem_mem hj1)
  have up:=fun i hi=>Y.up i hi
  have w3:IntKind.i64.wrap p.locs[j]=p.locs[j]:=wrap64 (by omega)
  simp[bytC]at r0
  simp -implicitDefEqProofs[hj1,c59_5,hg,r0,c59_6,w3]
  refine IsLoc_q g lt ?_
  generalize eQ:putK G _ _ _ _ _ _=Q
  by_cases hj0:j=0
  ·subst hj0
   subst eQ
   simp -implicitDefEqProofs[c59_8]
   exact⟨p.locs.length-(0+1),by omega,0+1,rfl,by omega,x,hx,g0,by rw[show IntKind.i64.wrap 1=1 from rfl];simp⟩
  ·have hjm:j-1<p.locs.length:=by omega
   obtain⟨b',o',sp',c0',gg',ro',e',hb',hg',hle',hrow',hr'⟩:=(V.ext x).locs.rd bytC_length hjm
   simp only[Option.some.injEq,Addr.mk.injEq]at e'
   obtain⟨rfl,rfl,rfl⟩:=e'
   have r1:=hr' 0 (by omega)
   simp[bytC]at r1
   have lt2:=up (j-1) (by omega)
   have ej:p.locs[j-1+1]'(by omega)=p.locs[j]:=by congr 1;omega
   rw[ej]at lt2
   have tn:((j:Int)-1).toNat=j-1:=by omega
   subst eQ
   simp -implicitDefEqProofs[show(0:Int)<j by omega,show 0<j by omega,g0,w2,show(0:Int)≤(j:Int)-1 by omega,show(j:Int)-1<p.locs.length by omega,tn,hg',r1,show ¬p.locs[j]≤p.locs[j-1] by omega,c59_8,w1]
   exact⟨by omega,p.locs.length-(j+1),by omega,j+1,rfl,by omega,x,hx,g0,by simp⟩
 ·have:j=p.locs.length:=by omega
  subst this
  simp -implicitDefEqProofs[hj1,c59_10,c59_11,g0,AH.lays_lt hx]
  refine W_loop (inv59b h p (.slice la p.locs.length lc) (.slice ia p.locs.length ic) (.slice ta p.ths.length tc) ta tc hh.next) p.ths.length ⟨0,rfl,by omega,x.lays',by simp;omega,by rw[AH.lays_lt hx];exact g0,by simp,by simp,by simp⟩ ?_
  clear g0 hx x hj1
  rintro mm F h3 ⟨j,rfl,hj,x,hx,g0,hfx,gf,rfl⟩
  simp -implicitDefEqProofs[c59_17,c59_12]
  by_cases hj1:j<p.ths.length
  ·have w1:IntKind.i64.wrap ((j:Int)+1)=((j+1:Nat):Int):=by rw[wrap64 (by omega)];rfl
   obtain⟨b,o,sp,c',c0,gg,ro,u,e,hb,hg,r0,su⟩:=(V.ext x).ths.at hj1
   simp only[Value.slice.injEq,true_and]at e
   obtain⟨rfl,rfl⟩:=e
   obtain⟨ua,uc,rfl⟩:=su.len
   have tk:=Y.tok _ (List.getElem_mem hj1)
   generalize p.ths[j]=th at*
   simp -implicitDefEqProofs[hj1,c59_13,hg,r0,c59_14,show ¬(10:Int)<th.length by omega,show ¬10<th.length by omega]
   refine Jumps_q g su tk.1 (by omega) ?_
   simp -implicitDefEqProofs
   refine Contains_n (P:=fun _=>false) g.g171 g.g108 su (by omega) (fun i R' hi k'=>?_) ?_
   ·exact bad_q (nl:=p.locs.length) g hx g0 hfx gf (tk.1.ok i hi) (tk.1.fld i hi) k'
   ·have e:th.any (fun _=>false)=false:=by rw[List.any_eq_false];simp
    rw[e]
    simp -implicitDefEqProofs[c59_16,w1]
    exact⟨p.ths.length-(j+1),by omega,j+1,rfl,by omega,x,hx,g0,hfx,gf,by simp⟩
  ·simp -implicitDefEqProofs[hj1,c59_18]
   exact⟨x,k⟩
end Go.Jq

/- Tests made ready: places, and the numbers that locations begin with. -/
import Derived.Test.YteobailpkkljpaaGreatDoorH
import Derived.Deep.Slices
import Derived.OpenShut
import Derived.ProofKit
set_option linter.unusedSimpArgs false
set_option linter.unusedVariables false
set_option maxHeartbeats 2000000
namespace Go.Jq
variable {G:Nat→SFunc} {h:AH} {R:Value→AH→Prop}
def placeI(ls:List Int)(x:Int):Int:=match ls.findIdx? (fun y=>decide (y=x))with
 | some i=>i
 | none=>-1
theorem placeI_hit{ls:List Int}{x:Int}{i:Nat}(hi:i<ls.length)(hno:∀y (hy:y<ls.length),y<i→ls[y]≠x)(hh:ls[i]=x):placeI ls x=i:=by
 have:ls.findIdx? (fun y=>decide (y=x))=some i:=by
  rw[List.findIdx?_eq_some_iff_getElem]
  exact⟨hi,by simpa using hh,fun j hj=>by simpa using hno j (by omega) hj⟩
 rw[placeI,this]
theorem placeI_none{ls:List Int}{x:Int}(hno:∀y (hy:y<ls.length),ls[y]≠x):placeI ls x=-1:=by
 have:ls.findIdx? (fun y=>decide (y=x))=none:=by
  rw[List.findIdx?_eq_none_iff]
  intro y hy
  obtain⟨i,hi,rfl⟩:=List.getElem_of_mem hy
  simpa using hno i hi
 rw[placeI,this]
theorem placeI_mem{ls:List Int}{x:Int}(h:x∈ls):0≤placeI ls x∧placeI ls x<ls.length:=by
 unfold placeI
 split
 ·rename_i i e
  rw[List.findIdx?_eq_some_iff_getElem]at e
  have:=e.1;omega
 ·rename_i e
  rw[List.findIdx?_eq_none_iff]at e
  simpa using e x h
structure CompG(G:Nat→SFunc):Prop extends LocsG G,SmallG G where
 g281:G 281=c281
 g274:G 274=c274
 g270:G 270=c270
def inv281(h:AH)(ls:List Int)(x:Int)(c3:List Value)(mm:Nat)(F:Fr)(hh:AH):Prop:=
 ∃i:Nat,mm=ls.length-i∧i≤ls.length∧(∀y (hy:y<ls.length),y<i→ls[y]≠x)∧hh=h.alloc (.cells c3 false false)∧F=[(1,.int .i64 x),(2,.pointer (some ⟨h.next,0,none⟩)),(5,.int .i64 i)]
theorem Place_spec(g:CompG G){ls:List Int}{x:Int}{lv iv tv:Value}(s:SlV 1 h ls.length (ls.flatMap bytC) lv)(hls:ls.length≤1000)(hb:∀y∈ls,0≤y∧y<256)(k:∀h1,Ext h h1→R (.int .i64 (placeI ls x)) h1):
  WC G 281 [.agg #[lv,iv,tv],.int .i64 x] h R:=by
 refine WC_enter g.g281 rfl ?_
 show W G c281_body _ _ (retK [.tmp 4] R)
 unfold c281_body c281_0 c281_1
 simp -implicitDefEqProofs
 refine W_loop (inv281 h ls x [lv,iv,tv]) ls.length ⟨0,rfl,Nat.zero_le _,by omega,rfl,rfl⟩ ?_
 rintro mm F hh ⟨i,rfl,hi,hno,rfl,rfl⟩
 have kk:=k _ ((Ext.refl h).alloc (.cells [lv,iv,tv] false false))
 unfold c281_6 c281_2 c281_3 c281_4 c281_5 c281_7
 by_cases h1:i<ls.length
 ·have hw:IntKind.i64.wrap ((i:Int)+1)=((i+1:Nat):Int):=by rw[wrap64 (by omega)];rfl
  obtain⟨b,o,sp,c,c0,g',ro',hv,e2,e3,e4,e5,e6⟩:=s.row bytC_length h1
  have e60:=e6 0 (by omega)
  simp[bytC]at e60
  have hbx:=hb ls[i] (List.getElem_mem h1)
  have hw2:IntKind.i64.wrap ls[i]=ls[i]:=wrap64 (by omega)
  subst hv
  by_cases h2:ls[i]=x
  ·have hw3:IntKind.i64.wrap x=x:=by rw[←h2];exact hw2
   simp -implicitDefEqProofs[h1,e3,e60,show b≠h.next by omega,hw3,h2]
   rw[placeI_hit h1 hno h2]at kk
   exact kk
  ·simp -implicitDefEqProofs[h1,e3,e60,show b≠h.next by omega,hw2,h2,hw]
   refine⟨ls.length-(i+1),by omega,i+1,rfl,h1,fun y hy hyi=>?_,rfl,rfl⟩
   by_cases e:y=i
   ·subst e;exact h2
   ·exact hno y hy (by omega)
 ·obtain⟨la,lc,rfl⟩:=s.len
  simp -implicitDefEqProofs[h1]
  rw[placeI_none fun y hy=>hno y hy (by omega)]at kk
  exact kk
def nil3:List Value:=[.slice none 0 0,.slice none 0 0,.slice none 0 0]
structure CmM(hm hh:AH)(lv:Value)(init:List Int)(ths:List (List Ins)):Prop where
 ext:Ext hm hh
 hi:hm.next<hh.next
 p:∃iv tv tvs,hh.get hm.next=.cells [lv,iv,tv] false false∧SlG 1 hh (hm.next+1) init.length (init.flatMap intC) iv∧(init=[]→iv=.slice none 0 0)∧
  SlG 1 hh (hm.next+1) ths.length tvs tv∧All2 (InsG hh (hm.next+1)) ths tvs∧(ths=[]→tv=.slice none 0 0)
theorem CmM.more{hm hh h1:AH}{lv:Value}{init:List Int}{ths:List (List Ins)}(M:CmM hm hh lv init ths)(x:Ext hh h1):CmM hm h1 lv init ths:=by
 obtain⟨iv,tv,tvs,t1,t2,t3,t4,t5,t6⟩:=M.p
 exact⟨M.ext.trans x,Nat.lt_of_lt_of_le M.hi x.next,iv,tv,tvs,by rw[x.get _ M.hi];exact t1,t2.ext x,t3,t4.ext x,t5.imp fun l u _ _ hp=>⟨hp.1.ext x,hp.2⟩,t6⟩
theorem intC_int{l:List Int}(h:l≠[]):∃n:Int,Value.int .i64 n∈l.flatMap intC:=by
 cases l with
 | nil=>exact absurd rfl h
 | cons i l=>exact⟨i,by simp[intC]⟩
theorem CmM.init{hm hh:AH}{lv iv tv:Value}{init:List Int}{n:Int}{K:Value→AH→Prop}(M:CmM hm hh lv init [])(hlen:init.length≤1000)(ht:hh.get hm.next=.cells [lv,iv,tv] false false)
  (hK:∀v' h',h'.get hm.next=hh.get hm.next→CmM hm (h'.put hm.next (.cells [lv,v',tv] false false)) lv (init++[n]) []→(∃a n c,v'=.slice a n c)→K v' h'):
  getvh (sappend (hh.alloc (.cells [.int .i64 n] false false)) 1 8 iv (.slice (some ⟨hh.next,0,none⟩) 1 1)) K:=by
 obtain⟨iv',tv',tvs,t1,t2,t3,t4,t5,t6⟩:=M.p
 rw[ht]at t1
 simp only[ABlk.cells.injEq,List.cons.injEq,and_true,true_and]at t1
 obtain⟨rfl,rfl⟩:=t1
 obtain rfl:=t6 rfl
 have hn:=M.hi
 refine t2.app3 (j:=1) (ec:=[.int .i64 n]) rfl (by omega) (by omega) (by omega) fun v' h' s' n' g' _ keep=>?_
 refine hK v' h' (g' _ (by omega)) ⟨⟨by have:=M.ext.next;simp;omega,fun y hy=>by simp[show y≠hm.next by omega,g' y (by omega),M.ext.get y hy]⟩,by simp;omega,v',.slice none 0 0,[],by simp,?_,fun e=>by simp at e,SlG.nil,.nil,fun _=>rfl⟩ s'.is_slice
 rw[List.length_append,List.flatMap_append]
 exact SlG.ext1 (x:=h') (b:=hm.next) s' ((Ext1.refl h').put) (by omega)
theorem CmM.thread{hm hh:AH}{lv iv tv s:Value}{init:List Int}{ths:List (List Ins)}{li:List Ins}{K:Value→AH→Prop}(M:CmM hm hh lv init ths)(hs:InsG hh (hm.next+1) li s)(hlen:ths.length≤1000)(ht:hh.get hm.next=.cells [lv,iv,tv] false false)
  (hK:∀v' h',h'.get hm.next=hh.get hm.next→CmM hm (h'.put hm.next (.cells [lv,iv,v'] false false)) lv init (ths++[li])→(∃a n c,v'=.slice a n c)→K v' h'):
  getvh (sappend (hh.alloc (.cells [s] false false)) 1 24 tv (.slice (some ⟨hh.next,0,none⟩) 1 1)) K:=by
 obtain⟨iv',tv',tvs,t1,t2,t3,t4,t5,t6⟩:=M.p
 rw[ht]at t1
 simp only[ABlk.cells.injEq,List.cons.injEq,and_true,true_and]at t1
 obtain⟨rfl,rfl⟩:=t1
 have hn:=M.hi
 have notin:∀n:Int,Value.int .i64 n∉tvs:=fun n hn=>by
  obtain⟨l,_,hp⟩:=t5.mem hn
  obtain⟨_,_,_,e⟩:=hp.1.is_slice
  simp at e
 refine t4.app3 (j:=1) (ec:=[s]) rfl (by omega) (by omega) (by omega) fun v' h' s' n' g' _ keep=>?_
 have kins:∀(l:List Ins) u,InsG hh (hm.next+1) l u→InsG h' (hm.next+1) l u:=fun l u hp=>by
  refine⟨keep _ _ _ _ _ hp.1 ?_,hp.2⟩
  by_cases hl:l=[]
  ·exact .inl (hp.2 hl)
  ·obtain⟨n,hn⟩:=ins_int hl
   exact .inr ⟨_,hn,notin n⟩
 have kini:SlG 1 h' (hm.next+1) init.length (init.flatMap intC) iv:=by
  refine keep _ _ _ _ _ t2 ?_
  by_cases hl:init=[]
  ·exact .inl (t3 hl)
  ·obtain⟨n,hn⟩:=intC_int hl
   exact .inr ⟨_,hn,notin n⟩
 have xp:∀o,Ext1 hm.next h' (h'.put hm.next o):=fun o=>(Ext1.refl h').put
 refine hK v' h' (g' _ (by omega)) ⟨⟨by have:=M.ext.next;simp;omega,fun y hy=>by simp[show y≠hm.next by omega,g' y (by omega),M.ext.get y hy]⟩,by simp;omega,iv,v',tvs++[s],by simp,kini.ext1 (xp _) (by omega),t3,?_,?_,fun e=>by simp at e⟩ s'.is_slice
 ·rw[List.length_append]
  exact s'.ext1 (xp _) (by omega)
 ·exact(t5.imp fun l u _ _ hp=>(⟨(kins l u hp).1.ext1 (xp _) (by omega),hp.2⟩:InsG _ _ l u)).snoc ⟨(kins li s hs).1.ext1 (xp _) (by omega),hs.2⟩
end Go.Jq
namespace Go.Jq
variable {G:Nat→SFunc} {h:AH} {R:Value→AH→Prop}
def cmpI(ls:List Int)(x:Ins):Ins:=if x.loc=0 then x else{ x with loc:=placeI ls x.loc }
theorem letters_mem{f:Nat→Bool}{x:Int}(h:lP x)(hf:f x.toNat=true):x∈letters f:=by
 unfold letters lettersN
 refine List.mem_map.2 ⟨x.toNat,List.mem_filter.2 ⟨?_,hf⟩,?_⟩
 ·rcases h with rfl|rfl|rfl<;>decide
 ·rcases h with rfl|rfl|rfl<;>rfl
theorem letters_len{f:Nat→Bool}:(letters f).length≤3:=by
 unfold letters lettersN
 rw[List.length_map]
 exact List.length_filter_le _ _
theorem letters_byte{f:Nat→Bool}:∀y∈letters f,0≤y∧y<256:=by
 intro y hy
 unfold letters lettersN at hy
 rw[List.mem_map]at hy
 obtain⟨i,hi,rfl⟩:=hy
 have:=(List.mem_filter.1 hi).1
 simp at this
 omega
def plP(n:Nat)(x:Int):Prop:=0≤x∧x<n
theorem iOk.cmp{ls:List Int}{x:Ins}(h:iOk lP x)(hm:lP x.loc→x.loc∈ls):iOk (plP ls.length) (cmpI ls x):=by
 have n0:lP x.loc→x.loc≠0:=fun h=>by unfold lP at h;omega
 have pm:∀h:lP x.loc,plP ls.length (placeI ls x.loc):=fun h=>placeI_mem (hm h)
 unfold iOk at h ⊢
 rcases h with h|h|h|h|h|h
 ·have e:cmpI ls x={ x with loc:=placeI ls x.loc }:=if_neg (n0 h.2.1)
  rw[e];exact .inl ⟨h.1,pm h.2.1,h.2.2⟩
 ·have e:cmpI ls x={ x with loc:=placeI ls x.loc }:=if_neg (n0 h.2.1)
  rw[e];exact .inr (.inl ⟨h.1,pm h.2.1,h.2.2⟩)
 ·have e:cmpI ls x=x:=if_pos h.2
  rw[e];exact .inr (.inr (.inl h))
 ·have e:cmpI ls x={ x with loc:=placeI ls x.loc }:=if_neg (n0 h.2.1)
  rw[e];exact .inr (.inr (.inr (.inl ⟨h.1,pm h.2.1,h.2.2⟩)))
 ·have e:cmpI ls x=x:=if_pos h.2.1
  rw[e];exact .inr (.inr (.inr (.inr (.inl h))))
 ·have e:cmpI ls x=x:=if_pos h.2.1
  rw[e];exact .inr (.inr (.inr (.inr (.inr h))))
theorem cmpI_kind{ls:List Int}{x:Ins}:(cmpI ls x).kind=x.kind:=by unfold cmpI;split<;>rfl
theorem TOk.cmp{ls:List Int}{l:List Ins}(h:TOk lP l)(hm:∀x∈l,lP x.loc→x.loc∈ls):TOk (plP ls.length) (l.map (cmpI ls)):=by
 refine⟨fun i hi=>?_,fun i hi=>?_,fun i hi=>?_,fun k hk e=>?_⟩
 ·obtain⟨x,hx,rfl⟩:=List.mem_map.1 hi
  exact(h.ok x hx).cmp (hm x hx)
 ·obtain⟨x,hx,rfl⟩:=List.mem_map.1 hi
  have:=h.val x hx
  unfold cmpI
  split
  ·exact this
  ·exact this
 ·obtain⟨x,hx,rfl⟩:=List.mem_map.1 hi
  have:=h.fld x hx
  unfold cmpI
  split
  ·exact this
  ·rename_i q
   unfold fOk at this ⊢
   rcases this with a|a|a|a|a|a
   ·exact .inl a
   ·exact .inr (.inl a)
   ·exact absurd a.2.2.1 q
   ·exact .inr (.inr (.inr (.inl a)))
   ·exact absurd a.2.1 q
   ·exact absurd a.2.2.1 q
 ·rw[List.length_map]at hk ⊢
  rw[List.getElem_map,cmpI_kind]at e
  exact h.skip k hk e
theorem memN_cmp{ls:List Int}{l:List Ins}:memN (l.map (cmpI ls))=memN l:=by
 unfold memN
 rw[List.filter_map,List.length_map]
 congr 1
 refine List.filter_congr fun x _=>?_
 simp[Function.comp,isMem,cmpI_kind]
structure Prg where
 locs:List Int
 init:List Int
 ths:List (List Ins)
structure PrgV(h:AH)(p:Prg)(lv iv tv:Value):Prop where
 locs:SlV 1 h p.locs.length (p.locs.flatMap bytC) lv
 init:SlV 1 h p.init.length (p.init.flatMap intC) iv
 ths:Nest Ins.c 9 h p.ths tv
theorem PrgV.ext{h1:AH}{p:Prg}{lv iv tv:Value}(v:PrgV h p lv iv tv)(x:Ext h h1):PrgV h1 p lv iv tv:=⟨v.locs.ext x,v.init.ext x,v.ths.ext x⟩
structure PrgOk(most:Nat)(p:Prg):Prop where
 locs:∃f,SeenOk f∧p.locs=letters f
 init:p.init.length=p.locs.length
 ths:p.ths.length=2∨p.ths.length=3
 ok:∀l∈p.ths,TOk (plP p.locs.length) l∧l.length≤6
 mem:(p.ths.map memN).sum≤most
 ini:∀x∈p.init,0≤x∧x≤65535
theorem PrgOk.locs_len{most:Nat}{p:Prg}(o:PrgOk most p):p.locs.length≤3:=by
 obtain⟨f,_,e⟩:=o.locs
 rw[e];exact letters_len
def fr274(h hm:AH)(r:Fr):Fr:=(1,.pointer (some ⟨h.next,0,none⟩))::(2,.pointer (some ⟨h.next+1,0,none⟩))::(3,.pointer (some ⟨hm.next,0,none⟩))::r
def inv274a(h hm hh:AH)(i:Int)(n:Nat)(mm:Nat)(F:Fr)(h':AH):Prop:=
 ∃(k:Nat) (z:Int),mm=n-k∧k≤n∧h'=hh∧(0≤z∧z≤65535)∧F=fr274 h hm [(4,.int .i64 i),(5,.int .i64 z),(6,.int .i64 k)]
theorem loop274a{hm hh:AH}{name lv iv tv ck av iv2 tv2:Value}{inits:List (Int×Int)}{ls:List Int}{i:Nat}{R:SExit→Fr→AH→Prop}
  (g1:hh.get h.next=.cells [name,iv,tv,ck,av] false false)(g3:hh.get hm.next=.cells [lv,iv2,tv2] false false)(s:SlV 2 hh inits.length (inits.flatMap i2c) iv)(sl:SlV 1 hh ls.length (ls.flatMap bytC) lv)
  (hi:i<ls.length)(hn:inits.length≤1000)(hb:∀y∈ls,0≤y∧y<256)(hls:ls.length≤1000)
  (hz:∀x∈inits,0≤x.2∧x.2≤65535)(hR:∀(z k:Int),(0≤z∧z≤65535)→R (.exit 2) (fr274 h hm [(4,.int .i64 i),(5,.int .i64 z),(6,.int .i64 k),(25,.bool false)]) hh):
  W G (.loop [1,2,3,4,5,6] c274_10) (fr274 h hm [(4,.int .i64 i),(5,.int .i64 0),(6,.int .i64 0)]) hh R:=by
 refine W_loop (inv274a h hm hh i inits.length) inits.length ⟨0,0,rfl,by omega,rfl,by omega,rfl⟩ ?_
 rintro mm F h' ⟨k,z,rfl,hk,rfl,hzz,rfl⟩
 unfold c274_10 c274_6 c274_7 c274_8 c274_9 fr274
 by_cases h1:k<inits.length
 ·obtain⟨b,o,sp,c,c0,g,ro,rfl,e2,e3,e4,e5,e6⟩:=s.row i2c_length h1
  obtain⟨b',o',sp',c',c0',g',ro',rfl,f2,f3,f4,f5,f6⟩:=sl.row bytC_length hi
  have a0:=e6 0 (by omega)
  have a1:=e6 1 (by omega)
  have b0:=f6 0 (by omega)
  simp[i2c]at a0 a1
  simp[bytC]at b0
  have hw:IntKind.i64.wrap ((k:Int)+1)=((k+1:Nat):Int):=by rw[wrap64 (by omega)];rfl
  have hbx:=hb ls[i] (List.getElem_mem hi)
  have hw2:IntKind.i64.wrap ls[i]=ls[i]:=wrap64 (by omega)
  by_cases h2:inits[k].1=ls[i]
  ·simp -implicitDefEqProofs[g1,g3,h1,hi,e3,f3,a0,a1,b0,hw,hw2,h2]
   exact⟨inits.length-(k+1),by omega,k+1,inits[k].2,rfl,h1,rfl,hz _ (List.getElem_mem h1),rfl⟩
  ·simp -implicitDefEqProofs[g1,g3,h1,hi,e3,f3,a0,a1,b0,hw,hw2,h2]
   exact⟨inits.length-(k+1),by omega,k+1,z,rfl,h1,rfl,hzz,rfl⟩
 ·obtain⟨sa,sc,rfl⟩:=s.len
  simp -implicitDefEqProofs[g1,h1]
  exact hR z k hzz
def inv274b(h hm:AH)(lv:Value)(n:Nat)(mm:Nat)(F:Fr)(hh:AH):Prop:=
 ∃(i:Nat) (init:List Int),mm=n-i∧i≤n∧init.length=i∧(∀x∈init,0≤x∧x≤65535)∧CmM hm hh lv init []∧F=fr274 h hm [(4,.int .i64 i)]
theorem loop274b{hm hh:AH}{name lv iv tv ck av:Value}{inits:List (Int×Int)}{ls:List Int}{R:SExit→Fr→AH→Prop}(hh1:h.next+2≤hm.next)
  (g1:hm.get h.next=.cells [name,iv,tv,ck,av] false false)(s:SlV 2 hm inits.length (inits.flatMap i2c) iv)(sl:SlV 1 hm ls.length (ls.flatMap bytC) lv)
  (hn:inits.length≤1000)(hb:∀y∈ls,0≤y∧y<256)(hls:ls.length≤1000)(M:CmM hm hh lv [] [])
  (hz:∀x∈inits,0≤x.2∧x.2≤65535)(hR:∀(i:Int) (h1:AH) (init:List Int),init.length=ls.length→(∀x∈init,0≤x∧x≤65535)→CmM hm h1 lv init []→R (.exit 0) (fr274 h hm [(4,.int .i64 i),(18,.bool false)]) h1):
  W G (.loop [1,2,3,4] c274_13) (fr274 h hm [(4,.int .i64 0)]) hh R:=by
 refine W_loop (inv274b h hm lv ls.length) ls.length ⟨0,[],rfl,by omega,rfl,by simp,M,rfl⟩ ?_
 rintro mm F hh ⟨i,init,rfl,hi,hl,hzi,M,rfl⟩
 obtain⟨iv2,tv2,tvs,t1,t2,t3,t4,t5,t6⟩:=M.p
 obtain⟨la,lc,elv⟩:=sl.len
 unfold c274_13 c274_3 c274_4 c274_5 fr274
 have hlen:lv=.slice la ls.length lc:=elv
 have t1':hh.get hm.next=.cells [.slice la ls.length lc,iv2,tv2] false false:=by rw[t1,hlen]
 by_cases h1:i<ls.length
 ·simp -implicitDefEqProofs[t1',h1]
  have hw:IntKind.i64.wrap ((i:Int)+1)=((i+1:Nat):Int):=by rw[wrap64 (by omega)];rfl
  refine loop274a (hh:=hh) (lv:=lv) (iv2:=iv2) (tv2:=tv2) (by rw[M.ext.get _ (by omega)];exact g1) t1 (s.ext M.ext) (sl.ext M.ext) h1 hn hb hls hz fun z k hzz=>?_
  simp -implicitDefEqProofs[fr274,c274_11,t1']
  refine M.init (by omega) t1 fun v' h' e' M' hv'=>?_
  obtain⟨va,vn,vc,rfl⟩:=hv'
  rw[t1]at e'
  simp -implicitDefEqProofs[e',c274_12,hw]
  exact⟨ls.length-(i+1),by omega,i+1,init++[z],rfl,h1,by simp[hl],fun x hx=>by
   rcases List.mem_append.1 hx with hx|hx
   ·exact hzi x hx
   ·simp only[List.mem_singleton]at hx;subst hx;exact hzz,M',rfl⟩
 ·simp -implicitDefEqProofs[t1',h1]
  exact hR i hh init (by omega) hzi M
theorem InsG.ext{hh h1:AH}{lo:Nat}{l:List Ins}{u:Value}(g:InsG hh lo l u)(x:Ext hh h1):InsG h1 lo l u:=⟨g.1.ext x,g.2⟩
def inv274c(h hm h0:AH)(lv:Value)(ls:List Int)(i:Int)(l:List Ins)(mm:Nat)(F:Fr)(hh:AH):Prop:=
 ∃(k:Nat) (s:Value),mm=l.length-k∧k≤l.length∧Ext h0 hh∧InsG hh h0.next ((l.take k).map (cmpI ls)) s∧F=fr274 h hm [(7,.int .i64 i),(8,s),(9,.int .i64 k)]
theorem loop274c(g:CompG G){hm h0:AH}{name lv iv tv ck av:Value}{init:List Int}{done:List (List Ins)}{ths:List (List Ins)}{ls:List Int}{i:Nat}{R:SExit→Fr→AH→Prop}(hh1:h.next+2≤hm.next)
  (g1:hm.get h.next=.cells [name,iv,tv,ck,av] false false)(st:Nest Ins.c 9 hm ths tv)(sl:SlV 1 hm ls.length (ls.flatMap bytC) lv)
  (hb:∀y∈ls,0≤y∧y<256)(hls:ls.length≤1000)(M:CmM hm h0 lv init done)(hi:i<ths.length)(hl:ths[i].length≤1000)
  (hR:∀(k:Int) (h1:AH) (s:Value),Ext h0 h1→InsG h1 h0.next (ths[i].map (cmpI ls)) s→R (.exit 6) (fr274 h hm [(7,.int .i64 i),(8,s),(9,.int .i64 k),(67,.bool false)]) h1):
  W G (.loop [1,2,3,7,8,9] c274_24) (fr274 h hm [(7,.int .i64 i),(8,.slice none 0 0),(9,.int .i64 0)]) h0 R:=by
 refine W_loop (inv274c h hm h0 lv ls i ths[i]) ths[i].length ⟨0,_,rfl,by omega,Ext.refl _,⟨SlG.nil,fun _=>rfl⟩,rfl⟩ ?_
 rintro mm F hh ⟨k,s,rfl,hk,x,sg,rfl⟩
 have M1:=M.more x
 obtain⟨iv2,tv2,tvs,t1,_⟩:=M1.p
 have g1':hh.get h.next=.cells [name,iv,tv,ck,av] false false:=by rw[M1.ext.get _ (by omega)];exact g1
 obtain⟨b,o,sp,c,c0,gg,ro,u,rfl,e2,e3,e4,e5⟩:=(st.ext M1.ext).at hi
 have hnx:=M1.ext.next
 have hnh:=M.hi
 have hxn:=x.next
 unfold c274_24 c274_18 c274_19 c274_20 fr274
 by_cases h1:k<ths[i].length
 ·obtain⟨b',o',sp',c',c0',g',ro',rfl,f2,f3,f4,f5,f6⟩:=e5.row Ins.c_length h1
  have hw:IntKind.i64.wrap ((k:Int)+1)=((k+1:Nat):Int):=by rw[wrap64 (by omega)];rfl
  have lc:(ths[i][k].c).length=9:=rfl
  have p1:h.next≠hh.next:=by omega
  have p2:b'≠hh.next:=by omega
  have p3:hm.next≠hh.next:=by omega
  have cloc:∀hp:2<(ths[i][k]).c.length,(ths[i][k]).c[2]'hp=.int .i64 ths[i][k].loc:=fun _=>rfl
  have finish:∀(y:Ins) (h2:AH),y=cmpI ls ths[i][k]→Ext h0 h2→InsG h2 h0.next ((ths[i].take k).map (cmpI ls)) s→h2.get hh.next=.cells y.c false false→hh.next<h2.next→
    W G (.reg [1,2,3,7,8,9] c274_22) [(1,.pointer (some ⟨h.next,0,none⟩)),(2,.pointer (some ⟨h.next+1,0,none⟩)),(3,.pointer (some ⟨hm.next,0,none⟩)),(7,.int .i64 i),(8,s),(9,.int .i64 k),(10,.pointer (some ⟨hh.next,0,none⟩))] h2
     (blockK 7 (thenK (W G (.reg [1,2,3,7,8,9] c274_23)) (loopK (fun F1 h1=>∃m,m<ths[i].length-k∧inv274c h hm h0 lv ls i ths[i] m F1 h1) R))):=by
   intro y h2 hy x2 sg2 gy hn2
   unfold c274_22
   have ly:y.c.length=9:=rfl
   simp -implicitDefEqProofs[gy,ly,splice,show zi 9=[.int .i64 0,.int .i64 0,.int .i64 0,.int .i64 0,.int .i64 0,.int .i64 0,.int .i64 0,.int .i64 0,.int .i64 0] from rfl]
   have hlen:((ths[i].take k).map (cmpI ls)).length=k:=by simp;omega
   refine sg2.1.app1 (h0:=h0) (ec:=y.c) rfl (by omega) x2 (Nat.le_refl _) x2.next fun v' h' s' x'=>?_
   simp -implicitDefEqProofs[c274_23,hw]
   have et:(ths[i].take (k+1)).map (cmpI ls)=(ths[i].take k).map (cmpI ls)++[y]:=by
    rw[List.take_add_one,List.getElem?_eq_getElem h1,List.map_append]
    simp[hy]
   refine⟨ths[i].length-(k+1),by omega,k+1,v',rfl,h1,x',⟨?_,?_⟩,rfl⟩
   ·rw[et,List.length_append,List.flatMap_append]
    simpa using s'
   ·intro e
    rw[et]at e
    simp at e
  simp -implicitDefEqProofs only[W_reg]at finish
  by_cases h2:ths[i][k].loc=0
  ·have cy:cmpI ls ths[i][k]=ths[i][k]:=if_pos h2
   simp -implicitDefEqProofs[g1',h1,e3,e4,f3,f4,f5,hi,lc,splice,zi,cloc,h2]
   refine finish _ _ cy.symm ((x.alloc _).put (by omega) _) ⟨sg.1.ext (((Ext.refl hh).alloc _).put (Nat.le_refl _) _),sg.2⟩ (by simp) (by simp)
  ·have cy:cmpI ls ths[i][k]={ ths[i][k]with loc:=placeI ls ths[i][k].loc }:=if_neg h2
   simp -implicitDefEqProofs[g1',h1,e3,e4,f3,f4,f5,hi,lc,splice,zi,cloc,h2]
   simp -implicitDefEqProofs[c274_21,t1,p3,zi,cloc,lc]
   have x1:Ext hh ((hh.alloc (.cells [.int .i64 0,.int .i64 0,.int .i64 0,.int .i64 0,.int .i64 0,.int .i64 0,.int .i64 0,.int .i64 0,.int .i64 0] false false)).put hh.next (.cells (ths[i][k]).c false false)):=((Ext.refl hh).alloc _).put (Nat.le_refl _) _
   refine Place_spec g (ls:=ls) ((sl.ext M1.ext).ext x1) hls hb fun h3 x3=>?_
   have g3:h3.get hh.next=.cells (ths[i][k]).c false false:=by rw[x3.get _ (by simp)];simp
   have n3:=x3.next
   simp at n3
   simp -implicitDefEqProofs[g3,lc]
   have xx:Ext hh (h3.put hh.next (.cells (({ ths[i][k]with loc:=placeI ls ths[i][k].loc }:Ins)).c false false)):=(x1.trans x3).put (Nat.le_refl _) _
   refine finish _ _ cy.symm (x.trans xx) ⟨sg.1.ext xx,sg.2⟩ (by simp;rfl) (by simp;omega)
 ·obtain⟨sa,sc,rfl⟩:=e5.len
  simp -implicitDefEqProofs[g1',hi,e3,e4,h1]
  have:ths[i].take k=ths[i]:=List.take_of_length_le (by omega)
  rw[this]at sg
  exact hR k hh s x sg
def inv274d(h hm:AH)(lv:Value)(init:List Int)(ls:List Int)(ths:List (List Ins))(mm:Nat)(F:Fr)(hh:AH):Prop:=
 ∃i:Nat,mm=ths.length-i∧i≤ths.length∧CmM hm hh lv init ((ths.take i).map fun l=>l.map (cmpI ls))∧F=fr274 h hm [(7,.int .i64 i)]
theorem loop274d(g:CompG G){hm hh:AH}{name lv iv tv ck av:Value}{init:List Int}{ths:List (List Ins)}{ls:List Int}{R:SExit→Fr→AH→Prop}(hh1:h.next+2≤hm.next)
  (g1:hm.get h.next=.cells [name,iv,tv,ck,av] false false)(st:Nest Ins.c 9 hm ths tv)(sl:SlV 1 hm ls.length (ls.flatMap bytC) lv)
  (hb:∀y∈ls,0≤y∧y<256)(hls:ls.length≤1000)(M:CmM hm hh lv init [])(hn:ths.length≤1000)(hl:∀l∈ths,l.length≤1000)
  (hR:∀(i:Int) (h1:AH),CmM hm h1 lv init (ths.map fun l=>l.map (cmpI ls))→R (.exit 4) (fr274 h hm [(7,.int .i64 i),(57,.bool false)]) h1):
  W G (.loop [1,2,3,7] c274_27) (fr274 h hm [(7,.int .i64 0)]) hh R:=by
 refine W_loop (inv274d h hm lv init ls ths) ths.length ⟨0,rfl,by omega,M,rfl⟩ ?_
 rintro mm F hh ⟨i,rfl,hi,M,rfl⟩
 have g1':hh.get h.next=.cells [name,iv,tv,ck,av] false false:=by rw[M.ext.get _ (by omega)];exact g1
 obtain⟨ta,tc,etv⟩:=st.len
 rw[etv]at g1'
 obtain⟨iv2,tv2,tvs,t1,_⟩:=M.p
 unfold c274_27 c274_15 c274_16 c274_17 fr274
 have hnh:=M.hi
 by_cases h1:i<ths.length
 ·have hw:IntKind.i64.wrap ((i:Int)+1)=((i+1:Nat):Int):=by rw[wrap64 (by omega)];rfl
  simp -implicitDefEqProofs[g1',h1]
  refine loop274c g hh1 g1 st sl hb hls M h1 (hl _ (List.getElem_mem h1)) fun k h2 s x sg=>?_
  have M2:=M.more x
  have t1':h2.get hm.next=.cells [lv,iv2,tv2] false false:=by rw[x.get _ hnh];exact t1
  obtain⟨sa,sn,sc,rfl⟩:=sg.1.is_slice
  simp -implicitDefEqProofs[fr274,c274_25,t1']
  refine M2.thread ⟨sg.1.low (by omega),sg.2⟩ (by simp;omega) t1' fun v' h' e' M' hv'=>?_
  obtain⟨va,vn,vc,rfl⟩:=hv'
  rw[t1']at e'
  simp -implicitDefEqProofs[e',c274_26,hw]
  refine⟨ths.length-(i+1),by omega,i+1,rfl,h1,?_,rfl⟩
  have et:(ths.take (i+1)).map (fun l=>l.map (cmpI ls))=(ths.take i).map (fun l=>l.map (cmpI ls))++[ths[i].map (cmpI ls)]:=by
   rw[List.take_add_one,List.getElem?_eq_getElem h1,List.map_append]
   simp
  rw[et];exact M'
 ·simp -implicitDefEqProofs[g1',h1]
  have:ths.take i=ths:=List.take_of_length_le (by omega)
  rw[this]at M
  exact hR i hh M
end Go.Jq
namespace Go.Jq
variable {G:Nat→SFunc} {h:AH} {R:Value→AH→Prop}
theorem TstV.ext{h1:AH}{t:Tst}{iv tv av:Value}(v:TstV h t iv tv av)(x:Ext h h1):TstV h1 t iv tv av:=by
 obtain⟨tvs,a1,a2⟩:=v.ths
 obtain⟨rvs,b1,b2⟩:=v.rows
 exact⟨v.init.ext x,⟨tvs,a1.ext x,a2.imp fun _ _ _ _ s=>s.ext x⟩,⟨rvs,b1.ext x,b2.imp fun _ _ _ _ s=>s.ext x⟩⟩
theorem SlG.up{k:Nat}{x y:AH}{lo n:Nat}{cs:List Value}{v:Value}(s:SlG k x lo n cs v)(hn:x.next≤y.next)(hg:∀i,lo≤i→i<x.next→y.get i=x.get i):SlG k y lo n cs v:=by
 obtain⟨s1,s2⟩:=s
 refine⟨s1,?_⟩
 rcases s2 with s2|⟨b,f1,f2,f3,f4⟩
 ·exact .inl s2
 ·exact .inr ⟨b,f1,Nat.lt_of_lt_of_le f2 hn,by rw[hg b f1 f2];exact f3,f4⟩
structure PrgS(h:AH)(lo:Nat)(p:Prg)(lv iv tv:Value):Prop where
 locs:SlG 1 h lo p.locs.length (p.locs.flatMap bytC) lv
 init:SlG 1 h lo p.init.length (p.init.flatMap intC) iv
 ths:∃tvs,SlG 1 h lo p.ths.length tvs tv∧All2 (fun(l:List Ins) u=>SlG 9 h lo l.length (l.flatMap Ins.c) u) p.ths tvs
theorem PrgS.view{lo:Nat}{p:Prg}{lv iv tv:Value}(s:PrgS h lo p lv iv tv):PrgV h p lv iv tv:=by
 obtain⟨a,b,tvs,c,d⟩:=s
 exact⟨a.view,b.view,tvs,c.view,d.imp fun _ _ _ _ e=>e.view⟩
theorem Compile_spec(g:CompG G){iv tv av name:Value}{ck:Int}{t:Tst}{most:Nat}(V:TstV h t iv tv av)(O:TstOk most t)
  (k:∀h1 p lv iv tv,Ext h h1→(∀y,h1.next≤y.next→(∀i,h.next≤i→i<h1.next→y.get i=h1.get i)→PrgS y h.next p lv iv tv)→PrgOk most p→R (.agg #[lv,iv,tv]) h1):WC G 274 [.agg #[name,iv,tv,.int .i64 ck,av]] h R:=by
 refine WC_enter g.g274 rfl ?_
 show W G c274_body _ _ (retK [.cellN 2 3] R)
 unfold c274_body c274_0 c274_1
 have x0:Ext h ((h.alloc (.cells [name,iv,tv,.int .i64 ck,av] false false)).alloc (.cells nil3 false false)):=((Ext.refl h).alloc _).alloc _
 unfold nil3 at x0
 simp -implicitDefEqProofs
 refine Locs_spec g.toLocsG (V.ext x0) O fun h2 f lv x2 so hall sl=>?_
 have n2:=x2.next
 simp at n2
 have sl1:SlG 1 h2 (h.next+2) (letters f).length ((letters f).flatMap bytC) lv:=sl
 obtain⟨la,lc,elv⟩:=sl1.len
 have gt:h2.get h.next=.cells [name,iv,tv,.int .i64 ck,av] false false:=by rw[x2.get _ (by simp)];simp
 have go:h2.get (h.next+1)=.cells [.slice none 0 0,.slice none 0 0,.slice none 0 0] false false:=by rw[x2.get _ (by simp)];simp
 have M0:CmM h2 ((h2.alloc (.cells [.slice none 0 0,.slice none 0 0,.slice none 0 0] false false)).put h2.next (.cells [lv,.slice none 0 0,.slice none 0 0] false false)) lv [] []:=
  ⟨((Ext.refl h2).alloc _).put (Nat.le_refl _) _,by simp,.slice none 0 0,.slice none 0 0,[],by simp,SlG.nil,fun _=>rfl,SlG.nil,.nil,fun _=>rfl⟩
 rw[elv]at M0 ⊢
 simp -implicitDefEqProofs[splice,c274_2]
 rw[←elv]at M0 ⊢
 have V2:=(V.ext x0).ext x2
 have hlen:=letters_len (f:=f)
 refine loop274b (name:=name) (tv:=tv) (ck:=.int .i64 ck) (av:=av) (by omega) gt V2.init sl1.view (by have:=O.inits;omega) letters_byte (by omega) M0 O.ini fun i h3 init hinit hini M3=>?_
 simp -implicitDefEqProofs[fr274,c274_14]
 refine loop274d g (name:=name) (iv:=iv) (ck:=.int .i64 ck) (av:=av) (by omega) gt V2.ths sl1.view letters_byte (by omega) M3 (by rcases O.ths with h|h<;>omega) (fun l hl=>by have:=(O.ok l hl).2;omega) fun i h4 M4=>?_
 obtain⟨iv2,tv2,tvs,t1,t2,t3,t4,t5,t6⟩:=M4.p
 have hn4:=M4.hi
 have x4:=M4.ext
 have go4:h4.get (h.next+1)=.cells [.slice none 0 0,.slice none 0 0,.slice none 0 0] false false:=by rw[x4.get _ (by omega)];exact go
 have p1:¬h.next+1=h2.next:=by omega
 simp -implicitDefEqProofs[fr274,c274_28,t1,go4,splice]
 refine k _ ⟨letters f,init,t.ths.map fun l=>l.map (cmpI (letters f))⟩ lv iv2 tv2 ?_ (fun y hy gy=>?_) ⟨⟨f,so,rfl⟩,hinit,?_,?_,?_,hini⟩
 ·refine⟨by simp;have:=x4.next;omega,fun y hy=>?_⟩
  rw[AH.put_get,if_neg (by omega),x4.get y (by omega),x2.get y (by simp;omega)]
  exact x0.get y hy
 ·have gy':∀i,h.next+2≤i→i<h4.next→y.get i=h4.get i:=fun i h1 h2=>by
   rw[gy i (by omega) h2,AH.put_get,if_neg (by omega)]
  refine⟨((sl1.ext x4).up hy gy').low (by omega),(t2.up hy fun i h1 h2=>gy' i (by omega) h2).low (by omega),⟨tvs,(t4.up hy fun i h1 h2=>gy' i (by omega) h2).low (by omega),t5.imp fun l u _ _ s=>(s.1.up hy fun i h1 h2=>gy' i (by omega) h2).low (by omega)⟩⟩
 ·show(t.ths.map _).length=2∨(t.ths.map _).length=3
  rw[List.length_map];exact O.ths
 ·intro l hl
  obtain⟨l0,hl0,rfl⟩:=List.mem_map.1 hl
  exact⟨(O.ok l0 hl0).1.cmp fun x hx hp=>letters_mem hp (hall l0 hl0 x hx),by rw[List.length_map];exact(O.ok l0 hl0).2⟩
 ·show((t.ths.map _).map memN).sum≤most
  rw[List.map_map]
  have:(memN∘fun l=>l.map (cmpI (letters f)))=memN:=funext fun l=>memN_cmp
  rw[this];exact O.mem
theorem Of_own(g:CompG G){most:Nat}{lv:Value}{l:List Int}(hmost:most≤1000000)(s:SlV 1 h l.length (l.flatMap intC) lv)(hlen:l.length≤9223372036854775807)
  (k:∀h1 p lv iv tv,Ext h h1→PrgS h1 (h.next+1) p lv iv tv→PrgOk most p→R (.agg #[lv,iv,tv]) h1):WC G 270 [lv,.int .i64 most] h R:=by
 refine WC_enter g.g270 rfl ?_
 show W G c270_body _ _ (retK [.cellN 4 3] R)
 unfold c270_body c270_0 c270_1
 simp -implicitDefEqProofs
 refine Small_spec g.toSmallG hmost (s.ext ((Ext.refl h).alloc _)) hlen fun h1 t iv tv ck av name x1 V O=>?_
 simp -implicitDefEqProofs
 refine Compile_spec g V O fun h2 p lv iv tv x2 PV PO=>?_
 have n1:=x1.next
 have n2:=x2.next
 simp at n1
 have g2:h2.get h.next=.cells [.slice none 0 0,.slice none 0 0,.slice none 0 0] false false:=by rw[x2.get _ (by omega),x1.get _ (by simp)];simp
 simp -implicitDefEqProofs[g2,splice]
 have PV1:=PV (h2.put h.next (.cells [lv,iv,tv] false false)) (by simp) fun i h1 h2=>by rw[AH.put_get,if_neg (by omega)]
 obtain⟨p1,p2,tvs,p3,p4⟩:=PV1
 refine k _ p lv iv tv ⟨by simp;omega,fun y hy=>?_⟩ ⟨p1.low (by omega),p2.low (by omega),tvs,p3.low (by omega),p4.imp fun _ _ _ _ e=>e.low (by omega)⟩ PO
 ·rw[AH.put_get,if_neg (by omega),x2.get y (by omega),x1.get y (by simp;omega)]
  simp[show y≠h.next by omega]
end Go.Jq
namespace Go.Jq
open Go.ChangeShapes Go.WideShapes Go.ChangeAt Go.RowKit Go.Deep
theorem more_slice{C:Ctx}{γ:Gm}{h:AH}(H:HR C γ h C.w0)(hb:C.base=C.w0.heap.size){k B s len cap:Nat}{cs:List Value}(hlen:cs.length=len*k)(hp:cs.all plain1=true)(hcell:∀t,t<len*k→C.w0.cell? ⟨B,s+t,none⟩=cs[t]?)(hk:0<k):
  ∃h' γ' v,HR C γ' h' C.w0∧Sub γ γ'∧Ext h h'∧VR C γ' v (.slice (some ⟨B,s,none⟩) len cap)∧SlV k h' len cs v:=by
 have hg0:γ h.next=none:=H.dom _ (Nat.le_refl _)
 have go:∀(N:Nat) (o:ABlk),o.wr=false→(∀γ',γ' h.next=some (B,s,N)→BR C γ' o (C.w0.heap[B]?) B s N)→HR C (gset γ h.next (B,s,N)) (h.alloc o) C.w0:=by
  intro N o hw hbr
  refine⟨H.below,H.low,fun b B' s' N' e=>?_,fun b b' B' s' N' s'' N'' e1 e2 w1 w2=>?_,fun b hbn=>?_⟩
  ·unfold gset at e
   rw[AH.alloc_get]
   by_cases hbb:b=h.next
   ·rw[if_pos hbb]at e ⊢
    simp only[Option.some.injEq,Prod.mk.injEq]at e
    obtain⟨rfl,rfl,rfl⟩:=e
    exact hbr _ (by simp[gset])
   ·rw[if_neg hbb]at e ⊢
    exact(H.blk b B' s' N' e).mono (gset_sub hg0)
  ·rw[AH.alloc_get]at w1 w2
   by_cases h1:b=h.next
   ·rw[if_pos h1,hw]at w1;simp at w1
   ·by_cases h2:b'=h.next
    ·rw[if_pos h2,hw]at w2;simp at w2
    ·rw[if_neg h1]at w1
     rw[if_neg h2]at w2
     unfold gset at e1 e2
     rw[if_neg h1]at e1
     rw[if_neg h2]at e2
     exact H.inj b b' B' s' N' s'' N'' e1 e2 w1 w2
  ·simp at hbn
   unfold gset
   rw[if_neg (by omega)]
   exact H.dom b (by omega)
 by_cases h0:len=0
 ·subst h0
  refine⟨_,_,.slice (some ⟨h.next,0,none⟩) 0 cap,go 0 .dead rfl (fun _ _=>trivial),gset_sub hg0,(Ext.refl h).alloc _,.slX (o:=0) (N:=0) (by simp[gset]),hlen,.inl ⟨rfl,_,_,rfl⟩⟩
 ·have hpos:0<len*k:=Nat.mul_pos (Nat.pos_of_ne_zero h0) hk
  have hc0:=hcell 0 hpos
  obtain⟨D,E,fl,hD⟩:∃D E fl,C.w0.heap[B]?=some (.cells D E fl):=by
   unfold World.cell? at hc0
   simp only at hc0
   split at hc0
   ·exact⟨_,_,_,by assumption⟩
   ·rw[List.getElem?_eq_getElem (by omega)]at hc0;simp at hc0
  obtain⟨lo,hi⟩:=fl
  have hDt:∀t,t<len*k→D[s+t]?=cs[t]?:=fun t ht=>by rw[←cell_of hD];exact hcell t ht
  have hsz:s+cs.length≤D.size:=by
   have:=hDt (len*k-1) (by omega)
   rw[List.getElem?_eq_getElem (by omega)]at this
   have:=(Array.getElem?_eq_some_iff.1 this).1
   omega
  have hcs:(D.toList.drop s).take cs.length=cs:=by
   apply List.ext_getElem?
   intro t
   by_cases ht:t<cs.length
   ·rw[List.getElem?_take,if_pos ht,List.getElem?_drop,Array.getElem?_toList,hDt t (by omega)]
   ·rw[List.getElem?_eq_none (by simp;omega),List.getElem?_eq_none (by omega)]
  refine⟨_,_,.slice (some ⟨h.next,0,none⟩) len cap,go D.size (.cells cs false true) rfl (fun γ' hγ=>?_),gset_sub hg0,(Ext.refl h).alloc _,.slX (o:=0) (N:=D.size) (by simp[gset]),hlen,.inr ⟨h.next,0,none,cap,cs,false,true,rfl,by simp,by simp,by omega,by simp[←hlen]⟩⟩
  refine⟨D,E,lo,hi,hD,rfl,hsz,by rw[hcs];exact plains_VR hp,fun x hx=>plain1_one (List.all_eq_true.1 hp x hx),fun _=>?_,fun e=>by simp at e⟩
  rw[hb]
  exact(Array.getElem?_eq_some_iff.1 hD).1
theorem slice_spot'{P:Program}{W:World}{base:Nat}{t e:TypeId}{a:Addr}{len cap:Nat}(ht:P.underlying t=some (.slice e))(h:Value.okWide P W .any base t (.slice (some a) len cap)):a.spot=none:=by
 simp only[Value.okWide,ht,Cell.okWide,Cell.ok]at h
 exact h.2.2.2.1
theorem open_ints{H:Type}{enc:TypeId×Value→H}{P:Program}{W:World}{base:Nat}{t e:TypeId}{v:Value}{d:DataW H}{ps:List MemPlace}
  (ht:P.underlying t=some (.slice e))(he:P.underlying e=some (.int .i64))(ce:P.cellsOf e=1)
  (hok:Value.okWide P W .any base t v)(h:DataW.Trod enc P W 0 (fun _=>true) true t v d ps):
  v=.slice none 0 0∨∃B s cap,∃l:List Int,v=.slice (some ⟨B,s,none⟩) l.length cap∧l.length≤maxLen∧∀i,i<l.length→W.cell? ⟨B,s+i,none⟩=(l.flatMap intC)[i]?:=by
 obtain⟨a0,len0,cap0,rfl⟩:=okWide_slice ht hok
 obtain⟨fuel,hf⟩:=h
 rcases open_slice1 ht ce hf with⟨hcs,_⟩|⟨a,len,cap,m,n,V,D,Pl,hcs,_,hl,hm,hmm,_,hel⟩
 ·simp[Value.cells]at hcs
  obtain⟨rfl,rfl,rfl⟩:=hcs
  exact .inl rfl
 ·simp[Value.cells]at hcs
  obtain⟨rfl,rfl,rfl⟩:=hcs
  right
  obtain⟨B,s,sp⟩:=a
  have hsp:=slice_spot' ht hok
  simp only at hsp
  subst hsp
  have hm':m=cap0:=by simpa using hmm
  have key:∀i,i<len0→∃x:Int,W.cell? ⟨B,s+i,none⟩=some (.int .i64 x):=by
   intro i hi
   obtain⟨hc,hd⟩:=hel i (by omega)
   obtain⟨x,e0,_⟩:=DataW.trod_int he hd
   simp at e0
   have ea:(⟨B,s,none⟩:Addr).add i=⟨B,s+i,none⟩:=by
    unfold Addr.add
    split<;>simp_all
   rw[ea,e0]at hc
   exact⟨x,hc⟩
  have lo:∀n:Nat,(∀i,i<n→∃x:Int,W.cell? ⟨B,s+i,none⟩=some (.int .i64 x))→∃l:List Int,l.length=n∧∀i (hi:i<l.length),W.cell? ⟨B,s+i,none⟩=some (.int .i64 l[i]):=by
   intro n
   induction n with
   | zero=>intro _;exact⟨[],rfl,fun i hi=>by simp at hi⟩
   | succ n ih=>
    intro hx
    obtain⟨l,hll,hp⟩:=ih fun i hi=>hx i (by omega)
    obtain⟨x,hx⟩:=hx n (by omega)
    refine⟨l++[x],by simp[hll],fun i hi=>?_⟩
    by_cases e:i<l.length
    ·rw[List.getElem_append_left e];exact hp i e
    ·have:i=n:=by simp at hi;omega
     subst this
     rw[List.getElem_append_right (by omega)]
     simpa[hll]using hx
  obtain⟨l,hll,hp⟩:=lo len0 key
  subst hll
  refine⟨B,s,cap0,l,rfl,by omega,fun i hi=>?_⟩
  have h2:=fm_get intC_length l i 0 (by omega)
  simp only[Nat.mul_one,Nat.add_zero]at h2
  rw[hp i hi,h2,List.getElem?_eq_getElem hi]
  rfl
theorem ints_plain(l:List Int):(l.flatMap intC).all plain1=true:=by
 rw[List.all_eq_true]
 intro x hx
 obtain⟨o,_,ho⟩:=List.mem_flatMap.1 hx
 simp only[intC,List.mem_cons,List.not_mem_nil,or_false]at ho
 subst ho;rfl
theorem more_ints{C:Ctx}{γ:Gm}{h:AH}(H:HR C γ h C.w0)(hb:C.base=C.w0.heap.size){v:Value}
  (hv:v=.slice none 0 0∨∃B s cap,∃l:List Int,v=.slice (some ⟨B,s,none⟩) l.length cap∧l.length≤maxLen∧∀i,i<l.length→C.w0.cell? ⟨B,s+i,none⟩=(l.flatMap intC)[i]?):
  ∃h' γ' v0,∃l:List Int,HR C γ' h' C.w0∧Sub γ γ'∧Ext h h'∧VR C γ' v0 v∧l.length≤maxLen∧SlV 1 h' l.length (l.flatMap intC) v0:=by
 rcases hv with rfl|⟨B,s,cap,l,rfl,hl,hc⟩
 ·exact⟨h,γ,.slice none 0 0,[],H,fun _ _ e=>e,Ext.refl h,.sl0,Nat.zero_le _,⟨rfl,.inl ⟨rfl,_,_,rfl⟩⟩⟩
 ·obtain⟨h',γ',v0,a1,a2,a3,a4,a5⟩:=more_slice H hb (k:=1) (len:=l.length) (cap:=cap) (cs:=l.flatMap intC) (by rw[fm_length intC_length]) (ints_plain l) (fun t ht=>hc t (by omega)) (by omega)
  exact⟨h',γ',v0,l,a1,a2,a3,a4,hl,a5⟩
end Go.Jq
namespace Go.Jq
theorem cloK_eq{n k:Nat}{r:Nat→Nat}:cloK n r k=fun i=>if i<n∧(r i).testBit k=true then r i ||| r k else r i:=by
 unfold cloK
 induction n with
 | zero=>funext i;simp
 | succ m ih=>
  rw[foldl_range,ih]
  funext i
  unfold cloI updR
  have ek:(if k<m∧(r k).testBit k=true then r k ||| r k else r k)=r k:=by
   split
   ·exact Nat.or_self _
   ·rfl
  have em:(if m<m∧(r m).testBit k=true then r m ||| r k else r m)=r m:=if_neg (by omega)
  simp only[em,ek]
  by_cases hm:(r m).testBit k=true
  ·rw[if_pos hm]
   by_cases e:i=m
   ·subst e;simp[hm]
   ·rw[if_neg e]
    by_cases hi:(r i).testBit k=true
    ·by_cases h1:i<m
     ·rw[if_pos ⟨h1,hi⟩,if_pos ⟨by omega,hi⟩]
     ·rw[if_neg (by omega),if_neg (by omega)]
    ·rw[if_neg (by simp[hi]),if_neg (by simp[hi])]
  ·rw[if_neg hm]
   by_cases e:i=m
   ·subst e;simp[hm]
   ·by_cases hi:(r i).testBit k=true
    ·by_cases h1:i<m
     ·rw[if_pos ⟨h1,hi⟩,if_pos ⟨by omega,hi⟩]
     ·rw[if_neg (by omega),if_neg (by omega)]
    ·rw[if_neg (by simp[hi]),if_neg (by simp[hi])]
theorem cloK_has{n k i j:Nat}{r:Nat→Nat}:(cloK n r k i).testBit j=true↔((r i).testBit j=true∨(i<n∧(r i).testBit k=true∧(r k).testBit j=true)):=by
 rw[cloK_eq]
 simp only[]
 split
 ·rename_i h
  rw[Nat.testBit_or,Bool.or_eq_true]
  exact⟨fun q=>q.elim .inl fun q=>.inr ⟨h.1,h.2,q⟩,fun q=>q.elim .inl fun q=>.inr q.2.2⟩
 ·rename_i h
  exact⟨.inl,fun q=>q.elim id fun q=>absurd ⟨q.1,q.2.1⟩ h⟩
def Clsd(n K:Nat)(r:Nat→Nat):Prop:=∀c,c<K→∀i,i<n→∀j,(r i).testBit c=true→(r c).testBit j=true→(r i).testBit j=true
theorem Clsd.step{n K:Nat}{r:Nat→Nat}(hK:K<n)(h:Clsd n K r):Clsd n (K+1) (cloK n r K):=by
 intro c hc i hi j h1 h2
 rw[cloK_has]at h1 h2 ⊢
 by_cases e:c=K
 ·subst e
  have a1:(r i).testBit c=true:=h1.elim id fun q=>q.2.1
  have a2:(r c).testBit j=true:=h2.elim id fun q=>q.2.2
  exact .inr ⟨hi,a1,a2⟩
 ·have hc':c<K:=by omega
  rcases h1 with h1|⟨_,b1,b2⟩
  ·rcases h2 with h2|⟨_,c1,c2⟩
   ·exact .inl (h c hc' i hi j h1 h2)
   ·exact .inr ⟨hi,h c hc' i hi K h1 c1,c2⟩
  ·rcases h2 with h2|⟨_,c1,c2⟩
   ·exact .inr ⟨hi,b1,h c hc' K hK j b2 h2⟩
   ·exact .inr ⟨hi,b1,c2⟩
def Fwd(r:Nat→Nat):Prop:=∀i j,(r i).testBit j=true→i<j
theorem Fwd.cloK{n k:Nat}{r:Nat→Nat}(h:Fwd r):Fwd (cloK n r k):=by
 intro i j q
 rw[cloK_has]at q
 rcases q with q|⟨_,a,b⟩
 ·exact h i j q
 ·exact Nat.lt_trans (h i k a) (h k j b)
theorem foldl_keep{α:Type}{P:(Nat→Nat)→Prop}{f:(Nat→Nat)→α→(Nat→Nat)}(hf:∀r a,P r→P (f r a)):∀{l:List α} {r:Nat→Nat},P r→P (l.foldl f r)
 | [],_,h=>h
 | a::l,_,h=>foldl_keep hf (l:=l) (hf _ a h)
theorem Fwd.clo{n:Nat}{r:Nat→Nat}(h:Fwd r):Fwd (clo n r):=foldl_keep (P:=Fwd) (fun _ _ h=>h.cloK) h
end Go.Jq
namespace Go.Jq
variable {G:Nat→SFunc} {h:AH} {R:Value→AH→Prop}
structure Lcl where
 pc:Nat
 r0:Int
 r1:Int
 r2:Int
 r3:Int
def Lcl.c(l:Lcl):List Value:=[.int .i64 l.pc,.int .i64 l.r0,.int .i64 l.r1,.int .i64 l.r2,.int .i64 l.r3]
def Lcl.v(l:Lcl):Value:=.agg l.c.toArray
def valM(r v:Int)(l:Lcl):Int:=if r=0 then l.r0 else if r=1 then l.r1 else v
def Lcl.set(l:Lcl)(r x:Int):Lcl:=if r=0 then{ l with r0:=x } else{ l with r1:=x }
end Go.Jq
namespace Go.Jq
variable {G:Nat→SFunc} {h:AH} {R:Value→AH→Prop}
def setV(i:Ins)(l:Lcl):Int:=if i.op=0 then valM i.areg i.aval l else ixor .i64 (valM i.areg i.aval l) (valM i.breg i.bval l)
def nrm(th:List Ins)(l:Lcl):Lcl:=
 if h:l.pc<th.length then
  if th[l.pc].kind=5 then nrm th { l.set th[l.pc].reg (setV th[l.pc] l)with pc:=l.pc+1 }
  else if th[l.pc].kind=6 then
   if valM th[l.pc].areg th[l.pc].aval l=valM th[l.pc].breg th[l.pc].bval l then nrm th { l with pc:=l.pc+1+1 } else nrm th { l with pc:=l.pc+1 }
  else l
 else l
termination_by th.length-l.pc
decreasing_by all_goals (first|omega|(simp;omega))
theorem Lcl.set_pc{l:Lcl}{r x:Int}:(l.set r x).pc=l.pc:=by unfold Lcl.set;split<;>rfl
theorem iOk.cls{P:Int→Prop}{i:Ins}(h:iOk P i):(i.kind=5∧(i.reg=0∨i.reg=1)∧(i.areg=-1∨i.areg=0∨i.areg=1)∧i.op=6∧i.breg=-1)∨
  (i.kind=6∧(i.areg=-1∨i.areg=0∨i.areg=1)∧i.breg=-1∧i.n=1)∨(i.kind≠5∧i.kind≠6):=by
 unfold iOk at h
 rcases h with h|h|h|h|h|h
 ·exact .inr (.inr ⟨by omega,by omega⟩)
 ·exact .inr (.inr ⟨by omega,by omega⟩)
 ·exact .inr (.inr ⟨by omega,by omega⟩)
 ·exact .inr (.inr ⟨by omega,by omega⟩)
 ·exact .inl ⟨h.1,h.2.2.1,h.2.2.2.1,h.2.2.2.2.1,h.2.2.2.2.2⟩
 ·exact .inr (.inl ⟨h.1,h.2.2.1,h.2.2.2.1,h.2.2.2.2⟩)
end Go.Jq
namespace Go.Jq
variable {G:Nat→SFunc} {h:AH} {R:Value→AH→Prop}
def Lcl.zero:Lcl:=⟨0,0,0,0,0⟩
theorem zi_6:zi 6=[.int .i64 0,.int .i64 0,.int .i64 0,.int .i64 0,.int .i64 0,.int .i64 0]:=rfl
theorem zi_9:zi 9=[.int .i64 0,.int .i64 0,.int .i64 0,.int .i64 0,.int .i64 0,.int .i64 0,.int .i64 0,.int .i64 0,.int .i64 0]:=rfl
def nextM(th:List Ins)(l:Lcl):Option Ins:=if h:l.pc<th.length then(if th[l.pc].kind=5∨th[l.pc].kind=6 then none else some th[l.pc])else none
def Ins.zero:Ins:=⟨0,0,0,0,0,0,0,0,0⟩
def nextV(th:List Ins)(l:Lcl):Value:=match nextM th l with
 | some i=>.tuple #[i.v,.bool true]
 | none=>.tuple #[Ins.zero.v,.bool false]
def aftM(th:List Ins)(l:Lcl)(x:Int):Lcl:=match nextM th l with
 | none=>l
 | some i=>nrm th { (if i.kind=2∨i.kind=4 then l.set i.reg x else l)with pc:=l.pc+1 }
theorem nextM_mem{th:List Ins}{l:Lcl}{i:Ins}(h:nextM th l=some i):i∈th∧l.pc<th.length∧i.kind≠5∧i.kind≠6:=by
 unfold nextM at h
 split at h
 ·rename_i hl
  split at h
  ·simp at h
  ·rename_i hk
   simp only[Option.some.injEq]at h
   subst h
   exact⟨List.getElem_mem hl,hl,fun e=>hk (.inl e),fun e=>hk (.inr e)⟩
 ·simp at h
theorem iOk.reads{P:Int→Prop}{i:Ins}(h:iOk P i)(hk:i.kind=2∨i.kind=4):i.reg=0∨i.reg=1:=by
 unfold iOk at h
 rcases h with h|h|h|h|h|h
 ·omega
 ·exact h.2.2.1
 ·omega
 ·exact h.2.2.1
 ·omega
 ·omega
end Go.Jq
namespace Go.Jq
variable {G:Nat→SFunc} {h:AH} {R:Value→AH→Prop}
structure Evt where
 kind:Int
 loc:Int
 r:Int
 w:Int
 deriving DecidableEq
def Evt.v(e:Evt):Value:=.agg #[.int .i64 0,.int .i64 0,.int .i64 e.kind,.int .i64 e.loc,.int .i64 e.r,.int .i64 e.w]
def evtM(i:Ins)(l:Lcl)(x:Int):Evt:=
 if i.kind=1 then⟨2,i.loc,0,valM i.areg i.aval l⟩
 else if i.kind=2 then⟨1,i.loc,x,0⟩
 else if i.kind=4 then(if x=valM i.areg i.aval l then⟨4,i.loc,x,valM i.breg i.bval l⟩else⟨5,i.loc,x,0⟩)
 else⟨3,0,0,0⟩
end Go.Jq

/- Executions sorted by Go's library: a sort keeps the elements. -/
import Derived.Test.YteobailpkkljpaaGreatDoorQ
set_option linter.unusedSimpArgs false
set_option linter.unusedVariables false
set_option maxHeartbeats 8000000
namespace Go.Jq
variable {G:Nat→SFunc} {h h0 h1:AH} {R:Value→AH→Prop}
structure Sz(x:Exe):Prop where
 evs:x.evs.length≤9223372036854775806
 rf:x.rf.length≤9223372036854775806
 co:x.co.length≤9223372036854775806
 rows:∀r∈x.co,r.length≤9223372036854775806
abbrev Hb(h:AH)(b:Nat):AH:=Sd h b (.slice none 0 0)
structure SD(h:AH)(b:Nat)(L:List Exe)(ws:List (Value×Value×Value)):Prop where
 blk:h.get b=.cells (ws.flatMap c3) true false
 lt:b<h.next
 el:All2 (ExW (Hb h b)) L ws
 sz:∀x∈L,Sz x
theorem SD.len{b:Nat}{L:List Exe}{ws:List (Value×Value×Value)}(s:SD h b L ws):ws.length=L.length:=s.el.len.symm
theorem c3_fm_len{ws:List (Value×Value×Value)}:(ws.flatMap c3).length=ws.length*3:=by
 induction ws with
 | nil=>rfl
 | cons a l ih=>rw[List.flatMap_cons,List.length_append,ih,List.length_cons,c3_length];omega
theorem c3_at{ws:List (Value×Value×Value)}{i:Nat}(hi:i<ws.length):((ws.flatMap c3).drop (i*3)).take 3=c3 ws[i]:=by
 induction ws generalizing i with
 | nil=>simp at hi
 | cons a l ih=>
  cases i with
  | zero=>simp[List.flatMap_cons,c3]
  | succ i=>
   rw[List.flatMap_cons,show(i+1)*3=(c3 a).length+i*3 by rw[c3_length];omega,List.drop_append]
   simp only[List.getElem_cons_succ]
   rw[show(c3 a).length+i*3-(c3 a).length=i*3 by omega,List.drop_of_length_le (by omega),List.nil_append]
   exact ih (by simpa using hi)
theorem c3_set{ws:List (Value×Value×Value)}{i:Nat}{w:Value×Value×Value}(hi:i<ws.length):splice (ws.flatMap c3) (i*3) (c3 w)=(ws.set i w).flatMap c3:=by
 induction ws generalizing i with
 | nil=>simp at hi
 | cons a l ih=>
  cases i with
  | zero=>simp[List.flatMap_cons,c3,splice]
  | succ i=>
   have h1:=ih (i:=i) (by simpa using hi)
   simp only[List.set_cons_succ,List.flatMap_cons]
   rw[←h1]
   unfold splice
   rw[show(i+1)*3=(c3 a).length+i*3 by rw[c3_length];omega,List.take_append,List.take_of_length_le (by omega)]
   rw[show(c3 a).length+i*3-(c3 a).length=i*3 by omega,Nat.add_assoc,List.drop_append,List.drop_of_length_le (by omega)]
   rw[show(c3 a).length+(i*3+(c3 w).length)-(c3 a).length=i*3+(c3 w).length by omega]
   simp
structure Fr1(h:AH)(b:Nat)(h1:AH):Prop where
 next:h.next≤h1.next
 get:∀i,i<h.next→i≠b→h1.get i=h.get i
theorem Fr1.refl{b:Nat}:Fr1 h b h:=⟨Nat.le_refl _,fun _ _ _=>rfl⟩
theorem Fr1.trans{b:Nat}{h2:AH}(x:Fr1 h b h1)(y:Fr1 h1 b h2):Fr1 h b h2:=⟨Nat.le_trans x.next y.next,fun i hi hb=>by rw[y.get i (Nat.lt_of_lt_of_le hi x.next) hb,x.get i hi hb]⟩
def swp{α:Type}(l:List α)(i j:Nat)(hi:i<l.length)(hj:j<l.length):List α:=(l.set i l[j]).set j l[i]
theorem swp_perm{α:Type}{l:List α}{i j:Nat}(hi:i<l.length)(hj:j<l.length):(swp l i j hi hj).Perm l:=by
 unfold swp
 exact List.set_set_perm hi hj
theorem Hb_put{b:Nat}{o:ABlk}:Hb (h.put b o) b=Hb h b:=by
 unfold Hb Sd
 simp only[AH.mk.injEq]
 refine⟨rfl,funext fun i=>?_⟩
 by_cases e:i=b
 ·simp[e]
 ·simp[e,AH.put_get]
theorem All2.set{α β:Type}{p:α→β→Prop}{l:List α}{m:List β}(h:All2 p l m){t:Nat}{a:α}{b:β}(hq:p a b):All2 p (l.set t a) (m.set t b):=by
 induction h generalizing t with
 | nil=>exact .nil
 | cons h1 h2 ih=>
  cases t with
  | zero=>exact .cons hq h2
  | succ t=>exact .cons h1 ih
theorem SD.swap{b:Nat}{L:List Exe}{ws:List (Value×Value×Value)}(s:SD h b L ws){i j:Nat}(hi:i<L.length)(hj:j<L.length):
  SD (h.put b (.cells ((swp ws i j (by rw[s.len];exact hi) (by rw[s.len];exact hj)).flatMap c3) true false)) b (swp L i j hi hj) (swp ws i j (by rw[s.len];exact hi) (by rw[s.len];exact hj)):=by
 obtain⟨hi',ei⟩:=s.el.at hi
 obtain⟨hj',ej⟩:=s.el.at hj
 refine⟨by rw[AH.put_get,if_pos rfl],s.lt,?_,fun x hx=>s.sz x ((swp_perm hi hj).mem_iff.1 hx)⟩
 rw[Hb_put]
 exact All2.set (All2.set s.el ej) ei
theorem SD.at{b:Nat}{L:List Exe}{ws:List (Value×Value×Value)}(s:SD h b L ws){i:Nat}(hi:i<L.length):∃ev rv cv,ws[i]'(by rw[s.len];exact hi)=(ev,rv,cv)∧((ws.flatMap c3).drop (i*3)).take 3=[ev,rv,cv]∧i*3+3≤(ws.flatMap c3).length∧ExeV h L[i] ev rv cv∧Sz L[i]:=by
 obtain⟨hm,e⟩:=s.el.at hi
 refine⟨ws[i].1,ws[i].2.1,ws[i].2.2,rfl,c3_at hm,by rw[c3_fm_len];omega,ExeV.xt e Sd.xt,s.sz _ (List.getElem_mem hi)⟩
theorem SD.frame{b:Nat}{L:List Exe}{ws:List (Value×Value×Value)}(s:SD h b L ws)(x:Ext h h1):SD h1 b L ws:=
 ⟨by rw[x.get _ s.lt];exact s.blk,Nat.lt_of_lt_of_le s.lt x.next,s.el.imp fun _ _ _ _ e=>ExeV.xt e (Sd.ext x),s.sz⟩
theorem swp_cells{ws:List (Value×Value×Value)}{i j:Nat}(hi:i<ws.length)(hj:j<ws.length):splice (splice (ws.flatMap c3) (i*3) (c3 ws[j])) (j*3) (c3 ws[i])=(swp ws i j hi hj).flatMap c3:=by
 rw[c3_set hi,c3_set (by simpa using hj)]
 rfl
abbrev fvC:Value:=.func (.func 79) #[] #[]
abbrev dataV(b n:Nat):Value:=.slice (some ⟨b,0,some 3⟩) n n
structure SortG(G:Nat→SFunc):Prop extends CmpQ G where
 g187:G 187=c187
 g224:G 224=c224
 g188:G 188=c188
 g191:G 191=c191
structure SI(h:AH)(b:Nat)(L:List Exe)(hh:AH)(L':List Exe)(ws:List (Value×Value×Value)):Prop where
 fr:Fr1 h b hh
 pm:L'.Perm L
 sd:SD hh b L' ws
theorem SI.len{b:Nat}{L L':List Exe}{hh:AH}{ws:List (Value×Value×Value)}(s:SI h b L hh L' ws):L'.length=L.length:=s.pm.length_eq
theorem SI.ext{b:Nat}{L L':List Exe}{hh h2:AH}{ws:List (Value×Value×Value)}(s:SI h b L hh L' ws)(x:Ext hh h2):SI h b L h2 L' ws:=by
 refine⟨⟨Nat.le_trans s.fr.next x.next,fun i hi hb=>?_⟩,s.pm,s.sd.frame x⟩
 rw[x.get _ (Nat.lt_of_lt_of_le hi s.fr.next),s.fr.get i hi hb]
theorem SI.swap{b:Nat}{L L':List Exe}{hh:AH}{ws:List (Value×Value×Value)}(s:SI h b L hh L' ws){i j:Nat}(hi:i<L'.length)(hj:j<L'.length):
  SI h b L (hh.put b (.cells ((swp ws i j (by rw[s.sd.len];exact hi) (by rw[s.sd.len];exact hj)).flatMap c3) true false)) (swp L' i j hi hj) (swp ws i j (by rw[s.sd.len];exact hi) (by rw[s.sd.len];exact hj)):=
 ⟨⟨s.fr.next,fun i hi hb=>by rw[AH.put_get,if_neg hb];exact s.fr.get i hi hb⟩,(swp_perm hi hj).trans s.pm,s.sd.swap hi hj⟩
theorem spl_len{c vs:List Value}{o:Nat}(h:o+vs.length≤c.length):(splice c o vs).length=c.length:=by
 unfold splice
 simp;omega
theorem put_put2{b:Nat}{x y:ABlk}:(h.put b x).put b y=h.put b y:=by
 unfold AH.put
 simp only[AH.mk.injEq,true_and]
 funext i
 by_cases e:i=b<;>simp[e]
def inv187(h:AH)(b:Nat)(L:List Exe)(a e:Nat)(mm:Nat)(F:Fr)(hh:AH):Prop:=
 ∃(i:Nat) (L':List Exe) (ws:List (Value×Value×Value)),mm=e+1-i∧a+1≤i∧i≤e+1∧SI h b L hh L' ws∧F=[(0,dataV b L.length),(1,.int .i64 a),(2,.int .i64 e),(3,fvC),(8,.int .i64 i)]
def inv187b(h:AH)(b:Nat)(L:List Exe)(a e i:Nat)(mm:Nat)(F:Fr)(hh:AH):Prop:=
 ∃(j:Nat) (L':List Exe) (ws:List (Value×Value×Value)),mm=j+1∧a≤j∧j≤i∧SI h b L hh L' ws∧F=[(0,dataV b L.length),(1,.int .i64 a),(2,.int .i64 e),(3,fvC),(8,.int .i64 i),(9,.int .i64 j)]
theorem ins_q(g:SortG G){b:Nat}{L:List Exe}{ws:List (Value×Value×Value)}(s:SD h b L ws){a e:Nat}(ha:a≤e)(he:e≤L.length)(hn:L.length≤1000000)
  (k:∀h1 L' ws',SI h b L h1 L' ws'→R (.tuple #[]) h1):WC G 187 [dataV b L.length,.int .i64 a,.int .i64 e,fvC] h R:=by
 refine WC_enter g.g187 rfl ?_
 have wa:IntKind.i64.wrap ((a:Int)+1)=((a+1:Nat):Int):=by rw[wrap64 (by omega)];rfl
 simp -implicitDefEqProofs[c187,c187_body,c187_0,wa]
 refine W_loop (inv187 h b L a e) (e+1-(a+1)) ⟨a+1,L,ws,rfl,Nat.le_refl _,by omega,⟨.refl,.refl _,s⟩,rfl⟩ ?_
 rintro mm F hh ⟨i,L',ws',rfl,hi1,hi2,S,rfl⟩
 simp -implicitDefEqProofs[c187_8,c187_1]
 by_cases h1:i<e
 ·have wi:IntKind.i64.wrap ((i:Int)+1)=((i+1:Nat):Int):=by rw[wrap64 (by omega)];rfl
  simp -implicitDefEqProofs[h1,c187_2]
  refine W_loop (inv187b h b L a e i) (i+1) ⟨i,L',ws',rfl,by omega,Nat.le_refl _,S,rfl⟩ ?_
  clear S L' ws'
  rintro mm F h2 ⟨j,L',ws',rfl,hj1,hj2,S,rfl⟩
  simp -implicitDefEqProofs[c187_6]
  generalize eQ:wO G c187_3 _ _ _=Q
  have fin:∀(h2:AH) (L':List Exe) (ws':List (Value×Value×Value)),SI h b L h2 L' ws'→∃m,m<e+1-i∧inv187 h b L a e m [(0,dataV b L.length),(1,.int .i64 a),(2,.int .i64 e),(3,fvC),(8,.int .i64 ((i+1:Nat):Int))] h2:=
   fun h2 L' ws' S=>⟨e+1-(i+1),by omega,i+1,L',ws',rfl,by omega,by omega,S,rfl⟩
  by_cases h3:a<j
  ·subst eQ
   have wj:IntKind.i64.wrap ((j:Int)-1)=((j-1:Nat):Int):=by rw[wrap64 (by omega)];omega
   have hl:=S.len
   have q1:j<L'.length:=by omega
   have q2:j-1<L'.length:=by omega
   have q1':j<L.length:=by omega
   have q2':j-1<L.length:=by omega
   obtain⟨xe,xr,xc,ew1,t1,l1,X,sx⟩:=S.sd.at q1
   obtain⟨ye,yr,yc,ew2,t2,l2,Y,sy⟩:=S.sd.at q2
   have hb:=S.sd.blk
   have sw:=swp_cells (ws:=ws') (i:=j) (j:=j-1) (by rw[S.sd.len];exact q1) (by rw[S.sd.len];exact q2)
   have Sw:=S.swap q1 q2
   rw[ew1,ew2]at sw
   generalize (swp ws' j (j-1) _ _)=ws2 at sw Sw
   generalize hC:ws'.flatMap c3=C at*
   simp -implicitDefEqProofs[c187_3,c187_3b,h3,wj,q1',q2',hb,t1,t2,l1,l2]
   refine compare_q g.toCmpQ X Y sx.evs sx.rf sx.co sx.rows ?_
   simp -implicitDefEqProofs
   by_cases h4:cmpM L'[j] L'[j-1]<0
   ·simp -implicitDefEqProofs[h4,c187_4,c187_4b,wj,q1',q2',hb,t1,t2,l1,l2]
    refine⟨by omega,?_⟩
    simp only[c3]at sw
    rw[sw,if_pos (by rw[spl_len (by simpa using l1)];exact l2),put_put2]
    simp -implicitDefEqProofs[c187_5,wj]
    exact⟨j-1+1,by omega,j-1,swp L' j (j-1) q1 q2,ws2,rfl,by omega,by omega,Sw,rfl⟩
   ·simp -implicitDefEqProofs[h4,c187_7,wi]
    exact fin _ _ _ S
  ·subst eQ
   simp -implicitDefEqProofs[c187_3,c187_3b,h3,c187_7,wi]
   exact fin _ _ _ S
 ·simp -implicitDefEqProofs[h1]
  exact k _ _ _ S
def inv224(h:AH)(b:Nat)(L:List Exe)(hi first:Nat)(mm:Nat)(F:Fr)(hh:AH):Prop:=
 ∃(r:Nat) (L':List Exe) (ws:List (Value×Value×Value)),mm=hi+L.length+1-r∧r≤hi+L.length∧SI h b L hh L' ws∧F=[(0,dataV b L.length),(2,.int .i64 hi),(3,.int .i64 first),(4,fvC),(10,.int .i64 r)]
theorem sift_q(g:SortG G){b:Nat}{L:List Exe}{ws:List (Value×Value×Value)}(s:SD h b L ws){lo hi first:Nat}(hlo:lo≤L.length)(hf:first+hi≤L.length)(hn:L.length≤1000000)
  (k:∀h1 L' ws',SI h b L h1 L' ws'→R (.tuple #[]) h1):WC G 224 [dataV b L.length,.int .i64 lo,.int .i64 hi,.int .i64 first,fvC] h R:=by
 refine WC_enter g.g224 rfl ?_
 simp -implicitDefEqProofs[c224,c224_body,c224_0]
 refine W_loop (inv224 h b L hi first) (hi+L.length+1-lo) ⟨lo,L,ws,rfl,by omega,⟨.refl,.refl _,s⟩,rfl⟩ ?_
 rintro mm F hh ⟨r,L',ws',rfl,hr,S,rfl⟩
 obtain⟨c,hc⟩:∃c,c=2*r+1:=⟨_,rfl⟩
 have w1:IntKind.i64.wrap (2*(r:Int))=2*(r:Int):=by rw[wrap64 (by omega)]
 have w2:IntKind.i64.wrap (2*(r:Int)+1)=(c:Int):=by rw[wrap64 (by omega)];omega
 simp -implicitDefEqProofs[c224_8,c224_1,w1,w2]
 generalize eQ:wO G c224_2 _ _ _=Q
 by_cases h1:hi≤c
 ·subst eQ
  simp -implicitDefEqProofs[c224_2,h1,show(hi:Int)≤(c:Int) by omega]
  exact k _ _ _ S
 ·have hl:=S.len
  have hb:=S.sd.blk
  have h1':¬(hi:Int)≤(c:Int):=by omega
  subst eQ
  simp -implicitDefEqProofs[c224_2,h1,h1']
  have q0:first+c<L'.length:=by omega
  have q0':first+c<L.length:=by omega
  have w3:IntKind.i64.wrap ((c:Int)+1)=((c+1:Nat):Int):=by rw[wrap64 (by omega)];rfl
  obtain⟨fc,hfc⟩:∃fc,fc=first+c:=⟨_,rfl⟩
  have w4:IntKind.i64.wrap ((first:Int)+(c:Int))=(fc:Int):=by rw[wrap64 (by omega)];omega
  have w5:IntKind.i64.wrap ((fc:Int)+1)=((fc+1:Nat):Int):=by rw[wrap64 (by omega)];rfl
  rw[←hfc]at q0 q0'
  obtain⟨xe,xr,xc,ew1,t1,l1,X,sx⟩:=S.sd.at q0
  have rest:∀(d:Nat) (E:Fr),E=[]∨E=[(40,.bool false)]→r<d→d<hi→W G (((SCode.dreg [0,2,3,4,10,11,58] c224_5 c224_5b).seq (SCode.cond (t_ 58) SCode.ret SCode.skip)).seq ((SCode.dreg [0,2,3,4,11] c224_6 c224_6b).seq (SCode.reg [0,2,3,4,10] c224_7)))
    ([(0,dataV b L.length),(2,.int .i64 hi),(3,.int .i64 first),(4,fvC),(10,.int .i64 r),(11,.int .i64 d)]++E) hh
    (blockK 1 (loopK (fun F1 h1=>∃m,m<hi+L.length+1-r∧inv224 h b L hi first m F1 h1) (blockK 0 (retK [] R)))):=by
   intro d E hE d1 d2
   obtain⟨fd,hfd⟩:∃fd,fd=first+d:=⟨_,rfl⟩
   obtain⟨fr,hfr⟩:∃fr,fr=first+r:=⟨_,rfl⟩
   have v1:IntKind.i64.wrap ((first:Int)+(d:Int))=(fd:Int):=by rw[wrap64 (by omega)];omega
   have v2:IntKind.i64.wrap ((first:Int)+(r:Int))=(fr:Int):=by rw[wrap64 (by omega)];omega
   have p1:fd<L'.length:=by omega
   have p2:fr<L'.length:=by omega
   have p1':fd<L.length:=by omega
   have p2':fr<L.length:=by omega
   obtain⟨ae,ar,ac,ea1,u1,m1,A,sa⟩:=S.sd.at p2
   obtain⟨be,br,bc,ea2,u2,m2,B,sb⟩:=S.sd.at p1
   have sw:=swp_cells (ws:=ws') (i:=fr) (j:=fd) (by rw[S.sd.len];exact p2) (by rw[S.sd.len];exact p1)
   have Sw:=S.swap p2 p1
   rw[ea1,ea2]at sw
   simp only[c3]at sw
   generalize (swp ws' fr fd _ _)=ws2 at sw Sw
   generalize hC:ws'.flatMap c3=C at*
   rcases hE with rfl|rfl
   all_goals
    simp -implicitDefEqProofs[c224_5,c224_5b,v1,v2,p1',p2',hb,u1,u2,m1,m2]
    refine compare_q g.toCmpQ A B sa.evs sa.rf sa.co sa.rows ?_
    simp -implicitDefEqProofs
    by_cases h4:cmpM L'[fr] L'[fd]<0
    ·simp -implicitDefEqProofs[h4,c224_6,c224_6b,v1,v2,p1',p2',hb,u1,u2,m1,m2]
     refine⟨by omega,?_⟩
     rw[sw,if_pos (by rw[spl_len (by simpa using m1)];exact m2),put_put2]
     simp -implicitDefEqProofs[c224_7]
     exact⟨hi+L.length+1-d,by omega,d,swp L' fr fd p2 p1,ws2,rfl,by omega,Sw,rfl⟩
    ·simp -implicitDefEqProofs[h4]
     exact k _ _ _ S
  generalize hC:ws'.flatMap c3=C at*
  generalize eQ:wO G c224_3 _ _ _=Q
  by_cases h5:c+1<hi
  ·have q1:fc+1<L'.length:=by omega
   have q1':fc+1<L.length:=by omega
   obtain⟨ye,yr,yc,ew2,t2,l2,Y,sy⟩:=S.sd.at q1
   rw[hC]at t2 l2
   subst eQ
   simp -implicitDefEqProofs[c224_3,c224_3b,w3,h5,show(c:Int)+1<hi by omega,w4,w5,q0',q1',hb,t1,t2,l1,l2]
   refine⟨by omega,?_⟩
   refine compare_q g.toCmpQ X Y sx.evs sx.rf sx.co sx.rows ?_
   simp -implicitDefEqProofs
   by_cases h6:cmpM L'[fc] L'[fc+1]<0
   ·simp -implicitDefEqProofs[h6,c224_4,w3]
    simpa -implicitDefEqProofs using rest (c+1) [] (Or.inl rfl) (by omega) (by omega)
   ·simp -implicitDefEqProofs[h6]
    simpa -implicitDefEqProofs using rest c _ (Or.inr rfl) (by omega) (by omega)
  ·subst eQ
   simp -implicitDefEqProofs[c224_3,c224_3b,w3,h5,show ¬(c:Int)+1<hi by omega]
   simpa -implicitDefEqProofs using rest c _ (Or.inr rfl) (by omega) (by omega)
end Go.Jq
namespace Go.Jq
variable {G:Nat→SFunc} {h h0 h1:AH} {R:Value→AH→Prop}
theorem swap_ok{C:List Value}{i j:Nat}{xe xr xc ye yr yc:Value}(t1:(C.drop (i*3)).take 3=[xe,xr,xc])(t2:(C.drop (j*3)).take 3=[ye,yr,yc]):(i*3+3≤j*3∨j*3+3≤i*3)∨i*3=j*3∧ye=xe∧yr=xr∧yc=xc:=by
 by_cases e:i=j
 ·subst e
  rw[t1]at t2
  simp at t2
  exact .inr ⟨rfl,t2.1.symm,t2.2.1.symm,t2.2.2.symm⟩
 ·exact .inl (by omega)
def inv191(h:AH)(b:Nat)(L:List Exe)(a e:Nat)(mm:Nat)(F:Fr)(hh:AH):Prop:=
 ∃(i j:Nat) (L':List Exe) (ws:List (Value×Value×Value)),mm=j+1-i∧a≤i∧i+j+1=a+e∧SI h b L hh L' ws∧F=[(0,dataV b L.length),(8,.int .i64 i),(9,.int .i64 j)]
theorem rev_q(g:SortG G){b:Nat}{L:List Exe}{ws:List (Value×Value×Value)}(s:SD h b L ws){a e:Nat}(ha:a<e)(he:e≤L.length)(hn:L.length≤1000000)
  (k:∀h1 L' ws',SI h b L h1 L' ws'→R (.tuple #[]) h1):WC G 191 [dataV b L.length,.int .i64 a,.int .i64 e,fvC] h R:=by
 refine WC_enter g.g191 rfl ?_
 have we:IntKind.i64.wrap ((e:Int)-1)=((e-1:Nat):Int):=by rw[wrap64 (by omega)];omega
 simp -implicitDefEqProofs[c191,c191_body,c191_0,c191_1,we]
 refine W_loop (inv191 h b L a e) (e-1+1-a) ⟨a,e-1,L,ws,rfl,Nat.le_refl _,by omega,⟨.refl,.refl _,s⟩,rfl⟩ ?_
 rintro mm F hh ⟨i,j,L',ws',rfl,hi1,hij,S,rfl⟩
 simp -implicitDefEqProofs[c191_6,c191_2]
 generalize eQ:wO G c191_3 _ _ _=Q
 by_cases h3:i<j
 ·subst eQ
  have wi:IntKind.i64.wrap ((i:Int)+1)=((i+1:Nat):Int):=by rw[wrap64 (by omega)];rfl
  have wj:IntKind.i64.wrap ((j:Int)-1)=((j-1:Nat):Int):=by rw[wrap64 (by omega)];omega
  have hl:=S.len
  have q1:i<L'.length:=by omega
  have q2:j<L'.length:=by omega
  have q1':i<L.length:=by omega
  have q2':j<L.length:=by omega
  obtain⟨xe,xr,xc,ew1,t1,l1,X,sx⟩:=S.sd.at q1
  obtain⟨ye,yr,yc,ew2,t2,l2,Y,sy⟩:=S.sd.at q2
  have hb:=S.sd.blk
  have sw:=swp_cells (ws:=ws') (i:=i) (j:=j) (by rw[S.sd.len];exact q1) (by rw[S.sd.len];exact q2)
  have Sw:=S.swap q1 q2
  rw[ew1,ew2]at sw
  generalize (swp ws' i j _ _)=ws2 at sw Sw
  generalize hC:ws'.flatMap c3=C at*
  simp -implicitDefEqProofs[c191_3,c191_3b,h3,wi,wj,q1',q2',hb,t1,t2,l1,l2]
  refine⟨by omega,?_⟩
  simp only[c3]at sw
  rw[sw,if_pos (by rw[spl_len (by simpa using l1)];exact l2),put_put2]
  simp -implicitDefEqProofs[c191_4,c191_5,wi,wj]
  exact⟨j-1+1-(i+1),by omega,i+1,j-1,swp L' i j q1 q2,ws2,rfl,by omega,by omega,Sw,rfl⟩
 ·subst eQ
  simp -implicitDefEqProofs[h3]
  exact k _ _ _ S
def inv188(h:AH)(b:Nat)(L:List Exe)(a e:Nat)(mm:Nat)(F:Fr)(hh:AH):Prop:=
 ∃(L':List Exe) (ws:List (Value×Value×Value)),mm≤e-a∧SI h b L hh L' ws∧F=[(0,dataV b L.length),(3,fvC),(8,.int .i64 a),(9,.int .i64 0),(10,.int .i64 ((e-a:Nat):Int)),(11,.int .i64 ((mm:Int)-1))]
def inv188b(h:AH)(b:Nat)(L:List Exe)(a e:Nat)(mm:Nat)(F:Fr)(hh:AH):Prop:=
 ∃(L':List Exe) (ws:List (Value×Value×Value)),mm≤e-a∧SI h b L hh L' ws∧F=[(0,dataV b L.length),(3,fvC),(8,.int .i64 a),(9,.int .i64 0),(12,.int .i64 ((mm:Int)-1))]
theorem SI.trans{b:Nat}{L L1 L2:List Exe}{ws1 ws2:List (Value×Value×Value)}{hh h2:AH}(x:SI h b L hh L1 ws1)(y:SI hh b L1 h2 L2 ws2):SI h b L h2 L2 ws2:=
 ⟨x.fr.trans y.fr,y.pm.trans x.pm,y.sd⟩
theorem heap_q(g:SortG G){b:Nat}{L:List Exe}{ws:List (Value×Value×Value)}(s:SD h b L ws){a e:Nat}(ha:a<e)(he:e≤L.length)(hn:L.length≤1000000)
  (k:∀h1 L' ws',SI h b L h1 L' ws'→R (.tuple #[]) h1):WC G 188 [dataV b L.length,.int .i64 a,.int .i64 e,fvC] h R:=by
 refine WC_enter g.g188 rfl ?_
 have w1:IntKind.i64.wrap ((e:Int)-(a:Int))=((e-a:Nat):Int):=by rw[wrap64 (by omega)];omega
 have w2:IntKind.i64.wrap (((e-a:Nat):Int)-1)=((e-a-1:Nat):Int):=by rw[wrap64 (by omega)];omega
 obtain⟨q,hq⟩:∃q,q=(e-a-1) / 2:=⟨_,rfl⟩
 have w3:IntKind.i64.wrap (((e-a-1:Nat):Int) / 2)=(q:Int):=by rw[wrap64 (by omega)];omega
 simp -implicitDefEqProofs[c188,c188_body,c188_0,c188_1,c188_2,c188_3,w1,w2,w3]
 refine W_loop (inv188 h b L a e) (q+1) ⟨L,ws,by omega,⟨.refl,.refl _,s⟩,by simp⟩ ?_
 rintro mm F hh ⟨L',ws',hm,S,rfl⟩
 simp -implicitDefEqProofs[c188_7,c188_4]
 have hl:=S.len
 cases mm with
 | zero=>
  simp -implicitDefEqProofs[c188_8,w2]
  refine W_loop (inv188b h b L a e) (e-a) ⟨L',ws',by omega,S,by simp;omega⟩ ?_
  clear S L' ws' hl hm
  rintro mm F hh ⟨L',ws',hm,S,rfl⟩
  have hl:=S.len
  simp -implicitDefEqProofs[c188_13,c188_9]
  cases mm with
  | zero=>
   simp -implicitDefEqProofs
   exact k _ _ _ S
  | succ n=>
   have wn:IntKind.i64.wrap ((n:Int)-1)=(n:Int)-1:=wrap64 (by omega)
   obtain⟨i,hi⟩:∃i,i=a+n:=⟨_,rfl⟩
   have wi:IntKind.i64.wrap ((a:Int)+(n:Int))=(i:Int):=by rw[wrap64 (by omega)];omega
   have q1:a<L'.length:=by omega
   have q2:i<L'.length:=by omega
   have q1':a<L.length:=by omega
   have q2':i<L.length:=by omega
   obtain⟨xe,xr,xc,ew1,t1,l1,X,sx⟩:=S.sd.at q1
   obtain⟨ye,yr,yc,ew2,t2,l2,Y,sy⟩:=S.sd.at q2
   have hb:=S.sd.blk
   have sw:=swp_cells (ws:=ws') (i:=a) (j:=i) (by rw[S.sd.len];exact q1) (by rw[S.sd.len];exact q2)
   have Sw:=S.swap q1 q2
   rw[ew1,ew2]at sw
   generalize (swp ws' a i _ _)=ws2 at sw Sw
   generalize hC:ws'.flatMap c3=C at*
   simp -implicitDefEqProofs[show(1:Int)≤(n:Int)+1 by omega,c188_10,c188_10b,wi,q1',q2',hb,t1,t2,l1,l2]
   refine⟨swap_ok t1 t2,?_⟩
   simp only[c3]at sw
   rw[sw,if_pos (by rw[spl_len (by simpa using l1)];exact l2),put_put2]
   simp -implicitDefEqProofs[c188_11]
   have hl2:=Sw.len
   rw[←hl2]
   refine sift_q (lo:=0) (hi:=n) g Sw.sd (Nat.zero_le _) (by omega) (by omega) fun h1 L1 ws1 S1=>?_
   simp -implicitDefEqProofs[c188_12,wn]
   exact⟨n,by omega,L1,ws1,by omega,Sw.trans S1,by rw[hl2]⟩
 | succ n=>
  have wn:IntKind.i64.wrap ((n:Int)-1)=(n:Int)-1:=wrap64 (by omega)
  simp -implicitDefEqProofs[show(1:Int)≤(n:Int)+1 by omega,c188_5]
  rw[←hl]
  refine sift_q g S.sd (by omega) (by omega) (by omega) fun h1 L1 ws1 S1=>?_
  simp -implicitDefEqProofs[c188_6,wn]
  exact⟨n,by omega,L1,ws1,by omega,S.trans S1,by rw[hl]⟩
end Go.Jq
namespace Go.Jq
variable {G:Nat→SFunc} {h h0 h1:AH} {R:Value→AH→Prop}
structure SortG2(G:Nat→SFunc):Prop extends SortG G where
 g251:G 251=c251
 g228:G 228=c228
 g227:G 227=c227
 g190:G 190=c190
abbrev cntB(n:Nat):ABlk:=.cells [.int .i64 n] false false
abbrev cntP(b:Nat):Value:=.pointer (some ⟨b,0,none⟩)
abbrev In(lo hi i:Nat):Prop:=lo≤i∧i<hi
theorem ord2_q(g:SortG2 G){b lo hi:Nat}{L:List Exe}{ws:List (Value×Value×Value)}(s:SD h b L ws){i j c:Nat}(ii:In lo hi i)(ij:In lo hi j)(hh:hi≤L.length)(hn:L.length≤1000000)(hc:c≤1000)
  (k:∀i' j' c':Nat,In lo hi i'→In lo hi j'→c'≤c+1→R (.tuple #[.int .i64 i',.int .i64 j']) (h.lays [cntB c'])):
  WC G 251 [dataV b L.length,.int .i64 i,.int .i64 j,cntP h.next,fvC] (h.lays [cntB c]) R:=by
 refine WC_enter g.g251 rfl ?_
 have w1:IntKind.i64.wrap ((c:Int)+1)=((c+1:Nat):Int):=by rw[wrap64 (by omega)];rfl
 have S:SD (h.lays [cntB c]) b L ws:=s.frame .lays
 have hi':i<L.length:=Nat.lt_of_lt_of_le ii.2 hh
 have hj':j<L.length:=Nat.lt_of_lt_of_le ij.2 hh
 obtain⟨xe,xr,xc,ew1,t1,l1,X,sx⟩:=S.at hi'
 obtain⟨ye,yr,yc,ew2,t2,l2,Y,sy⟩:=S.at hj'
 have hb:=S.blk
 generalize hC:ws.flatMap c3=C at*
 simp -implicitDefEqProofs[c251,c251_body,c251_0,c251_1,c251_1b,hi',hj',hb,t1,t2,l1,l2]
 refine compare_q g.toCmpQ Y X sy.evs sy.rf sy.co sy.rows ?_
 simp -implicitDefEqProofs
 by_cases h4:cmpM L[j] L[i]<0
 ·simp -implicitDefEqProofs[h4,c251_2,c251_3,w1]
  exact k j i (c+1) ij ii (Nat.le_refl _)
 ·simp -implicitDefEqProofs[h4,c251_4]
  exact k i j c ii ij (by omega)
theorem med_q(g:SortG2 G){b lo hi:Nat}{L:List Exe}{ws:List (Value×Value×Value)}(s:SD h b L ws){i j k0 c:Nat}(ii:In lo hi i)(ij:In lo hi j)(ik:In lo hi k0)(hh:hi≤L.length)(hn:L.length≤1000000)(hc:c≤100)
  (k:∀i' c':Nat,In lo hi i'→c'≤c+3→R (.int .i64 i') (h.lays [cntB c'])):
  WC G 228 [dataV b L.length,.int .i64 i,.int .i64 j,.int .i64 k0,cntP h.next,fvC] (h.lays [cntB c]) R:=by
 refine WC_enter g.g228 rfl ?_
 simp -implicitDefEqProofs[c228,c228_body,c228_0,c228_1]
 refine ord2_q g s ii ij hh hn (by omega) fun i1 j1 c1 hi1 hj1 hc1=>?_
 simp -implicitDefEqProofs[c228_2]
 refine ord2_q g s hj1 ik hh hn (by omega) fun i2 j2 c2 hi2 hj2 hc2=>?_
 simp -implicitDefEqProofs[c228_3]
 refine ord2_q g s hi1 hi2 hh hn (by omega) fun i3 j3 c3 hi3 hj3 hc3=>?_
 simp -implicitDefEqProofs[c228_4]
 exact k j3 c3 hj3 (by omega)
theorem adj_q(g:SortG2 G){b lo hi:Nat}{L:List Exe}{ws:List (Value×Value×Value)}(s:SD h b L ws){i c:Nat}(h1:lo+1≤i)(h2:i+1<hi)(hh:hi≤L.length)(hn:L.length≤1000000)(hc:c≤100)
  (k:∀i' c':Nat,In lo hi i'→c'≤c+3→R (.int .i64 i') (h.lays [cntB c'])):
  WC G 227 [dataV b L.length,.int .i64 i,cntP h.next,fvC] (h.lays [cntB c]) R:=by
 refine WC_enter g.g227 rfl ?_
 have w1:IntKind.i64.wrap ((i:Int)+1)=((i+1:Nat):Int):=by rw[wrap64 (by omega)];rfl
 have w2:IntKind.i64.wrap ((i:Int)-1)=((i-1:Nat):Int):=by rw[wrap64 (by omega)];omega
 simp -implicitDefEqProofs[c227,c227_body,c227_0,c227_1,w1,w2]
 refine med_q g s (lo:=lo) (hi:=hi) ⟨by omega,by omega⟩ ⟨by omega,by omega⟩ ⟨by omega,by omega⟩ hh hn hc fun i1 c1 hi1 hc1=>?_
 simp -implicitDefEqProofs
 exact k i1 c1 hi1 hc1
theorem piv_q(g:SortG2 G){b a e:Nat}{L:List Exe}{ws:List (Value×Value×Value)}(s:SD h b L ws)(ha:a<e)(he:e≤L.length)(hn:L.length≤1000000)
  (k:∀i' c':Nat,In a e i'→c'<3→R (.tuple #[.int .i64 i',.int .i64 c']) h):
  WC G 190 [dataV b L.length,.int .i64 a,.int .i64 e,fvC] h R:=by
 have w1:IntKind.i64.wrap ((e:Int)-(a:Int))=((e-a:Nat):Int):=by rw[wrap64 (by omega)];omega
 obtain⟨q,hq⟩:∃q,q=(e-a) / 4:=⟨_,rfl⟩
 have w2:IntKind.i64.wrap (((e-a:Nat):Int) / 4)=(q:Int):=by rw[wrap64 (by omega)];omega
 have w3:IntKind.i64.wrap (q:Int)=(q:Int):=wrap64 (by omega)
 obtain⟨i,hi⟩:∃i,i=a+q:=⟨_,rfl⟩
 obtain⟨j,hj⟩:∃i,i=a+q*2:=⟨_,rfl⟩
 obtain⟨k0,hk0⟩:∃i,i=a+q*3:=⟨_,rfl⟩
 have w4:IntKind.i64.wrap ((a:Int)+(q:Int))=(i:Int):=by rw[wrap64 (by omega)];omega
 have w5:IntKind.i64.wrap ((q:Int)*2)=(q:Int)*2:=wrap64 (by omega)
 have w6:IntKind.i64.wrap ((q:Int)*3)=(q:Int)*3:=wrap64 (by omega)
 have w7:IntKind.i64.wrap ((a:Int)+(q:Int)*2)=(j:Int):=by rw[wrap64 (by omega)];omega
 have w8:IntKind.i64.wrap ((a:Int)+(q:Int)*3)=(k0:Int):=by rw[wrap64 (by omega)];omega
 refine WC_pure (WC_enter g.g190 rfl ?_)
 have fin:∀j c:Nat,In a e j→c≤12→W G (SCode.block 0 ((SCode.reg [13,55,57] c190_13).seq (SCode.cond (t_ 57) ((SCode.reg [8,9] c190_14).seq SCode.ret) ((SCode.reg [13,60] c190_15).seq (SCode.cond (t_ 60) ((SCode.reg [8,9] c190_16).seq SCode.ret) ((SCode.reg [8,9] c190_17).seq SCode.ret))))))
   [(13,.int .i64 j),(55,.int .i64 c)] (h.lays [cntB c]) (retK [.tmp 8,.tmp 9] fun v h1=>Ext h h1∧Clean h.next v∧R v h):=by
  intro j c ij hc
  simp -implicitDefEqProofs[c190_13]
  by_cases e0:c=0
  ·simp -implicitDefEqProofs[e0,c190_14]
   exact⟨.lays,k j 1 ij (by omega)⟩
  ·by_cases e1:c=12
   ·subst e1
    simp -implicitDefEqProofs[c190_15,c190_16]
    exact⟨.lays,k j 2 ij (by omega)⟩
   ·simp -implicitDefEqProofs[e0,c190_15,c190_17,show ¬(c:Int)=12 by omega]
    exact⟨.lays,k j 0 ij (by omega)⟩
 simp -implicitDefEqProofs[c190,c190_body,c190_0,c190_1,c190_2,c190_3,c190_4,c190_5,c190_6,w1,w2,w3,w4,w5,w6,w7,w8]
 generalize eQ:wO G c190_7 _ _ _=Q
 by_cases l1:8≤e-a
 ·subst eQ
  simp -implicitDefEqProofs[l1,show(8:Int)≤((e-a:Nat):Int) by omega,c190_7]
  generalize eQ:wO G c190_8 _ _ _=Q
  by_cases l2:50≤e-a
  ·subst eQ
   simp -implicitDefEqProofs[l2,show(50:Int)≤((e-a:Nat):Int) by omega,c190_8]
   refine adj_q g s (lo:=a) (hi:=e) (c:=0) (by omega) (by omega) he hn (by omega) fun i1 c1 hi1 hc1=>?_
   simp -implicitDefEqProofs[c190_9]
   refine adj_q g s (lo:=a) (hi:=e) (by omega) (by omega) he hn (by omega) fun j1 c2 hj1 hc2=>?_
   simp -implicitDefEqProofs[c190_10]
   refine adj_q g s (lo:=a) (hi:=e) (by omega) (by omega) he hn (by omega) fun k1 c3 hk1 hc3=>?_
   simp -implicitDefEqProofs[c190_11]
   refine med_q g s hi1 hj1 hk1 he hn (by omega) fun m c4 hm hc4=>?_
   simpa -implicitDefEqProofs[c190_12,cntB]using fin m c4 hm (by omega)
  ·subst eQ
   simp -implicitDefEqProofs[l2,show ¬(50:Int)≤((e-a:Nat):Int) by omega,c190_11]
   refine med_q g s (lo:=a) (hi:=e) (c:=0) ⟨by omega,by omega⟩ ⟨by omega,by omega⟩ ⟨by omega,by omega⟩ he hn (by omega) fun m c4 hm hc4=>?_
   simpa -implicitDefEqProofs[c190_12,cntB]using fin m c4 hm (by omega)
 ·subst eQ
  simp -implicitDefEqProofs[l1,show ¬(8:Int)≤((e-a:Nat):Int) by omega]
  simpa -implicitDefEqProofs[c190_12,cntB]using fin j 0 ⟨by omega,by omega⟩ (by omega)
end Go.Jq
namespace Go.Jq
variable {G:Nat→SFunc} {h h0 h1:AH} {R:Value→AH→Prop}
structure SortG3(G:Nat→SFunc):Prop extends SortG2 G where
 g193:G 193=c193
 g194:G 194=c194
 g192:G 192=c192
structure Two(h:AH)(b:Nat)(L:List Exe)(hh:AH)(i j:Nat)(C C':List Value)(x y:Exe)(x1 x2 x3 y1 y2 y3:Value):Prop where
 blk:hh.get b=.cells C true false
 t1:(C.drop (i*3)).take 3=[x1,x2,x3]
 t2:(C.drop (j*3)).take 3=[y1,y2,y3]
 l1:i*3+3≤C.length
 l2:j*3+3≤C.length
 l3:j*3+3≤(splice C (i*3) [y1,y2,y3]).length
 X:ExeV hh x x1 x2 x3
 Y:ExeV hh y y1 y2 y3
 sx:Sz x
 sy:Sz y
 sw:splice (splice C (i*3) [y1,y2,y3]) (j*3) [x1,x2,x3]=C'
 so:∃L2 ws2,SI h b L (hh.put b (.cells C' true false)) L2 ws2
theorem SI.two{b:Nat}{L L':List Exe}{hh:AH}{ws':List (Value×Value×Value)}(S:SI h b L hh L' ws'){i j:Nat}(hi:i<L.length)(hj:j<L.length):∃C C' x y x1 x2 x3 y1 y2 y3,Two h b L hh i j C C' x y x1 x2 x3 y1 y2 y3:=by
 have hl:=S.len
 have q1:i<L'.length:=by omega
 have q2:j<L'.length:=by omega
 obtain⟨xe,xr,xc,ew1,t1,l1,X,sx⟩:=S.sd.at q1
 obtain⟨ye,yr,yc,ew2,t2,l2,Y,sy⟩:=S.sd.at q2
 have sw:=swp_cells (ws:=ws') (i:=i) (j:=j) (by rw[S.sd.len];exact q1) (by rw[S.sd.len];exact q2)
 have Sw:=S.swap q1 q2
 rw[ew1,ew2]at sw
 exact⟨_,_,_,_,xe,xr,xc,ye,yr,yc,S.sd.blk,t1,t2,l1,l2,by rw[spl_len (by simpa using l1)];exact l2,X,Y,sx,sy,sw,_,_,Sw⟩
def inv193(h:AH)(b:Nat)(L:List Exe)(a e:Nat)(mm:Nat)(F:Fr)(hh:AH):Prop:=
 ∃(i j:Nat) (L':List Exe) (ws:List (Value×Value×Value)),mm=j+2-i∧a+1≤i∧i≤e∧a≤j∧j+1≤e∧SI h b L hh L' ws∧F=[(0,dataV b L.length),(1,.int .i64 a),(4,fvC),(11,.int .i64 i),(12,.int .i64 j)]
def inv193b(b:Nat)(L:List Exe)(a e i0 j:Nat)(h0:AH)(mm:Nat)(F:Fr)(hh:AH):Prop:=
 ∃(i:Nat),mm=e+1-i∧i0≤i∧i≤e∧hh=h0∧F=[(0,dataV b L.length),(1,.int .i64 a),(4,fvC),(11,.int .i64 i),(12,.int .i64 j)]
def inv193c(b:Nat)(L:List Exe)(a e i j0:Nat)(h0:AH)(mm:Nat)(F:Fr)(hh:AH):Prop:=
 ∃(j:Nat),mm=j+1∧a≤j∧j≤j0∧hh=h0∧F.keep [0,1,4,11,12]=[(0,dataV b L.length),(1,.int .i64 a),(4,fvC),(11,.int .i64 i),(12,.int .i64 j)]
theorem pareq_q(g:SortG3 G){b:Nat}{L:List Exe}{ws:List (Value×Value×Value)}(s:SD h b L ws){a e p:Nat}(hp:In a e p)(he:e≤L.length)(hn:L.length≤1000000)
  (k:∀h1 L' ws' i',SI h b L h1 L' ws'→a<i'→i'≤e→R (.int .i64 (i':Nat)) h1):WC G 193 [dataV b L.length,.int .i64 a,.int .i64 e,.int .i64 p,fvC] h R:=by
 obtain⟨p1,p2⟩:=hp
 have S0:SI h b L h L ws:=⟨.refl,.refl _,s⟩
 have q1:a<L.length:=by omega
 have q2:p<L.length:=by omega
 obtain⟨C,C',x,y,x1,x2,x3,y1,y2,y3,T⟩:=S0.two q1 q2
 have wa:IntKind.i64.wrap ((a:Int)+1)=((a+1:Nat):Int):=by rw[wrap64 (by omega)];rfl
 have we:IntKind.i64.wrap ((e:Int)-1)=((e-1:Nat):Int):=by rw[wrap64 (by omega)];omega
 refine WC_enter g.g193 rfl ?_
 simp -implicitDefEqProofs[c193,c193_body,c193_0,c193_1,c193_1b,q1,q2,T.blk,T.t1,T.t2,T.l1,T.l2]
 refine⟨swap_ok T.t1 T.t2,?_⟩
 rw[T.sw,if_pos T.l3,put_put2]
 simp -implicitDefEqProofs[c193_2,wa,we]
 obtain⟨L1,ws1,S1⟩:=T.so
 refine W_loop (inv193 h b L a e) (e-1+2-(a+1)) ⟨a+1,e-1,L1,ws1,rfl,Nat.le_refl _,by omega,by omega,by omega,S1,rfl⟩ ?_
 clear S1 L1 ws1 T S0
 rintro mm F hh ⟨i0,j0,L',ws',rfl,hi1,hi2,hj1,hj2,S,rfl⟩
 simp -implicitDefEqProofs[c193_13]
 refine W_loop (inv193b b L a e i0 j0 hh) (e+1-i0) ⟨i0,rfl,Nat.le_refl _,hi2,rfl,rfl⟩ ?_
 rintro mm F hh' ⟨i,rfl,hi3,hi4,rfl,rfl⟩
 have rest:∀V:Value,W G (((SCode.block 4 (SCode.loop [0,1,4,11,12] c193_8)).seq (((SCode.reg [0,1,4,11,12,70] c193_9).seq (SCode.cond (t_ 70) (SCode.exit 0) SCode.skip)).seq ((SCode.dreg [0,1,4,11,12] c193_10 c193_10b).seq ((SCode.reg [0,1,4,11,12] c193_11).seq (SCode.reg [0,1,4,11,12] c193_12))))))
   [(0,dataV b L.length),(1,.int .i64 a),(4,fvC),(11,.int .i64 i),(12,.int .i64 j0),(47,V)] hh'
   (blockK 1 (loopK (fun F1 h1=>∃m,m<j0+2-i0∧inv193 h b L a e m F1 h1) (blockK 0 (thenK (W G ((SCode.reg [10] c193_14).seq SCode.ret)) (retK [.tmp 10] R))))):=by
  intro V
  simp -implicitDefEqProofs
  refine W_loop (inv193c b L a e i j0 hh') (j0+1) ⟨j0,rfl,hj1,Nat.le_refl _,rfl,by simp⟩ ?_
  rintro mm F hh ⟨j,rfl,hj3,hj4,rfl,hF⟩
  rw[hF]
  clear hF F
  have fin:∀V:Value,W G (((SCode.reg [0,1,4,11,12,70] c193_9).seq (SCode.cond (t_ 70) (SCode.exit 0) SCode.skip)).seq ((SCode.dreg [0,1,4,11,12] c193_10 c193_10b).seq ((SCode.reg [0,1,4,11,12] c193_11).seq (SCode.reg [0,1,4,11,12] c193_12))))
    [(0,dataV b L.length),(1,.int .i64 a),(4,fvC),(11,.int .i64 i),(12,.int .i64 j),(65,V)] hh
    (blockK 1 (loopK (fun F1 h1=>∃m,m<j0+2-i0∧inv193 h b L a e m F1 h1) (blockK 0 (thenK (W G ((SCode.reg [10] c193_14).seq SCode.ret)) (retK [.tmp 10] R))))):=by
   intro V
   simp -implicitDefEqProofs[c193_9]
   by_cases h5:j<i
   ·simp -implicitDefEqProofs[h5,c193_14]
    exact k _ _ _ i S (by omega) hi4
   ·have q1:i<L.length:=by omega
    have q2:j<L.length:=by omega
    obtain⟨C,C',x,y,x1,x2,x3,y1,y2,y3,T⟩:=S.two q1 q2
    have wi:IntKind.i64.wrap ((i:Int)+1)=((i+1:Nat):Int):=by rw[wrap64 (by omega)];rfl
    have wj:IntKind.i64.wrap ((j:Int)-1)=((j-1:Nat):Int):=by rw[wrap64 (by omega)];omega
    simp -implicitDefEqProofs[h5,c193_10,c193_10b,q1,q2,T.blk,T.t1,T.t2,T.l1,T.l2]
    refine⟨swap_ok T.t1 T.t2,?_⟩
    rw[T.sw,if_pos T.l3,put_put2]
    simp -implicitDefEqProofs[c193_11,c193_12,wi,wj]
    obtain⟨L1,ws1,S1⟩:=T.so
    exact⟨j-1+2-(i+1),by omega,i+1,j-1,L1,ws1,rfl,by omega,by omega,by omega,by omega,S1,rfl⟩
  simp -implicitDefEqProofs[c193_8]
  by_cases h4:i≤j
  ·have q1:a<L.length:=by omega
   have q2:j<L.length:=by omega
   obtain⟨C,C',x,y,x1,x2,x3,y1,y2,y3,T⟩:=S.two q1 q2
   have wj:IntKind.i64.wrap ((j:Int)-1)=((j-1:Nat):Int):=by rw[wrap64 (by omega)];omega
   simp -implicitDefEqProofs[h4,c193_6,c193_6b,q1,q2,T.blk,T.t1,T.t2,T.l1,T.l2]
   refine compare_q g.toCmpQ T.X T.Y T.sx.evs T.sx.rf T.sx.co T.sx.rows ?_
   simp -implicitDefEqProofs
   by_cases h6:cmpM x y<0
   ·simp -implicitDefEqProofs[h6,c193_7,wj]
    exact⟨j-1+1,by omega,j-1,rfl,by omega,by omega,rfl,by simp⟩
   ·simp -implicitDefEqProofs[h6]
    simpa -implicitDefEqProofs using fin _
  ·simp -implicitDefEqProofs[h4,c193_6,c193_6b]
   simpa -implicitDefEqProofs using fin _
 simp -implicitDefEqProofs[c193_5]
 by_cases h4:i≤j0
 ·have q1:a<L.length:=by omega
  have q2:i<L.length:=by omega
  obtain⟨C,C',x,y,x1,x2,x3,y1,y2,y3,T⟩:=S.two q1 q2
  have wi:IntKind.i64.wrap ((i:Int)+1)=((i+1:Nat):Int):=by rw[wrap64 (by omega)];rfl
  simp -implicitDefEqProofs[h4,c193_3,c193_3b,q1,q2,T.blk,T.t1,T.t2,T.l1,T.l2]
  refine compare_q g.toCmpQ T.X T.Y T.sx.evs T.sx.rf T.sx.co T.sx.rows ?_
  simp -implicitDefEqProofs
  by_cases h6:cmpM x y<0
  ·simp -implicitDefEqProofs[h6]
   simpa -implicitDefEqProofs using rest _
  ·simp -implicitDefEqProofs[h6,c193_4,wi]
   exact⟨e+1-(i+1),by omega,i+1,rfl,by omega,by omega,rfl,rfl⟩
 ·simp -implicitDefEqProofs[h4,c193_3,c193_3b]
  simpa -implicitDefEqProofs using rest _
end Go.Jq
namespace Go.Jq
variable {G:Nat→SFunc} {h h0 h1:AH} {R:Value→AH→Prop}
def inv194i(b n a e i0 j:Nat)(h0:AH)(mm:Nat)(F:Fr)(hh:AH):Prop:=
 ∃(i:Nat),mm=e+1-i∧i0≤i∧i≤e∧hh=h0∧F.keep [0,1,4,12,13]=[(0,dataV b n),(1,.int .i64 a),(4,fvC),(12,.int .i64 i),(13,.int .i64 j)]
def inv194j(b n a e i j0:Nat)(h0:AH)(mm:Nat)(F:Fr)(hh:AH):Prop:=
 ∃(j:Nat),mm=j+1∧a≤j∧j≤j0∧hh=h0∧F.keep [0,1,4,12,13]=[(0,dataV b n),(1,.int .i64 a),(4,fvC),(12,.int .i64 i),(13,.int .i64 j)]
theorem lp194_5(g:SortG3 G){b:Nat}{L L':List Exe}{ws':List (Value×Value×Value)}{hh:AH}(S:SI h b L hh L' ws'){a e i0 j:Nat}(hi1:a+1≤i0)(hi2:i0≤e)(hj:a≤j)(hj2:j+1≤e)(he:e≤L.length)(hn:L.length≤1000000){F:Fr}(hF:F.keep [0,1,4,12,13]=[(0,dataV b L.length),(1,.int .i64 a),(4,fvC),(12,.int .i64 i0),(13,.int .i64 j)]){K:SExit→Fr→AH→Prop}
  (k:∀(i:Nat) (V:Value),i0≤i→i≤e→K (.exit 0) [(0,dataV b L.length),(1,.int .i64 a),(4,fvC),(12,.int .i64 i),(13,.int .i64 j),(47,V)] hh):W G (.loop [0,1,4,12,13] c194_5) F hh K:=by
 refine W_loop (inv194i b L.length a e i0 j hh) (e+1-i0) ⟨i0,rfl,Nat.le_refl _,hi2,rfl,hF⟩ ?_
 clear hF F
 rintro mm F hh' ⟨i,rfl,hi3,hi4,rfl,hF⟩
 rw[hF]
 clear hF F
 simp -implicitDefEqProofs[c194_5]
 by_cases h4:i≤j
 ·have q1:a<L.length:=by omega
  have q2:i<L.length:=by omega
  obtain⟨C,C',x,y,x1,x2,x3,y1,y2,y3,T⟩:=S.two q2 q1
  have wi:IntKind.i64.wrap ((i:Int)+1)=((i+1:Nat):Int):=by rw[wrap64 (by omega)];rfl
  simp -implicitDefEqProofs[h4,c194_3,c194_3b,q1,q2,T.blk,T.t1,T.t2,T.l1,T.l2]
  refine compare_q g.toCmpQ T.X T.Y T.sx.evs T.sx.rf T.sx.co T.sx.rows ?_
  simp -implicitDefEqProofs
  by_cases h6:cmpM x y<0
  ·simp -implicitDefEqProofs[h6,c194_4,wi]
   exact⟨e+1-(i+1),by omega,i+1,rfl,by omega,by omega,rfl,by simp⟩
  ·simp -implicitDefEqProofs[h6]
   exact k i _ hi3 hi4
 ·simp -implicitDefEqProofs[h4,c194_3,c194_3b]
  exact k i _ hi3 hi4
theorem lp194_17(g:SortG3 G){b:Nat}{L L':List Exe}{ws':List (Value×Value×Value)}{hh:AH}(S:SI h b L hh L' ws'){a e i0 j:Nat}(hi1:a+1≤i0)(hi2:i0≤e)(hj:a≤j)(hj2:j+1≤e)(he:e≤L.length)(hn:L.length≤1000000){F:Fr}(hF:F.keep [0,1,4,12,13]=[(0,dataV b L.length),(1,.int .i64 a),(4,fvC),(12,.int .i64 i0),(13,.int .i64 j)]){K:SExit→Fr→AH→Prop}
  (k:∀(i:Nat) (V:Value),i0≤i→i≤e→K (.exit 6) [(0,dataV b L.length),(1,.int .i64 a),(4,fvC),(12,.int .i64 i),(13,.int .i64 j),(120,V)] hh):W G (.loop [0,1,4,12,13] c194_17) F hh K:=by
 refine W_loop (inv194i b L.length a e i0 j hh) (e+1-i0) ⟨i0,rfl,Nat.le_refl _,hi2,rfl,hF⟩ ?_
 clear hF F
 rintro mm F hh' ⟨i,rfl,hi3,hi4,rfl,hF⟩
 rw[hF]
 clear hF F
 simp -implicitDefEqProofs[c194_17]
 by_cases h4:i≤j
 ·have q1:a<L.length:=by omega
  have q2:i<L.length:=by omega
  obtain⟨C,C',x,y,x1,x2,x3,y1,y2,y3,T⟩:=S.two q2 q1
  have wi:IntKind.i64.wrap ((i:Int)+1)=((i+1:Nat):Int):=by rw[wrap64 (by omega)];rfl
  simp -implicitDefEqProofs[h4,c194_15,c194_15b,q1,q2,T.blk,T.t1,T.t2,T.l1,T.l2]
  refine compare_q g.toCmpQ T.X T.Y T.sx.evs T.sx.rf T.sx.co T.sx.rows ?_
  simp -implicitDefEqProofs
  by_cases h6:cmpM x y<0
  ·simp -implicitDefEqProofs[h6,c194_16,wi]
   exact⟨e+1-(i+1),by omega,i+1,rfl,by omega,by omega,rfl,by simp⟩
  ·simp -implicitDefEqProofs[h6]
   exact k i _ hi3 hi4
 ·simp -implicitDefEqProofs[h4,c194_15,c194_15b]
  exact k i _ hi3 hi4
theorem lp194_8(g:SortG3 G){b:Nat}{L L':List Exe}{ws':List (Value×Value×Value)}{hh:AH}(S:SI h b L hh L' ws'){a e i j0:Nat}(hi1:a+1≤i)(hi2:i≤e)(hj:a≤j0)(hj2:j0+1≤e)(he:e≤L.length)(hn:L.length≤1000000){F:Fr}(hF:F.keep [0,1,4,12,13]=[(0,dataV b L.length),(1,.int .i64 a),(4,fvC),(12,.int .i64 i),(13,.int .i64 j0)]){K:SExit→Fr→AH→Prop}
  (k:∀(j:Nat) (V:Value),a≤j→j≤j0→K (.exit 2) [(0,dataV b L.length),(1,.int .i64 a),(4,fvC),(12,.int .i64 i),(13,.int .i64 j),(66,V)] hh):W G (.loop [0,1,4,12,13] c194_8) F hh K:=by
 refine W_loop (inv194j b L.length a e i j0 hh) (j0+1) ⟨j0,rfl,hj,Nat.le_refl _,rfl,hF⟩ ?_
 clear hF F
 rintro mm F hh' ⟨j,rfl,hj3,hj4,rfl,hF⟩
 rw[hF]
 clear hF F
 simp -implicitDefEqProofs[c194_8]
 by_cases h4:i≤j
 ·have q1:a<L.length:=by omega
  have q2:j<L.length:=by omega
  obtain⟨C,C',x,y,x1,x2,x3,y1,y2,y3,T⟩:=S.two q2 q1
  have wj:IntKind.i64.wrap ((j:Int)-1)=((j-1:Nat):Int):=by rw[wrap64 (by omega)];omega
  simp -implicitDefEqProofs[h4,c194_6,c194_6b,q1,q2,T.blk,T.t1,T.t2,T.l1,T.l2]
  refine compare_q g.toCmpQ T.X T.Y T.sx.evs T.sx.rf T.sx.co T.sx.rows ?_
  simp -implicitDefEqProofs
  by_cases h6:cmpM x y<0
  ·simp -implicitDefEqProofs[h6]
   exact k j _ hj3 hj4
  ·simp -implicitDefEqProofs[h6,c194_7,wj]
   exact⟨j-1+1,by omega,j-1,rfl,by omega,by omega,rfl,by simp⟩
 ·simp -implicitDefEqProofs[h4,c194_6,c194_6b]
  exact k j _ hj3 hj4
theorem lp194_20(g:SortG3 G){b:Nat}{L L':List Exe}{ws':List (Value×Value×Value)}{hh:AH}(S:SI h b L hh L' ws'){a e i j0:Nat}(hi1:a+1≤i)(hi2:i≤e)(hj:a≤j0)(hj2:j0+1≤e)(he:e≤L.length)(hn:L.length≤1000000){F:Fr}(hF:F.keep [0,1,4,12,13]=[(0,dataV b L.length),(1,.int .i64 a),(4,fvC),(12,.int .i64 i),(13,.int .i64 j0)]){K:SExit→Fr→AH→Prop}
  (k:∀(j:Nat) (V:Value),a≤j→j≤j0→K (.exit 8) [(0,dataV b L.length),(1,.int .i64 a),(4,fvC),(12,.int .i64 i),(13,.int .i64 j),(139,V)] hh):W G (.loop [0,1,4,12,13] c194_20) F hh K:=by
 refine W_loop (inv194j b L.length a e i j0 hh) (j0+1) ⟨j0,rfl,hj,Nat.le_refl _,rfl,hF⟩ ?_
 clear hF F
 rintro mm F hh' ⟨j,rfl,hj3,hj4,rfl,hF⟩
 rw[hF]
 clear hF F
 simp -implicitDefEqProofs[c194_20]
 by_cases h4:i≤j
 ·have q1:a<L.length:=by omega
  have q2:j<L.length:=by omega
  obtain⟨C,C',x,y,x1,x2,x3,y1,y2,y3,T⟩:=S.two q2 q1
  have wj:IntKind.i64.wrap ((j:Int)-1)=((j-1:Nat):Int):=by rw[wrap64 (by omega)];omega
  simp -implicitDefEqProofs[h4,c194_18,c194_18b,q1,q2,T.blk,T.t1,T.t2,T.l1,T.l2]
  refine compare_q g.toCmpQ T.X T.Y T.sx.evs T.sx.rf T.sx.co T.sx.rows ?_
  simp -implicitDefEqProofs
  by_cases h6:cmpM x y<0
  ·simp -implicitDefEqProofs[h6]
   exact k j _ hj3 hj4
  ·simp -implicitDefEqProofs[h6,c194_19,wj]
   exact⟨j-1+1,by omega,j-1,rfl,by omega,by omega,rfl,by simp⟩
 ·simp -implicitDefEqProofs[h4,c194_18,c194_18b]
  exact k j _ hj3 hj4
def inv194(h:AH)(b:Nat)(L:List Exe)(a e:Nat)(mm:Nat)(F:Fr)(hh:AH):Prop:=
 ∃(i j:Nat) (L':List Exe) (ws:List (Value×Value×Value)),mm=j+2-i∧a+1≤i∧i≤e∧a≤j∧j+1≤e∧SI h b L hh L' ws∧F=[(0,dataV b L.length),(1,.int .i64 a),(4,fvC),(12,.int .i64 i),(13,.int .i64 j)]
theorem part_q(g:SortG3 G){b:Nat}{L:List Exe}{ws:List (Value×Value×Value)}(s:SD h b L ws){a e p:Nat}(hp:In a e p)(he:e≤L.length)(hn:L.length≤1000000)
  (k:∀h1 L' ws' j' t,SI h b L h1 L' ws'→In a e j'→R (.tuple #[.int .i64 (j':Nat),.bool t]) h1):WC G 194 [dataV b L.length,.int .i64 a,.int .i64 e,.int .i64 p,fvC] h R:=by
 obtain⟨p1,p2⟩:=hp
 have S0:SI h b L h L ws:=⟨.refl,.refl _,s⟩
 have q1:a<L.length:=by omega
 have q2:p<L.length:=by omega
 obtain⟨C,C',x,y,x1,x2,x3,y1,y2,y3,T⟩:=S0.two q1 q2
 have wa:IntKind.i64.wrap ((a:Int)+1)=((a+1:Nat):Int):=by rw[wrap64 (by omega)];rfl
 have we:IntKind.i64.wrap ((e:Int)-1)=((e-1:Nat):Int):=by rw[wrap64 (by omega)];omega
 refine WC_enter g.g194 rfl ?_
 simp -implicitDefEqProofs[c194,c194_body,c194_0,c194_1,c194_1b,q1,q2,T.blk,T.t1,T.t2,T.l1,T.l2]
 refine⟨swap_ok T.t1 T.t2,?_⟩
 rw[T.sw,if_pos T.l3,put_put2]
 simp -implicitDefEqProofs[c194_2,wa,we]
 obtain⟨L1,ws1,S1⟩:=T.so
 generalize h.put b _=h2 at S1
 clear T S0
 refine lp194_5 g S1 (i0:=a+1) (j:=e-1) (Nat.le_refl _) (by omega) (by omega) (by omega) he hn (by simp) fun i V hi1 hi2=>?_
 simp -implicitDefEqProofs
 refine lp194_8 g S1 (i:=i) (j0:=e-1) hi1 hi2 (by omega) (by omega) he hn (by simp) fun j V' hj1 hj2=>?_
 simp -implicitDefEqProofs[c194_9]
 have q3:j<L.length:=by omega
 by_cases h5:j<i
 ·obtain⟨C,C',x,y,x1,x2,x3,y1,y2,y3,T⟩:=S1.two q3 q1
  simp -implicitDefEqProofs[h5,c194_10,c194_10b,q1,q3,T.blk,T.t1,T.t2,T.l1,T.l2]
  refine⟨swap_ok T.t1 T.t2,?_⟩
  rw[T.sw,if_pos T.l3,put_put2]
  simp -implicitDefEqProofs[c194_11]
  obtain⟨L2,ws2,S2⟩:=T.so
  exact k _ _ _ j true S2 ⟨hj1,by omega⟩
 ·have q4:i<L.length:=by omega
  have wi:IntKind.i64.wrap ((i:Int)+1)=((i+1:Nat):Int):=by rw[wrap64 (by omega)];rfl
  have wj:IntKind.i64.wrap ((j:Int)-1)=((j-1:Nat):Int):=by rw[wrap64 (by omega)];omega
  obtain⟨C,C',x,y,x1,x2,x3,y1,y2,y3,T⟩:=S1.two q4 q3
  simp -implicitDefEqProofs[h5,c194_12,c194_12b,q4,q3,T.blk,T.t1,T.t2,T.l1,T.l2]
  refine⟨swap_ok T.t1 T.t2,?_⟩
  rw[T.sw,if_pos T.l3,put_put2]
  simp -implicitDefEqProofs[c194_13,c194_14,wi,wj]
  obtain⟨L2,ws2,S2⟩:=T.so
  refine W_loop (inv194 h b L a e) (j-1+2-(i+1)) ⟨i+1,j-1,L2,ws2,rfl,by omega,by omega,by omega,by omega,S2,rfl⟩ ?_
  clear S2 T S1 wi wj L1 ws1 L2 ws2 hi1 hi2 hj1 hj2 h5 q3 q4 i j V V'
  rintro mm F hh ⟨i0,j0,L',ws',rfl,hi1,hi2,hj1,hj2,S,rfl⟩
  simp -implicitDefEqProofs[c194_25]
  refine lp194_17 g S (i0:=i0) (j:=j0) hi1 hi2 hj1 hj2 he hn (by simp) fun i V hi3 hi4=>?_
  simp -implicitDefEqProofs
  refine lp194_20 g S (i:=i) (j0:=j0) (by omega) hi4 hj1 hj2 he hn (by simp) fun j V' hj3 hj4=>?_
  simp -implicitDefEqProofs[c194_21]
  have q3:j<L.length:=by omega
  by_cases h5:j<i
  ·obtain⟨C,C',x,y,x1,x2,x3,y1,y2,y3,T⟩:=S.two q3 q1
   simp -implicitDefEqProofs[h5,c194_26,c194_26b,q1,q3,T.blk,T.t1,T.t2,T.l1,T.l2]
   refine⟨swap_ok T.t1 T.t2,?_⟩
   rw[T.sw,if_pos T.l3,put_put2]
   simp -implicitDefEqProofs[c194_27]
   obtain⟨L2,ws2,S2⟩:=T.so
   exact k _ _ _ j false S2 ⟨hj3,by omega⟩
  ·have q4:i<L.length:=by omega
   have wi:IntKind.i64.wrap ((i:Int)+1)=((i+1:Nat):Int):=by rw[wrap64 (by omega)];rfl
   have wj:IntKind.i64.wrap ((j:Int)-1)=((j-1:Nat):Int):=by rw[wrap64 (by omega)];omega
   obtain⟨C,C',x,y,x1,x2,x3,y1,y2,y3,T⟩:=S.two q4 q3
   simp -implicitDefEqProofs[h5,c194_22,c194_22b,q4,q3,T.blk,T.t1,T.t2,T.l1,T.l2]
   refine⟨swap_ok T.t1 T.t2,?_⟩
   rw[T.sw,if_pos T.l3,put_put2]
   simp -implicitDefEqProofs[c194_23,c194_24,wi,wj]
   obtain⟨L2,ws2,S2⟩:=T.so
   exact⟨j-1+2-(i+1),by omega,i+1,j-1,L2,ws2,rfl,by omega,by omega,by omega,by omega,S2,rfl⟩
end Go.Jq
namespace Go.Jq
variable {G:Nat→SFunc} {h h0 h1:AH} {R:Value→AH→Prop}
def inv192i(b n a e c:Nat)(h0:AH)(mm:Nat)(F:Fr)(hh:AH):Prop:=
 ∃(i:Nat),mm=e+1-i∧a+1≤i∧i≤e∧hh=h0∧F.keep [0,1,2,3,9,10]=[(0,dataV b n),(1,.int .i64 a),(2,.int .i64 e),(3,fvC),(9,.int .i64 i),(10,.int .i64 c)]
def inv192j(h:AH)(b:Nat)(L:List Exe)(a e i c:Nat)(mm:Nat)(F:Fr)(hh:AH):Prop:=
 ∃(j:Nat) (L':List Exe) (ws:List (Value×Value×Value)),mm=j+1∧j+1≤e∧SI h b L hh L' ws∧F.keep [0,1,2,3,9,10,11]=[(0,dataV b L.length),(1,.int .i64 a),(2,.int .i64 e),(3,fvC),(9,.int .i64 i),(10,.int .i64 c),(11,.int .i64 j)]
def inv192k(h:AH)(b:Nat)(L:List Exe)(a e i c:Nat)(mm:Nat)(F:Fr)(hh:AH):Prop:=
 ∃(j:Nat) (L':List Exe) (ws:List (Value×Value×Value)),mm=e+1-j∧1≤j∧j≤e∧SI h b L hh L' ws∧F.keep [0,1,2,3,9,10,12]=[(0,dataV b L.length),(1,.int .i64 a),(2,.int .i64 e),(3,fvC),(9,.int .i64 i),(10,.int .i64 c),(12,.int .i64 j)]
theorem lp192_6(g:SortG3 G){b:Nat}{L L':List Exe}{ws':List (Value×Value×Value)}{hh:AH}(S:SI h b L hh L' ws'){a e i0 c:Nat}(hi1:a+1≤i0)(hi2:i0≤e)(he:e≤L.length)(hn:L.length≤1000000){F:Fr}(hF:F.keep [0,1,2,3,9,10]=[(0,dataV b L.length),(1,.int .i64 a),(2,.int .i64 e),(3,fvC),(9,.int .i64 i0),(10,.int .i64 c)]){K:SExit→Fr→AH→Prop}
  (k:∀(i:Nat) (V:Value),a+1≤i→i≤e→K (.exit 2) [(0,dataV b L.length),(1,.int .i64 a),(2,.int .i64 e),(3,fvC),(9,.int .i64 i),(10,.int .i64 c),(36,V)] hh):W G (.loop [0,1,2,3,9,10] c192_6) F hh K:=by
 refine W_loop (inv192i b L.length a e c hh) (e+1-i0) ⟨i0,rfl,hi1,hi2,rfl,hF⟩ ?_
 clear hF F
 rintro mm F hh' ⟨i,rfl,hi3,hi4,rfl,hF⟩
 rw[hF]
 clear hF F
 simp -implicitDefEqProofs[c192_6]
 by_cases h4:i<e
 ·have q1:i-1<L.length:=by omega
  have q2:i<L.length:=by omega
  obtain⟨C,C',x,y,x1,x2,x3,y1,y2,y3,T⟩:=S.two q2 q1
  have wi:IntKind.i64.wrap ((i:Int)+1)=((i+1:Nat):Int):=by rw[wrap64 (by omega)];rfl
  have wj:IntKind.i64.wrap ((i:Int)-1)=((i-1:Nat):Int):=by rw[wrap64 (by omega)];omega
  simp -implicitDefEqProofs[h4,c192_4,c192_4b,q1,q2,wj,T.blk,T.t1,T.t2,T.l1,T.l2]
  refine compare_q g.toCmpQ T.X T.Y T.sx.evs T.sx.rf T.sx.co T.sx.rows ?_
  simp -implicitDefEqProofs
  by_cases h6:cmpM x y<0
  ·simp -implicitDefEqProofs[h6]
   exact k i _ hi3 hi4
  ·simp -implicitDefEqProofs[h6,c192_5,wi]
   exact⟨e+1-(i+1),by omega,i+1,rfl,by omega,by omega,rfl,by simp⟩
 ·simp -implicitDefEqProofs[h4,c192_4,c192_4b]
  exact k i _ hi3 hi4
theorem lp192_18(g:SortG3 G){b:Nat}{L L':List Exe}{ws':List (Value×Value×Value)}{hh:AH}(S:SI h b L hh L' ws'){a e i c j0:Nat}(hj:j0+1≤e)(he:e≤L.length)(hn:L.length≤1000000){F:Fr}(hF:F.keep [0,1,2,3,9,10,11]=[(0,dataV b L.length),(1,.int .i64 a),(2,.int .i64 e),(3,fvC),(9,.int .i64 i),(10,.int .i64 c),(11,.int .i64 j0)]){K:SExit→Fr→AH→Prop}
  (k:∀(h3:AH) (L1:List Exe) (ws1:List (Value×Value×Value)) (j:Nat) (E:Fr),SI h b L h3 L1 ws1→E=[(69,.bool false)]∨E=[(84,.bool true)]→K (.exit 4) ([(0,dataV b L.length),(1,.int .i64 a),(2,.int .i64 e),(3,fvC),(9,.int .i64 i),(10,.int .i64 c),(11,.int .i64 j)]++E) h3):W G (.loop [0,1,2,3,9,10,11] c192_18) F hh K:=by
 refine W_loop (inv192j h b L a e i c) (j0+1) ⟨j0,L',ws',rfl,hj,S,hF⟩ ?_
 clear hF F S L' ws' hh
 rintro mm F hh ⟨j,L',ws',rfl,hj,S,hF⟩
 rw[hF]
 clear hF F
 simp -implicitDefEqProofs[c192_18,c192_14]
 by_cases h4:1≤j
 ·have q1:j-1<L.length:=by omega
  have q2:j<L.length:=by omega
  obtain⟨C,C',x,y,x1,x2,x3,y1,y2,y3,T⟩:=S.two q2 q1
  have wj:IntKind.i64.wrap ((j:Int)-1)=((j-1:Nat):Int):=by rw[wrap64 (by omega)];omega
  simp -implicitDefEqProofs[h4,show(1:Int)≤(j:Int) by omega,c192_15,c192_15b,q1,q2,wj,T.blk,T.t1,T.t2,T.l1,T.l2]
  refine compare_q g.toCmpQ T.X T.Y T.sx.evs T.sx.rf T.sx.co T.sx.rows ?_
  simp -implicitDefEqProofs
  by_cases h6:cmpM x y<0
  ·simp -implicitDefEqProofs[h6,c192_16,c192_16b,q1,q2,wj,T.blk,T.t1,T.t2,T.l1,T.l2]
   refine⟨swap_ok T.t1 T.t2,?_⟩
   rw[T.sw,if_pos T.l3,put_put2]
   simp -implicitDefEqProofs[c192_17,wj]
   obtain⟨L2,ws2,S2⟩:=T.so
   exact⟨j-1+1,by omega,j-1,L2,ws2,rfl,by omega,S2,by simp⟩
  ·simp -implicitDefEqProofs[h6]
   exact k _ _ _ j _ S (.inr rfl)
 ·simp -implicitDefEqProofs[h4,show ¬(1:Int)≤(j:Int) by omega]
  exact k _ _ _ j _ S (.inl rfl)
theorem lp192_25(g:SortG3 G){b:Nat}{L L':List Exe}{ws':List (Value×Value×Value)}{hh:AH}(S:SI h b L hh L' ws'){a e i c j0:Nat}(hj:1≤j0)(hj2:j0≤e)(he:e≤L.length)(hn:L.length≤1000000){F:Fr}(hF:F.keep [0,1,2,3,9,10,12]=[(0,dataV b L.length),(1,.int .i64 a),(2,.int .i64 e),(3,fvC),(9,.int .i64 i),(10,.int .i64 c),(12,.int .i64 j0)]){K:SExit→Fr→AH→Prop}
  (k:∀(h3:AH) (L1:List Exe) (ws1:List (Value×Value×Value)) (j:Nat) (E:Fr),SI h b L h3 L1 ws1→E=[(109,.bool false)]∨E=[(124,.bool true)]→K (.exit 6) ([(0,dataV b L.length),(1,.int .i64 a),(2,.int .i64 e),(3,fvC),(9,.int .i64 i),(10,.int .i64 c),(12,.int .i64 j)]++E) h3):W G (.loop [0,1,2,3,9,10,12] c192_25) F hh K:=by
 refine W_loop (inv192k h b L a e i c) (e+1-j0) ⟨j0,L',ws',rfl,hj,hj2,S,hF⟩ ?_
 clear hF F S L' ws' hh
 rintro mm F hh ⟨j,L',ws',rfl,hj,hj2,S,hF⟩
 rw[hF]
 clear hF F
 simp -implicitDefEqProofs[c192_25,c192_21]
 by_cases h4:j<e
 ·have q1:j-1<L.length:=by omega
  have q2:j<L.length:=by omega
  obtain⟨C,C',x,y,x1,x2,x3,y1,y2,y3,T⟩:=S.two q2 q1
  have wj:IntKind.i64.wrap ((j:Int)-1)=((j-1:Nat):Int):=by rw[wrap64 (by omega)];omega
  have wi:IntKind.i64.wrap ((j:Int)+1)=((j+1:Nat):Int):=by rw[wrap64 (by omega)];rfl
  simp -implicitDefEqProofs[h4,c192_22,c192_22b,q1,q2,wj,T.blk,T.t1,T.t2,T.l1,T.l2]
  refine compare_q g.toCmpQ T.X T.Y T.sx.evs T.sx.rf T.sx.co T.sx.rows ?_
  simp -implicitDefEqProofs
  by_cases h6:cmpM x y<0
  ·simp -implicitDefEqProofs[h6,c192_23,c192_23b,q1,q2,wj,T.blk,T.t1,T.t2,T.l1,T.l2]
   refine⟨swap_ok T.t1 T.t2,?_⟩
   rw[T.sw,if_pos T.l3,put_put2]
   simp -implicitDefEqProofs[c192_24,wi]
   obtain⟨L2,ws2,S2⟩:=T.so
   exact⟨e+1-(j+1),by omega,j+1,L2,ws2,rfl,by omega,by omega,S2,by simp⟩
  ·simp -implicitDefEqProofs[h6]
   exact k _ _ _ j _ S (.inr rfl)
 ·simp -implicitDefEqProofs[h4]
  exact k _ _ _ j _ S (.inl rfl)
theorem mid192(g:SortG3 G){b:Nat}{L L':List Exe}{ws':List (Value×Value×Value)}{hh:AH}(S:SI h b L hh L' ws'){a e i c:Nat}(hi:a+1≤i)(hi2:i≤e)(he:e≤L.length)(hn:L.length≤1000000){E:Fr}(hE:E=[(65,.bool false)]∨∃j:Nat,E=[(11,.int .i64 j),(69,.bool false)]∨E=[(11,.int .i64 j),(84,.bool true)]){K:SExit→Fr→AH→Prop}
  (k:∀(h3:AH) (L1:List Exe) (ws1:List (Value×Value×Value)) (E:Fr),SI h b L h3 L1 ws1→(E=[(104,.bool false)]∨∃j:Nat,E=[(12,.int .i64 j),(109,.bool false)]∨E=[(12,.int .i64 j),(124,.bool true)])→K .normal ([(0,dataV b L.length),(1,.int .i64 a),(2,.int .i64 e),(3,fvC),(9,.int .i64 i),(10,.int .i64 c)]++E) h3):
  W G ((SCode.reg [0,1,2,3,9,10,104] c192_19).seq (SCode.cond (t_ 104) ((SCode.reg [0,1,2,3,9,10,12] c192_20).seq (SCode.block 6 (SCode.loop [0,1,2,3,9,10,12] c192_25))) SCode.skip)) ([(0,dataV b L.length),(1,.int .i64 a),(2,.int .i64 e),(3,fvC),(9,.int .i64 i),(10,.int .i64 c)]++E) hh K:=by
 have we:IntKind.i64.wrap ((e:Int)-(i:Int))=((e-i:Nat):Int):=by rw[wrap64 (by omega)];omega
 have wi:IntKind.i64.wrap ((i:Int)+1)=((i+1:Nat):Int):=by rw[wrap64 (by omega)];rfl
 rcases hE with rfl|⟨j,rfl|rfl⟩
 all_goals
  simp -implicitDefEqProofs[c192_19,we]
  by_cases h2:2≤e-i
  ·simp -implicitDefEqProofs[h2,show(2:Int)≤((e-i:Nat):Int) by omega,c192_20,wi]
   refine lp192_25 g S (a:=a) (e:=e) (i:=i) (c:=c) (j0:=i+1) (by omega) (by omega) he hn (by simp) fun h3 L1 ws1 j E S1 hE=>?_
   rcases hE with rfl|rfl
   ·simp -implicitDefEqProofs
    exact k _ _ _ _ S1 (.inr ⟨j,.inl rfl⟩)
   ·simp -implicitDefEqProofs
    exact k _ _ _ _ S1 (.inr ⟨j,.inr rfl⟩)
  ·simp -implicitDefEqProofs[h2,show ¬(2:Int)≤((e-i:Nat):Int) by omega]
   exact k _ _ _ _ S (.inl rfl)
def inv192(h:AH)(b:Nat)(L:List Exe)(a e:Nat)(mm:Nat)(F:Fr)(hh:AH):Prop:=
 ∃(i c:Nat) (L':List Exe) (ws:List (Value×Value×Value)),mm=6-c∧c≤5∧a+1≤i∧i≤e∧SI h b L hh L' ws∧F=[(0,dataV b L.length),(1,.int .i64 a),(2,.int .i64 e),(3,fvC),(9,.int .i64 i),(10,.int .i64 c)]
theorem pins_q(g:SortG3 G){b:Nat}{L:List Exe}{ws:List (Value×Value×Value)}(s:SD h b L ws){a e:Nat}(ha:a<e)(he:e≤L.length)(hn:L.length≤1000000)
  (k:∀h1 L' ws' t,SI h b L h1 L' ws'→R (.bool t) h1):WC G 192 [dataV b L.length,.int .i64 a,.int .i64 e,fvC] h R:=by
 have wa:IntKind.i64.wrap ((a:Int)+1)=((a+1:Nat):Int):=by rw[wrap64 (by omega)];rfl
 have we:IntKind.i64.wrap ((e:Int)-(a:Int))=((e-a:Nat):Int):=by rw[wrap64 (by omega)];omega
 refine WC_enter g.g192 rfl ?_
 simp -implicitDefEqProofs[c192,c192_body,c192_0,c192_1,c192_2,wa]
 refine W_loop (inv192 h b L a e) 6 ⟨a+1,0,L,ws,rfl,by omega,by omega,by omega,⟨.refl,.refl _,s⟩,rfl⟩ ?_
 rintro mm F hh ⟨i0,c,L',ws',rfl,hc,hi1,hi2,S,rfl⟩
 simp -implicitDefEqProofs[c192_27,c192_3]
 by_cases h3:c<5
 ·simp -implicitDefEqProofs[h3,show(c:Int)<5 by omega]
  refine lp192_6 g S (c:=c) hi1 hi2 he hn (by simp) fun i V hi3 hi4=>?_
  simp -implicitDefEqProofs[c192_7]
  by_cases h4:i=e
  ·simp -implicitDefEqProofs[h4,c192_8]
   exact k _ _ _ _ S
  ·simp -implicitDefEqProofs[h4,show ¬(i:Int)=(e:Int) by omega,c192_9,we]
   by_cases h5:e-a<50
   ·simp -implicitDefEqProofs[h5,show((e-a:Nat):Int)<50 by omega,c192_10]
    exact k _ _ _ _ S
   ·have q1:i-1<L.length:=by omega
    have q2:i<L.length:=by omega
    obtain⟨C,C',x,y,x1,x2,x3,y1,y2,y3,T⟩:=S.two q2 q1
    have wj:IntKind.i64.wrap ((i:Int)-1)=((i-1:Nat):Int):=by rw[wrap64 (by omega)];omega
    have wd:IntKind.i64.wrap ((i:Int)-(a:Int))=((i-a:Nat):Int):=by rw[wrap64 (by omega)];omega
    have wc:IntKind.i64.wrap ((c:Int)+1)=((c+1:Nat):Int):=by rw[wrap64 (by omega)];rfl
    have fin:∀(h3:AH) (L1:List Exe) (ws1:List (Value×Value×Value)) (E:Fr),SI h b L h3 L1 ws1→(E=[(104,.bool false)]∨∃j:Nat,E=[(12,.int .i64 j),(109,.bool false)]∨E=[(12,.int .i64 j),(124,.bool true)])→
      (blockK 1 (thenK (W G (SCode.reg [0,1,2,3,9,10] c192_26)) (loopK (fun F1 h1=>∃m,m<6-c∧inv192 h b L a e m F1 h1) (blockK 0 (thenK (W G ((SCode.reg [8] c192_28).seq SCode.ret)) (retK [.tmp 8] R)))))) .normal ([(0,dataV b L.length),(1,.int .i64 a),(2,.int .i64 e),(3,fvC),(9,.int .i64 i),(10,.int .i64 c)]++E) h3:=by
     intro h3 L1 ws1 E S1 hE
     rcases hE with rfl|⟨j,rfl|rfl⟩
     all_goals
      simp -implicitDefEqProofs[c192_26,wc]
      exact⟨6-(c+1),by omega,i,c+1,L1,ws1,rfl,by omega,hi3,hi4,S1,rfl⟩
    simp -implicitDefEqProofs[h5,show ¬((e-a:Nat):Int)<50 by omega,c192_11,c192_11b,q1,q2,wj,T.blk,T.t1,T.t2,T.l1,T.l2]
    refine⟨swap_ok T.t1 T.t2,?_⟩
    rw[T.sw,if_pos T.l3,put_put2]
    simp -implicitDefEqProofs[c192_12,wd]
    obtain⟨L2,ws2,S2⟩:=T.so
    by_cases h6:2≤i-a
    ·simp -implicitDefEqProofs[h6,show(2:Int)≤((i-a:Nat):Int) by omega,c192_13,wj]
     refine lp192_18 g S2 (a:=a) (i:=i) (c:=c) (j0:=i-1) (by omega) he hn (by simp) fun h3 L1 ws1 j E S3 hE=>?_
     rcases hE with rfl|rfl
     ·have r:=mid192 g S3 (c:=c) hi3 hi4 he hn (.inr ⟨j,.inl rfl⟩) fin
      simpa -implicitDefEqProofs using r
     ·have r:=mid192 g S3 (c:=c) hi3 hi4 he hn (.inr ⟨j,.inr rfl⟩) fin
      simpa -implicitDefEqProofs using r
    ·simp -implicitDefEqProofs[h6,show ¬(2:Int)≤((i-a:Nat):Int) by omega]
     have r:=mid192 g S2 (c:=c) hi3 hi4 he hn (.inl rfl) fin
     simpa -implicitDefEqProofs using r
 ·simp -implicitDefEqProofs[h3,show ¬(c:Int)<5 by omega,c192_28]
  exact k _ _ _ _ S
end Go.Jq
namespace Go.Jq
variable {G:Nat→SFunc} {h h0 h1:AH} {R:Value→AH→Prop}
structure SortG4(G:Nat→SFunc):Prop extends SortG3 G where
 g196:G 196=c196
 g141:G 141=c141
 g225:G 225=c225
 g226:G 226=c226
 g189:G 189=c189
def tabS:ByteArray:=match c196_10[3]? with
 | some o=>match o.op with
  | .idxT (.const (.string s)) _=>s
  | _=>.empty
 | _=>.empty
theorem c196_10_eq:c196_10=[o_ 19 (.mov (t_ 2)),o_ 20 (.mov (t_ 0)),o_ 21 (.conv .u8 (t_ 20)),o_ 22 (.idxT (.const (.string tabS)) (t_ 21)),o_ 23 (.conv .i64 (t_ 22)),o_ 24 (.bin .add (t_ 19) (t_ 23)),o_ 2 (.mov (t_ 24))]:=rfl
theorem tab_dec:∀x:Fin 256,((tabS.data[x.1]?).elim false fun b=>decide (b.toNat≤8)&&(decide (x.1=0)||decide (2^b.toNat≤2*x.1)))=true:=by decide +kernel
theorem tab_at{x:Nat}(hx:x<256):∃m:Nat,m≤8∧(0<x→2^m≤2*x)∧(tabS.data[x]?).map (fun b=>Value.int .u8 (b.toNat:Int))=some (.int .u8 (m:Int)):=by
 have h:=tab_dec ⟨x,hx⟩
 cases e:tabS.data[x]? with
 | none=>rw[e]at h;simp at h
 | some b=>
  rw[e]at h
  simp at h
  exact⟨b.toNat,h.1,fun h0=>h.2.resolve_left (by omega),rfl⟩
attribute [irreducible] tabS
theorem fd16(n:Nat):((n:Int)).fdiv (2^min 16 IntKind.u64.bits)=((n / 65536:Nat):Int):=by
 rw[show(2:Int)^min 16 IntKind.u64.bits=65536 from rfl,Int.fdiv_eq_ediv_of_nonneg _ (by decide)];rfl
theorem fd8(n:Nat):((n:Int)).fdiv (2^min 8 IntKind.u64.bits)=((n / 256:Nat):Int):=by
 rw[show(2:Int)^min 8 IntKind.u64.bits=256 from rfl,Int.fdiv_eq_ediv_of_nonneg _ (by decide)];rfl
theorem wu8{n:Nat}(h:n<256):IntKind.u8.wrap (n:Int)=(n:Int):=by
 simp only[IntKind.wrap,IntKind.bits,IntKind.signed]
 simp
 omega
theorem len_q(g:SortG4 G){n:Nat}(hn:n≤1000000)(k:∀m:Nat,m≤20→(0<n→2^m≤2*n)→R (.int .i64 m) h):WC G 196 [.int .u64 n] h R:=by
 have w16:IntKind.i64.wrap 16=16:=wrap64 (by omega)
 have w8:IntKind.i64.wrap 8=8:=wrap64 (by omega)
 obtain⟨q,hq⟩:∃q,q=n / 65536:=⟨_,rfl⟩
 obtain⟨p,hp⟩:∃q,q=n / 256:=⟨_,rfl⟩
 have f16:=fd16 n
 have f8:=fd8 n
 rw[←hq]at f16
 rw[←hp]at f8
 refine WC_enter g.g196 rfl ?_
 simp -implicitDefEqProofs[c196,c196_body,c196_0,c196_1,show ¬(4294967296:Int)≤(n:Int) by omega,c196_4]
 by_cases h1:65536≤n
 ·obtain⟨m,m1,m2,m3⟩:=tab_at (show q<256 by omega)
  have wm:IntKind.i64.wrap (m:Int)=(m:Int):=wrap64 (by omega)
  have wr:IntKind.i64.wrap (16+(m:Int))=((16+m:Nat):Int):=by rw[wrap64 (by omega)];rfl
  have m4:m≤4:=by
   by_cases h:4<m
   ·have:=m2 (by omega)
    have:2^5≤2^m:=Nat.pow_le_pow_right (by omega) h
    omega
   ·omega
  have m5:=m2 (by omega)
  have r:=k (16+m) (by omega) (fun _=>by rw[Nat.pow_add];omega)
  simp -implicitDefEqProofs[show(65536:Int)≤(n:Int) by omega,c196_5,c196_6,c196_7,f16,w16,show ¬(256:Int)≤(q:Int) by omega,c196_10_eq,wu8 (show q<256 by omega),m3,wm,wr]
  exact r
 ·by_cases h2:256≤n
  ·obtain⟨m,m1,m2,m3⟩:=tab_at (show p<256 by omega)
   have wm:IntKind.i64.wrap (m:Int)=(m:Int):=wrap64 (by omega)
   have wr:IntKind.i64.wrap (8+(m:Int))=((8+m:Nat):Int):=by rw[wrap64 (by omega)];rfl
   have m5:=m2 (by omega)
   have r:=k (8+m) (by omega) (fun _=>by rw[Nat.pow_add];omega)
   simp -implicitDefEqProofs[show ¬(65536:Int)≤(n:Int) by omega,c196_7,show(256:Int)≤(n:Int) by omega,c196_8,c196_9,f8,w8,c196_10_eq,wu8 (show p<256 by omega),m3,wm,wr]
   exact r
  ·obtain⟨m,m1,m2,m3⟩:=tab_at (show n<256 by omega)
   have wm:IntKind.i64.wrap (m:Int)=(m:Int):=wrap64 (by omega)
   have r:=k m (by omega) m2
   simp -implicitDefEqProofs[show ¬(65536:Int)≤(n:Int) by omega,c196_7,show ¬(256:Int)≤(n:Int) by omega,c196_10_eq,wu8 (show n<256 by omega),m3,wm]
   exact r
theorem next_q(g:SortG4 G){z:Int}(k:∀y:Int,R (.int .u64 y) (h.lays [.cells [.int .u64 y] false false])):WC G 226 [cntP h.next] (h.lays [.cells [.int .u64 z] false false]) R:=by
 refine WC_enter g.g226 rfl ?_
 simp -implicitDefEqProofs[c226,c226_body,c226_0,c226_1,c226_1b,c226_2,c226_2b,c226_3,c226_3b,c226_4]
 exact k _
theorem len2_q(g:SortG4 G){n:Nat}(hn:n≤1000000)(k:∀m:Nat,m≤20→(0<n→2^m≤2*n)→R (.int .i64 m) h):WC G 141 [.int .u64 n] h R:=by
 refine WC_enter g.g141 rfl ?_
 simp -implicitDefEqProofs[c141,c141_body,c141_0,c141_2]
 refine len_q g hn fun m m1 m2=>?_
 simp -implicitDefEqProofs
 exact k m m1 m2
theorem wu64{n:Int}(h:0≤n∧n<18446744073709551616):IntKind.u64.wrap n=n:=by
 simp only[IntKind.wrap,IntKind.bits,IntKind.signed]
 simp
 omega
theorem np_q(g:SortG4 G){n:Nat}(h0:0<n)(hn:n≤1000000)(k:∀m:Nat,m≤2000000→0<m→m≤2*n→R (.int .u64 m) h):WC G 225 [.int .i64 n] h R:=by
 refine WC_enter g.g225 rfl ?_
 have w1:IntKind.u64.wrap (n:Int)=n:=wu64 (by omega)
 simp -implicitDefEqProofs[c225,c225_body,c225_0,c225_1,w1]
 refine len2_q g hn fun m m1 m2=>?_
 have m3:=m2 h0
 have m4:0<2^m:=Nat.pow_pos (by omega)
 have r:=k (2^m) (by omega) m4 m3
 have w2:IntKind.u64.wrap ((2:Int)^min m IntKind.u64.bits)=((2^m:Nat):Int):=by
  rw[show min m IntKind.u64.bits=m from Nat.min_eq_left (by show m≤64;omega),show(2:Int)^m=((2^m:Nat):Int) by simp]
  exact wu64 (by omega)
 simp -implicitDefEqProofs
 rw[w2]
 exact r
theorem iand_lt(y:Int){m:Nat}(h0:0<m)(hm:m≤2000000):∃o:Nat,o<m∧iand .u64 y ((m-1:Nat):Int)=(o:Int):=by
 have e:(BitVec.ofInt 64 ((m-1:Nat):Int)).toNat=m-1:=by
  rw[BitVec.ofInt_natCast,BitVec.toNat_ofNat]
  exact Nat.mod_eq_of_lt (by omega)
 have l:(BitVec.ofInt 64 y &&& BitVec.ofInt 64 ((m-1:Nat):Int)).toNat≤m-1:=by
  rw[BitVec.toNat_and,e]
  exact Nat.and_le_right
 generalize hT:(BitVec.ofInt 64 y &&& BitVec.ofInt 64 ((m-1:Nat):Int)).toNat=T at l
 refine⟨T,by omega,?_⟩
 show IntKind.u64.wrap (((BitVec.ofInt 64 y &&& BitVec.ofInt 64 ((m-1:Nat):Int)).toNat:Nat):Int)=(T:Int)
 rw[hT]
 exact wu64 (by omega)
def inv189(h:AH)(b:Nat)(L:List Exe)(a n m x:Nat)(mm:Nat)(F:Fr)(hh:AH):Prop:=
 ∃(z:Int) (i:Nat) (h':AH) (L':List Exe) (ws:List (Value×Value×Value)),mm=x+2-i∧a≤i∧hh=h'.lays [.cells [.int .u64 z] false false]∧h'.next=h.next∧SI h b L h' L' ws∧F=[(0,dataV b L.length),(1,.int .i64 a),(8,.int .i64 n),(9,cntP h.next),(10,.int .u64 m),(11,.int .i64 i)]
theorem brk_q(g:SortG4 G){b:Nat}{L:List Exe}{ws:List (Value×Value×Value)}(s:SD h b L ws){a e:Nat}(ha:a<e)(he:e≤L.length)(hn:L.length≤1000000)
  (k:∀h1 L' ws',SI h b L h1 L' ws'→R (.tuple #[]) h1):WC G 189 [dataV b L.length,.int .i64 a,.int .i64 e,fvC] h R:=by
 have S0:SI h b L h L ws:=⟨.refl,.refl _,s⟩
 obtain⟨n,hnn⟩:∃n,n=e-a:=⟨_,rfl⟩
 have w1:IntKind.i64.wrap ((e:Int)-(a:Int))=(n:Int):=by rw[wrap64 (by omega)];omega
 obtain⟨q,hq⟩:∃q,q=n / 4:=⟨_,rfl⟩
 obtain⟨x,hx⟩:∃x,x=a+q*2:=⟨_,rfl⟩
 have w2:IntKind.i64.wrap ((n:Int) / 4)=(q:Int):=by rw[wrap64 (by omega)];omega
 have w5:IntKind.i64.wrap ((q:Int)*2)=(q:Int)*2:=wrap64 (by omega)
 have w7:IntKind.i64.wrap ((a:Int)+(q:Int)*2)=(x:Int):=by rw[wrap64 (by omega)];omega
 have w9:IntKind.i64.wrap ((x:Int)+1)=((x+1:Nat):Int):=by rw[wrap64 (by omega)];rfl
 have w10:IntKind.u64.wrap (n:Int)=(n:Int):=wu64 (by omega)
 refine WC_enter g.g189 rfl ?_
 simp -implicitDefEqProofs[c189,c189_body,c189_0,c189_1,w1]
 by_cases h8:8≤n
 ·simp -implicitDefEqProofs[show(8:Int)≤(n:Int) by omega,c189_2,c189_3,w10]
  have w8:IntKind.i64.wrap ((x:Int)-1)=((x-1:Nat):Int):=by rw[wrap64 (by omega)];omega
  refine np_q g (by omega) (by omega) fun m m1 m2 m3=>?_
  simp -implicitDefEqProofs[c189_4,w2,w5,w7,w8]
  refine W_loop (inv189 h b L a n m x) (x+2-(x-1)) ⟨n,x-1,h,L,ws,rfl,by omega,rfl,rfl,S0,rfl⟩ ?_
  rintro mm F hh ⟨z,i,h',L',ws',rfl,hi,rfl,hnx,S,rfl⟩
  simp -implicitDefEqProofs[c189_11,c189_5,w2,w5,w7,w9]
  by_cases h9:i≤x+1
  ·simp -implicitDefEqProofs[show(i:Int)≤(x:Int)+1 by omega,c189_6]
   rw[←hnx]
   refine next_q g fun y=>?_
   obtain⟨o,o1,o2⟩:=iand_lt y m2 m1
   have w11:IntKind.u64.wrap ((m:Int)-1)=((m-1:Nat):Int):=by rw[wu64 (by omega)];omega
   have w12:IntKind.i64.wrap (o:Int)=(o:Int):=wrap64 (by omega)
   have w13:n≤o→IntKind.i64.wrap ((o:Int)-(n:Int))=((o-n:Nat):Int):=fun _=>by rw[wrap64 (by omega)];omega
   have wi:IntKind.i64.wrap ((i:Int)+1)=((i+1:Nat):Int):=by rw[wrap64 (by omega)];rfl
   have q1:i<L.length:=by omega
   simp -implicitDefEqProofs[c189_7,w11,o2,w12]
   by_cases h10:n≤o
   ·have w14:=w13 h10
    obtain⟨t,ht⟩:∃t,t=a+(o-n):=⟨_,rfl⟩
    have wt:IntKind.i64.wrap ((a:Int)+((o-n):Nat))=(t:Int):=by rw[wrap64 (by omega)];omega
    have q2:t<L.length:=by omega
    obtain⟨C,C',x0,y0,x1,x2,x3,y1,y2,y3,T⟩:=S.two q1 q2
    have hb:(h'.lays [.cells [.int .u64 y] false false]).get b=.cells C true false:=by rw[AH.lays_lt S.sd.lt];exact T.blk
    simp -implicitDefEqProofs[h10,c189_8,w14,c189_9,c189_9b,wt,q1,q2,hb,T.t1,T.t2,T.l1,T.l2]
    refine⟨swap_ok T.t1 T.t2,?_⟩
    rw[T.sw,if_pos T.l3,put_put2,AH.lays_low S.sd.lt]
    simp -implicitDefEqProofs[c189_10,wi]
    obtain⟨L2,ws2,S2⟩:=T.so
    exact⟨x+2-(i+1),by omega,y,i+1,_,L2,ws2,rfl,by omega,rfl,hnx,S2,by simp[hnx]⟩
   ·skip
    obtain⟨t,ht⟩:∃t,t=a+o:=⟨_,rfl⟩
    have wt:IntKind.i64.wrap ((a:Int)+(o:Nat))=(t:Int):=by rw[wrap64 (by omega)];omega
    have q2:t<L.length:=by omega
    obtain⟨C,C',x0,y0,x1,x2,x3,y1,y2,y3,T⟩:=S.two q1 q2
    have hb:(h'.lays [.cells [.int .u64 y] false false]).get b=.cells C true false:=by rw[AH.lays_lt S.sd.lt];exact T.blk
    simp -implicitDefEqProofs[h10,c189_9,c189_9b,wt,q1,q2,hb,T.t1,T.t2,T.l1,T.l2]
    refine⟨swap_ok T.t1 T.t2,?_⟩
    rw[T.sw,if_pos T.l3,put_put2,AH.lays_low S.sd.lt]
    simp -implicitDefEqProofs[c189_10,wi]
    obtain⟨L2,ws2,S2⟩:=T.so
    exact⟨x+2-(i+1),by omega,y,i+1,_,L2,ws2,rfl,by omega,rfl,hnx,S2,by simp[hnx]⟩
  ·simp -implicitDefEqProofs[show ¬(i:Int)≤(x:Int)+1 by omega]
   exact k _ _ _ (S.ext .lays)
 ·simp -implicitDefEqProofs[show ¬(8:Int)≤(n:Int) by omega]
  exact k _ _ _ S0
end Go.Jq
namespace Go.Jq
variable {G:Nat→SFunc} {h h0 h1:AH} {R:Value→AH→Prop}
structure SortG5(G:Nat→SFunc):Prop extends SortG4 G where
 g140:G 140=c140
 g78:G 78=c78
 g36:G 36=c36
section
variable {b:Nat} {L L':List Exe} {hh:AH} {ws':List (Value×Value×Value)}
theorem SI.ins(S:SI h b L hh L' ws')(g:SortG5 G){a e:Nat}(ha:a≤e)(he:e≤L.length)(hn:L.length≤1000000)
  (k:∀h1 L' ws',SI h b L h1 L' ws'→R (.tuple #[]) h1):WC G 187 [dataV b L.length,.int .i64 a,.int .i64 e,fvC] hh R:=by
 rw[←S.len]
 exact ins_q g.toSortG S.sd ha (by rw[S.len];exact he) (by rw[S.len];exact hn) fun h1 L2 ws2 S2=>k _ _ _ (S.trans S2)
theorem SI.heap(S:SI h b L hh L' ws')(g:SortG5 G){a e:Nat}(ha:a<e)(he:e≤L.length)(hn:L.length≤1000000)
  (k:∀h1 L' ws',SI h b L h1 L' ws'→R (.tuple #[]) h1):WC G 188 [dataV b L.length,.int .i64 a,.int .i64 e,fvC] hh R:=by
 rw[←S.len]
 exact heap_q g.toSortG S.sd ha (by rw[S.len];exact he) (by rw[S.len];exact hn) fun h1 L2 ws2 S2=>k _ _ _ (S.trans S2)
theorem SI.brk(S:SI h b L hh L' ws')(g:SortG5 G){a e:Nat}(ha:a<e)(he:e≤L.length)(hn:L.length≤1000000)
  (k:∀h1 L' ws',SI h b L h1 L' ws'→R (.tuple #[]) h1):WC G 189 [dataV b L.length,.int .i64 a,.int .i64 e,fvC] hh R:=by
 rw[←S.len]
 exact brk_q g.toSortG4 S.sd ha (by rw[S.len];exact he) (by rw[S.len];exact hn) fun h1 L2 ws2 S2=>k _ _ _ (S.trans S2)
theorem SI.rev(S:SI h b L hh L' ws')(g:SortG5 G){a e:Nat}(ha:a<e)(he:e≤L.length)(hn:L.length≤1000000)
  (k:∀h1 L' ws',SI h b L h1 L' ws'→R (.tuple #[]) h1):WC G 191 [dataV b L.length,.int .i64 a,.int .i64 e,fvC] hh R:=by
 rw[←S.len]
 exact rev_q g.toSortG S.sd ha (by rw[S.len];exact he) (by rw[S.len];exact hn) fun h1 L2 ws2 S2=>k _ _ _ (S.trans S2)
theorem SI.pins(S:SI h b L hh L' ws')(g:SortG5 G){a e:Nat}(ha:a<e)(he:e≤L.length)(hn:L.length≤1000000)
  (k:∀h1 L' ws' t,SI h b L h1 L' ws'→R (.bool t) h1):WC G 192 [dataV b L.length,.int .i64 a,.int .i64 e,fvC] hh R:=by
 rw[←S.len]
 exact pins_q g.toSortG3 S.sd ha (by rw[S.len];exact he) (by rw[S.len];exact hn) fun h1 L2 ws2 t S2=>k _ _ _ t (S.trans S2)
theorem SI.piv(S:SI h b L hh L' ws')(g:SortG5 G){a e:Nat}(ha:a<e)(he:e≤L.length)(hn:L.length≤1000000)
  (k:∀i' c':Nat,In a e i'→c'<3→R (.tuple #[.int .i64 i',.int .i64 c']) hh):WC G 190 [dataV b L.length,.int .i64 a,.int .i64 e,fvC] hh R:=by
 rw[←S.len]
 exact piv_q g.toSortG2 S.sd ha (by rw[S.len];exact he) (by rw[S.len];exact hn) k
theorem SI.pareq(S:SI h b L hh L' ws')(g:SortG5 G){a e p:Nat}(hp:In a e p)(he:e≤L.length)(hn:L.length≤1000000)
  (k:∀h1 L' ws' i',SI h b L h1 L' ws'→a<i'→i'≤e→R (.int .i64 (i':Nat)) h1):WC G 193 [dataV b L.length,.int .i64 a,.int .i64 e,.int .i64 p,fvC] hh R:=by
 rw[←S.len]
 exact pareq_q g.toSortG3 S.sd hp (by rw[S.len];exact he) (by rw[S.len];exact hn) fun h1 L2 ws2 i' S2=>k _ _ _ i' (S.trans S2)
theorem SI.part(S:SI h b L hh L' ws')(g:SortG5 G){a e p:Nat}(hp:In a e p)(he:e≤L.length)(hn:L.length≤1000000)
  (k:∀h1 L' ws' j' t,SI h b L h1 L' ws'→In a e j'→R (.tuple #[.int .i64 (j':Nat),.bool t]) h1):WC G 194 [dataV b L.length,.int .i64 a,.int .i64 e,.int .i64 p,fvC] hh R:=by
 rw[←S.len]
 exact part_q g.toSortG3 S.sd hp (by rw[S.len];exact he) (by rw[S.len];exact hn) fun h1 L2 ws2 j' t S2=>k _ _ _ j' t (S.trans S2)
def PdqN(G:Nat→SFunc)(N:Nat):Prop:=∀(h:AH) (b:Nat) (L:List Exe) (ws:List (Value×Value×Value)) (a e l:Nat) (R:Value→AH→Prop),SD h b L ws→e-a<N→a≤e→e≤L.length→L.length≤1000000→l≤100→(∀h1 L' ws',SI h b L h1 L' ws'→R (.tuple #[]) h1)→WC G 140 [dataV b L.length,.int .i64 a,.int .i64 e,.int .i64 l,fvC] h R
theorem SI.pdq{N:Nat}(S:SI h b L hh L' ws')(ih:PdqN G N){a e l:Nat}(h1:e-a<N)(ha:a≤e)(he:e≤L.length)(hn:L.length≤1000000)(hl:l≤100)
  (k:∀h1 L' ws',SI h b L h1 L' ws'→R (.tuple #[]) h1):WC G 140 [dataV b L.length,.int .i64 a,.int .i64 e,.int .i64 l,fvC] hh R:=by
 rw[←S.len]
 exact ih hh b L' ws' a e l R S.sd h1 ha (by rw[S.len];exact he) (by rw[S.len];exact hn) hl fun h1 L2 ws2 S2=>k _ _ _ (S.trans S2)
end
theorem p20(g:SortG5 G){b:Nat}{L L':List Exe}{hh:AH}{ws':List (Value×Value×Value)}(S:SI h b L hh L' ws'){a e l p n:Nat}(hnn:n=e-a)(ih:PdqN G n)(hp:In a e p)(he:e≤L.length)(hn:L.length≤1000000)(hl:l≤100){wb wp:Bool}{K:SExit→Fr→AH→Prop}
  (k:∀(h3:AH) (L1:List Exe) (ws1:List (Value×Value×Value)) (a' e':Nat) (wb wp:Bool),SI h b L h3 L1 ws1→a'≤e'→e'≤e→e' - a'<n→K .normal [(0,dataV b L.length),(1,.int .i64 a'),(2,.int .i64 e'),(3,.int .i64 l),(4,fvC),(10,.bool wb),(11,.bool wp)] h3):
  W G (.seq (.reg [0,1,2,3,4,12,16,17] c140_20) (.seq (.reg [0,1,2,3,4,11,12,16] c140_21) (.seq (.reg [0,1,2,3,4,11,12,16,18,19] c140_22) (.seq (.reg [0,1,2,3,4,11,16,18,19,20] c140_23) (.seq (.reg [0,1,2,3,4,11,16,18,19,20,125] c140_24) (.cond (t_ 125) (.seq (.reg [0,1,2,3,4,10,11,16] c140_25) (.seq (.reg [0,2,3,4,10,11,16] c140_26) (.reg [0,1,2,3,4,10,11] c140_27))) (.seq (.reg [0,1,2,3,4,10,11,16] c140_28) (.seq (.reg [0,1,3,4,10,11,16] c140_29) (.reg [0,1,2,3,4,10,11] c140_30)))))))))
   [(0,dataV b L.length),(1,.int .i64 a),(2,.int .i64 e),(3,.int .i64 l),(4,fvC),(10,.bool wb),(11,.bool wp),(12,.int .i64 n),(13,.int .i64 p),(97,.bool false)] hh K:=by
 obtain⟨q,hq⟩:∃q,q=n / 8:=⟨_,rfl⟩
 have w4:IntKind.i64.wrap ((n:Int) / 8)=(q:Int):=by rw[wrap64 (by omega)];omega
 simp -implicitDefEqProofs[c140_20]
 refine S.part g hp he hn fun h1 L1 ws1 j t S1 ij=>?_
 have j1:a≤j:=ij.1
 have j2:j<e:=ij.2
 have w1:IntKind.i64.wrap ((j:Int)-(a:Int))=((j-a:Nat):Int):=by rw[wrap64 (by omega)];omega
 have w2:IntKind.i64.wrap ((e:Int)-(j:Int))=((e-j:Nat):Int):=by rw[wrap64 (by omega)];omega
 have w3:IntKind.i64.wrap ((j:Int)+1)=((j+1:Nat):Int):=by rw[wrap64 (by omega)];rfl
 simp -implicitDefEqProofs[c140_21,c140_22,c140_23,c140_24,w1,w2,w4]
 by_cases h1:j-a<e-j
 ·simp -implicitDefEqProofs[h1,show((j-a:Nat):Int)<((e-j:Nat):Int) by omega,c140_25,c140_26]
  refine S1.pdq ih (by omega) j1 (by omega) hn hl fun h3 L2 ws2 S2=>?_
  simp -implicitDefEqProofs[c140_27,w3]
  exact k h3 L2 ws2 (j+1) e _ _ S2 (by omega) (Nat.le_refl _) (by omega)
 ·simp -implicitDefEqProofs[h1,show ¬((j-a:Nat):Int)<((e-j:Nat):Int) by omega,c140_28,c140_29,w3]
  refine S1.pdq ih (a:=j+1) (by omega) (by omega) he hn hl fun h3 L2 ws2 S2=>?_
  simp -implicitDefEqProofs[c140_30]
  exact k h3 L2 ws2 a j _ _ S2 j1 (by omega) (by omega)
theorem p17(g:SortG5 G){b:Nat}{L L':List Exe}{hh:AH}{ws':List (Value×Value×Value)}(S:SI h b L hh L' ws'){a e l p n:Nat}(hnn:n=e-a)(ih:PdqN G n)(hp:In a e p)(he:e≤L.length)(hn:L.length≤1000000)(hl:l≤100){wb wp:Bool}{E:Fr}(hE:E=[(75,.bool false)]∨E=[(80,.bool false)]){K:SExit→Fr→AH→Prop}
  (k:∀(x:SExit) (h3:AH) (L1:List Exe) (ws1:List (Value×Value×Value)) (a' e':Nat) (wb wp:Bool),x=.normal∨x=.exit 1→SI h b L h3 L1 ws1→a'≤e'→e'≤e→e' - a'<n→K x [(0,dataV b L.length),(1,.int .i64 a'),(2,.int .i64 e'),(3,.int .i64 l),(4,fvC),(10,.bool wb),(11,.bool wp)] h3):
  W G (.seq (.seq (.dreg [0,1,2,3,4,10,11,12,13,97] c140_17 c140_17b) (.cond (t_ 97) (.seq (.reg [0,2,3,4,10,11,15] c140_18) (.seq (.reg [0,1,2,3,4,10,11] c140_19) (.exit 1))) .skip)) (.seq (.reg [0,1,2,3,4,12,16,17] c140_20) (.seq (.reg [0,1,2,3,4,11,12,16] c140_21) (.seq (.reg [0,1,2,3,4,11,12,16,18,19] c140_22) (.seq (.reg [0,1,2,3,4,11,16,18,19,20] c140_23) (.seq (.reg [0,1,2,3,4,11,16,18,19,20,125] c140_24) (.cond (t_ 125) (.seq (.reg [0,1,2,3,4,10,11,16] c140_25) (.seq (.reg [0,2,3,4,10,11,16] c140_26) (.reg [0,1,2,3,4,10,11] c140_27))) (.seq (.reg [0,1,2,3,4,10,11,16] c140_28) (.seq (.reg [0,1,3,4,10,11,16] c140_29) (.reg [0,1,2,3,4,10,11] c140_30))))))))))
   ([(0,dataV b L.length),(1,.int .i64 a),(2,.int .i64 e),(3,.int .i64 l),(4,fvC),(10,.bool wb),(11,.bool wp),(12,.int .i64 n),(13,.int .i64 p)]++E) hh K:=by
 have r:=p20 g S hnn ih hp he hn hl (wb:=wb) (wp:=wp) (K:=K) fun h3 L1 ws1 a' e' wb wp=>k .normal h3 L1 ws1 a' e' wb wp (.inl rfl)
 have p1:a≤p:=hp.1
 have p2:p<e:=hp.2
 rcases hE with rfl|rfl
 all_goals
  by_cases h1:0<a
  ·have q1:a-1<L.length:=by omega
   have q2:p<L.length:=by omega
   obtain⟨C,C',x,y,x1,x2,x3,y1,y2,y3,T⟩:=S.two q1 q2
   have wa:IntKind.i64.wrap ((a:Int)-1)=((a-1:Nat):Int):=by rw[wrap64 (by omega)];omega
   simp -implicitDefEqProofs[h1,show(0:Int)<(a:Int) by omega,c140_17,c140_17b,q1,q2,wa,T.blk,T.t1,T.t2,T.l1,T.l2]
   refine compare_q g.toCmpQ T.X T.Y T.sx.evs T.sx.rf T.sx.co T.sx.rows ?_
   simp -implicitDefEqProofs
   by_cases h6:cmpM x y<0
   ·simp -implicitDefEqProofs[h6]
    simpa -implicitDefEqProofs using r
   ·simp -implicitDefEqProofs[h6,c140_18]
    refine S.pareq g hp he hn fun h3 L1 ws1 i S1 i1 i2=>?_
    simp -implicitDefEqProofs[c140_19]
    exact k _ _ _ _ i e _ _ (.inr rfl) S1 i2 (Nat.le_refl _) (by omega)
  ·simp -implicitDefEqProofs[h1,show ¬(0:Int)<(a:Int) by omega,c140_17,c140_17b]
   simpa -implicitDefEqProofs using r
end Go.Jq
namespace Go.Jq
variable {G:Nat→SFunc} {h h0 h1:AH} {R:Value→AH→Prop}
theorem p15(g:SortG5 G){b:Nat}{L L':List Exe}{hh:AH}{ws':List (Value×Value×Value)}(S:SI h b L hh L' ws'){a e l p n c:Nat}(hnn:n=e-a)(ih:PdqN G n)(hp:In a e p)(he:e≤L.length)(hn:L.length≤1000000)(hl:l≤100){wb wp:Bool}{E:Fr}(hE:E=[(14,.int .i64 c)]∨E=[(14,.int .i64 c),(56,.bool false)]){K:SExit→Fr→AH→Prop}
  (kr:∀(F:Fr) (h3:AH) (L1:List Exe) (ws1:List (Value×Value×Value)),SI h b L h3 L1 ws1→K .ret F h3)
  (k:∀(x:SExit) (h3:AH) (L1:List Exe) (ws1:List (Value×Value×Value)) (a' e':Nat) (wb wp:Bool),x=.normal∨x=.exit 1→SI h b L h3 L1 ws1→a'≤e'→e'≤e→e' - a'<n→K x [(0,dataV b L.length),(1,.int .i64 a'),(2,.int .i64 e'),(3,.int .i64 l),(4,fvC),(10,.bool wb),(11,.bool wp)] h3):
  W G (.seq (.seq (.reg [0,1,2,3,4,10,11,12,13,75] c140_15) (.cond (t_ 75) (.seq (.reg [0,1,2,3,4,10,11,12,13,80] c140_16) (.cond (t_ 80) .ret .skip)) .skip)) (.seq (.seq (.dreg [0,1,2,3,4,10,11,12,13,97] c140_17 c140_17b) (.cond (t_ 97) (.seq (.reg [0,2,3,4,10,11,15] c140_18) (.seq (.reg [0,1,2,3,4,10,11] c140_19) (.exit 1))) .skip)) (.seq (.reg [0,1,2,3,4,12,16,17] c140_20) (.seq (.reg [0,1,2,3,4,11,12,16] c140_21) (.seq (.reg [0,1,2,3,4,11,12,16,18,19] c140_22) (.seq (.reg [0,1,2,3,4,11,16,18,19,20] c140_23) (.seq (.reg [0,1,2,3,4,11,16,18,19,20,125] c140_24) (.cond (t_ 125) (.seq (.reg [0,1,2,3,4,10,11,16] c140_25) (.seq (.reg [0,2,3,4,10,11,16] c140_26) (.reg [0,1,2,3,4,10,11] c140_27))) (.seq (.reg [0,1,2,3,4,10,11,16] c140_28) (.seq (.reg [0,1,3,4,10,11,16] c140_29) (.reg [0,1,2,3,4,10,11] c140_30)))))))))))
   ([(0,dataV b L.length),(1,.int .i64 a),(2,.int .i64 e),(3,.int .i64 l),(4,fvC),(10,.bool wb),(11,.bool wp),(12,.int .i64 n),(13,.int .i64 p)]++E) hh K:=by
 have r:=fun(h3:AH) (L1:List Exe) (ws1:List (Value×Value×Value)) (S3:SI h b L h3 L1 ws1) (E:Fr) (hE:E=[(75,.bool false)]∨E=[(80,.bool false)])=>p17 g S3 hnn ih hp he hn hl (wb:=wb) (wp:=wp) hE (K:=K) k
 have r1:=r _ _ _ S _ (.inl rfl)
 have p1:a≤p:=hp.1
 have p2:p<e:=hp.2
 rcases hE with rfl|rfl
 all_goals
  cases wb
  ·simp -implicitDefEqProofs[c140_15]
   simpa -implicitDefEqProofs using r1
  ·cases wp
   ·simp -implicitDefEqProofs[c140_15]
    simpa -implicitDefEqProofs using r1
   ·by_cases h1:c=1
    ·subst h1
     simp -implicitDefEqProofs[c140_15,c140_16]
     refine S.pins g (by omega) he hn fun h3 L1 ws1 t S1=>?_
     cases t
     ·have r2:=r _ _ _ S1 _ (.inr rfl)
      simp -implicitDefEqProofs
      simpa -implicitDefEqProofs using r2
     ·simp -implicitDefEqProofs
      exact kr _ _ _ _ S1
    ·simp -implicitDefEqProofs[h1,show ¬(c:Int)=1 by omega,c140_15]
     simpa -implicitDefEqProofs using r1
theorem p10(g:SortG5 G){b:Nat}{L L':List Exe}{hh:AH}{ws':List (Value×Value×Value)}(S:SI h b L hh L' ws'){a e l n:Nat}(hnn:n=e-a)(h0:0<n)(ih:PdqN G n)(he:e≤L.length)(hn:L.length≤1000000)(hl:l≤100){wb wp:Bool}{E:Fr}(hE:E=[]∨E=[(39,.bool false)]){K:SExit→Fr→AH→Prop}
  (kr:∀(F:Fr) (h3:AH) (L1:List Exe) (ws1:List (Value×Value×Value)),SI h b L h3 L1 ws1→K .ret F h3)
  (k:∀(x:SExit) (h3:AH) (L1:List Exe) (ws1:List (Value×Value×Value)) (a' e':Nat) (wb wp:Bool),x=.normal∨x=.exit 1→SI h b L h3 L1 ws1→a'≤e'→e'≤e→e' - a'<n→K x [(0,dataV b L.length),(1,.int .i64 a'),(2,.int .i64 e'),(3,.int .i64 l),(4,fvC),(10,.bool wb),(11,.bool wp)] h3):
  W G (.seq (.reg [0,1,2,3,4,10,11,12,13,14] c140_10) (.seq (.seq (.reg [0,1,2,3,4,10,11,12,13,14,56] c140_11) (.cond (t_ 56) (.seq (.reg [0,1,2,3,4,10,11,12,13] c140_12) (.seq (.reg [0,1,2,3,4,10,11,12,13] c140_13) (.reg [0,1,2,3,4,10,11,12,13,14] c140_14))) .skip)) (.seq (.seq (.reg [0,1,2,3,4,10,11,12,13,75] c140_15) (.cond (t_ 75) (.seq (.reg [0,1,2,3,4,10,11,12,13,80] c140_16) (.cond (t_ 80) .ret .skip)) .skip)) (.seq (.seq (.dreg [0,1,2,3,4,10,11,12,13,97] c140_17 c140_17b) (.cond (t_ 97) (.seq (.reg [0,2,3,4,10,11,15] c140_18) (.seq (.reg [0,1,2,3,4,10,11] c140_19) (.exit 1))) .skip)) (.seq (.reg [0,1,2,3,4,12,16,17] c140_20) (.seq (.reg [0,1,2,3,4,11,12,16] c140_21) (.seq (.reg [0,1,2,3,4,11,12,16,18,19] c140_22) (.seq (.reg [0,1,2,3,4,11,16,18,19,20] c140_23) (.seq (.reg [0,1,2,3,4,11,16,18,19,20,125] c140_24) (.cond (t_ 125) (.seq (.reg [0,1,2,3,4,10,11,16] c140_25) (.seq (.reg [0,2,3,4,10,11,16] c140_26) (.reg [0,1,2,3,4,10,11] c140_27))) (.seq (.reg [0,1,2,3,4,10,11,16] c140_28) (.seq (.reg [0,1,3,4,10,11,16] c140_29) (.reg [0,1,2,3,4,10,11] c140_30)))))))))))))
   ([(0,dataV b L.length),(1,.int .i64 a),(2,.int .i64 e),(3,.int .i64 l),(4,fvC),(10,.bool wb),(11,.bool wp),(12,.int .i64 n)]++E) hh K:=by
 have r:=fun(h3:AH) (L1:List Exe) (ws1:List (Value×Value×Value)) (S3:SI h b L h3 L1 ws1) (p c:Nat) (hp:In a e p) (E:Fr) (hE:E=[(14,.int .i64 c)]∨E=[(14,.int .i64 c),(56,.bool false)])=>p15 g S3 hnn ih hp he hn hl (wb:=wb) (wp:=wp) hE (K:=K) kr k
 have ha:a<e:=by omega
 have we:IntKind.i64.wrap ((e:Int)-1)=((e-1:Nat):Int):=by rw[wrap64 (by omega)];omega
 rcases hE with rfl|rfl
 all_goals
  simp -implicitDefEqProofs[c140_10]
  refine S.piv g ha he hn fun p c hp hc=>?_
  have p1:a≤p:=hp.1
  have p2:p<e:=hp.2
  by_cases h2:c=2
  ·subst h2
   have w1:IntKind.i64.wrap ((p:Int)-(a:Int))=((p-a:Nat):Int):=by rw[wrap64 (by omega)];omega
   have w2:IntKind.i64.wrap (((e-1:Nat):Int)-((p-a:Nat):Int))=((e-1-(p-a):Nat):Int):=by rw[wrap64 (by omega)];omega
   simp -implicitDefEqProofs[c140_11,c140_12]
   refine S.rev g ha he hn fun h3 L1 ws1 S1=>?_
   have r1:=r _ _ _ S1 (e-1-(p-a)) 1 ⟨by omega,by omega⟩ _ (.inl rfl)
   simp -implicitDefEqProofs[c140_13,c140_14,we,w1,w2]
   simpa -implicitDefEqProofs using r1
  ·have r1:=r _ _ _ S p c hp _ (.inr rfl)
   simp -implicitDefEqProofs[c140_11,h2,show ¬(c:Int)=2 by omega]
   simpa -implicitDefEqProofs using r1
def inv140(h:AH)(b:Nat)(L:List Exe)(n:Nat)(mm:Nat)(F:Fr)(hh:AH):Prop:=
 ∃(a e l:Nat) (wb wp:Bool) (L':List Exe) (ws:List (Value×Value×Value)),mm=e-a∧mm≤n∧a≤e∧e≤L.length∧l≤100∧SI h b L hh L' ws∧F=[(0,dataV b L.length),(1,.int .i64 a),(2,.int .i64 e),(3,.int .i64 l),(4,fvC),(10,.bool wb),(11,.bool wp)]
theorem pdq_all(g:SortG5 G):∀N,PdqN G N
 | 0=>fun h b L ws a e l R s h1=>by omega
 | N+1=>by
  have ih:=pdq_all g N
  intro h b L ws a e l R s h1 ha he hn hl k
  refine WC_enter g.g140 rfl ?_
  simp -implicitDefEqProofs[c140,c140_body,c140_0,c140_1]
  refine W_loop (inv140 h b L N) (e-a) ⟨a,e,l,true,true,L,ws,rfl,by omega,ha,he,hl,⟨.refl,.refl _,s⟩,rfl⟩ ?_
  clear s ha he hl h1 a e l ws
  rintro mm F hh ⟨a,e,l,wb,wp,L',ws',rfl,hm,ha,he,hl,S,rfl⟩
  have w1:IntKind.i64.wrap ((e:Int)-(a:Int))=((e-a:Nat):Int):=by rw[wrap64 (by omega)];omega
  have wl:1≤l→IntKind.i64.wrap ((l:Int)-1)=((l-1:Nat):Int):=fun _=>by rw[wrap64 (by omega)];omega
  simp -implicitDefEqProofs[c140_31,c140_2,w1,c140_3]
  by_cases h2:e-a≤12
  ·simp -implicitDefEqProofs[h2,show((e-a:Nat):Int)≤12 by omega,c140_4]
   refine S.ins g ha he hn fun h3 L1 ws1 S1=>?_
   simp -implicitDefEqProofs
   exact k _ _ _ S1
  ·simp -implicitDefEqProofs[h2,show ¬((e-a:Nat):Int)≤12 by omega,c140_5]
   by_cases h3:l=0
   ·simp -implicitDefEqProofs[h3,c140_6]
    refine S.heap g (by omega) he hn fun h3 L1 ws1 S1=>?_
    simp -implicitDefEqProofs
    exact k _ _ _ S1
   ·simp -implicitDefEqProofs[h3,show ¬(l:Int)=0 by omega,c140_7]
    have ih':PdqN G (e-a):=fun h b L ws a' e' l R s h1=>ih h b L ws a' e' l R s (by omega)
    have kr:∀(F:Fr) (h3:AH) (L1:List Exe) (ws1:List (Value×Value×Value)),SI h b L h3 L1 ws1→(blockK 1 (loopK (fun F1 h1=>∃m,m<e-a∧inv140 h b L N m F1 h1) (blockK 0 (retK [] R)))) .ret F h3:=by
     intro F h3 L1 ws1 S1
     simp -implicitDefEqProofs
     exact k _ _ _ S1
    have kn:∀l:Nat,l≤100→∀(x:SExit) (h3:AH) (L1:List Exe) (ws1:List (Value×Value×Value)) (a' e':Nat) (wb wp:Bool),x=.normal∨x=.exit 1→SI h b L h3 L1 ws1→a'≤e'→e'≤e→e' - a'<e-a→
      (blockK 1 (loopK (fun F1 h1=>∃m,m<e-a∧inv140 h b L N m F1 h1) (blockK 0 (retK [] R)))) x [(0,dataV b L.length),(1,.int .i64 a'),(2,.int .i64 e'),(3,.int .i64 l),(4,fvC),(10,.bool wb),(11,.bool wp)] h3:=by
     intro l hl x h3 L1 ws1 a' e' wb wp hx S1 q1 q2 q3
     rcases hx with rfl|rfl
     all_goals
      simp -implicitDefEqProofs
      exact⟨e' - a',q3,a',e',l,wb,wp,L1,ws1,rfl,by omega,q1,by omega,hl,S1,rfl⟩
    cases wb
    ·simp -implicitDefEqProofs[c140_8]
     refine S.brk g (by omega) he hn fun h4 L1 ws1 S1=>?_
     have r:=p10 g S1 rfl (by omega) ih' he hn (l:=l-1) (by omega) (wb:=false) (wp:=wp) (.inl rfl) kr (kn (l-1) (by omega))
     simp -implicitDefEqProofs[c140_9,wl (by omega)]
     simpa -implicitDefEqProofs using r
    ·have r:=p10 g S rfl (by omega) ih' he hn hl (wb:=true) (wp:=wp) (.inr rfl) kr (kn l hl)
     simp -implicitDefEqProofs
     simpa -implicitDefEqProofs using r
theorem sortfunc_q(g:SortG5 G){b:Nat}{L:List Exe}{ws:List (Value×Value×Value)}(s:SD h b L ws)(hn:L.length≤1000000)
  (k:∀h1 L' ws',SI h b L h1 L' ws'→R (.tuple #[]) h1):WC G 78 [dataV b L.length,fvC] h R:=by
 have w1:IntKind.u64.wrap (L.length:Int)=(L.length:Int):=wu64 (by omega)
 refine WC_enter g.g78 rfl ?_
 simp -implicitDefEqProofs[c78,c78_body,c78_0,c78_1,w1]
 refine len2_q g.toSortG4 hn fun m m1 m2=>?_
 simp -implicitDefEqProofs
 refine pdq_all g (L.length+1) h b L ws 0 L.length m _ s (by omega) (Nat.zero_le _) (Nat.le_refl _) hn (by omega) fun h1 L1 ws1 S1=>?_
 simp -implicitDefEqProofs
 exact k _ _ _ S1
theorem Sort_q(g:SortG5 G){b:Nat}{L:List Exe}{ws:List (Value×Value×Value)}(s:SD h b L ws)(hn:L.length≤1000000)
  (k:∀h1 L' ws',SI h b L h1 L' ws'→R (.tuple #[]) h1):WC G 36 [dataV b L.length] h R:=by
 refine WC_enter g.g36 rfl ?_
 simp -implicitDefEqProofs[c36,c36_body,c36_0]
 refine sortfunc_q g s hn fun h1 L1 ws1 S1=>?_
 simp -implicitDefEqProofs
 exact k _ _ _ S1
end Go.Jq

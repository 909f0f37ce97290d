/- What is known of some calls, reckoned with data. -/
import Derived.Test.YtnojkhkbnjcghaaGreatDoorE4
import Derived.Test.YtnojkhkbnjcghaaGreatDoorH2
import Derived.Test.YtnojkhkbnjcghaaGreatDoorI
import Derived.Test.YtnojkhkbnjcghaaGreatDoorH
import Derived.Test.YtnojkhkbnjcghaaGreatDoorC
import Derived.Test.YtnojkhkbnjcghaaGreatDoorC1
import Derived.Test.YtnojkhkbnjcghaaGreatDoorE5
import Derived.KernelRfl
set_option linter.unusedSimpArgs false
set_option linter.unusedVariables false
namespace Go.Jq
variable {G:Nat→SFunc} {h:AH}
def fnL (L:List Nat):Nat→Nat:=fun i=>(L[i]?).getD 0
def eword:EV→Option Nat
  | .raw (.int .u64 (.ofNat w))=>cond (Nat.blt w 18446744073709551616) (some w) none
  | _=>none
def ewords:List EV→Option (List Nat)
  | []=>some []
  | v :: l => match eword v with
    | some w => match ewords l with
      | some ws=>some (w::ws)
      | none=>none
    | none=>none
def erel:EV→Option (Nat×List Nat)
  | .agg (.raw (.int .i64 (.ofNat n)) :: ws) => match ewords ws with
    | some L=>cond (Nat.beq L.length 64) (cond (Nat.ble n 64) (some (n,L)) none) none
    | none=>none
  | _=>none
def relE (n:Nat) (L:List Nat):EV:=.agg (.raw (.int .i64 (.ofNat n))::L.map fun w=>.raw (.int .u64 (.ofNat w)))
theorem eword_ok {v:EV} {w n0:Nat} (H:eword v=some w):den n0 v=stW w∧w < 2 ^ 64:=by
  unfold eword at H
  split at H
  · rename_i w'
    rw [bltN] at H
    by_cases e:w' < 18446744073709551616
    · simp [e] at H;subst H;exact ⟨rfl,e⟩
    · simp [e] at H
  · simp at H
theorem ewords_ok {n0:Nat}:∀ {l:List EV} {L:List Nat},ewords l=some L→l.map (den n0)=L.map stW∧∀ w ∈ L,w < 2 ^ 64
  | [],L,H=>by simp only [ewords,Option.some.injEq] at H;subst H;simp
  | v :: l, L, H => by
    unfold ewords at H
    split at H
    · rename_i w e1
      split at H
      · rename_i ws e2
        simp only [Option.some.injEq] at H;subst H
        have a:=eword_ok (n0:=n0) e1
        have b:=ewords_ok (n0:=n0) e2
        refine ⟨by rw [List.map_cons,List.map_cons,a.1,b.1],fun x hx=>?_⟩
        rcases List.mem_cons.1 hx with rfl | hx
        · exact a.2
        · exact b.2 x hx
      · simp at H
    · simp at H
theorem rowC_fn {L:List Nat} (h:L.length=64):rowC (fnL L)=L.map stW:=by
  apply List.ext_getElem?
  intro i
  by_cases hi:i < 64
  · simp [rowC,hi,fnL,h]
  · simp [rowC,hi,h]
theorem fnL_ok {L:List Nat} (h:∀ w ∈ L,w < 2 ^ 64):RowsOk (fnL L):=fun i=>by
  unfold fnL
  cases e:L[i]? with
  | none=>decide
  | some w=>exact h w (List.mem_of_getElem? e)
theorem erel_ok {v:EV} {n n0:Nat} {L:List Nat} (H:erel v=some (n,L)):den n0 v=relV n (fnL L)∧L.length=64∧n≤64∧RowsOk (fnL L):=by
  unfold erel at H
  split at H
  · rename_i m ws
    split at H
    · rename_i L' e
      rw [beqN,bleN] at H
      by_cases h1:L'.length=64
      · by_cases h2:m≤64
        · simp [h1,h2] at H
          obtain ⟨rfl,rfl⟩:=H
          have a:=ewords_ok (n0:=n0) e
          refine ⟨?_,h1,h2,fnL_ok a.2⟩
          simp only [den,denL,denL_map,a.1,relV,relC,rowC_fn h1]
          rfl
        · simp [h1,h2] at H
      · simp [h1] at H
    · simp at H
  · simp at H
theorem relE_den {n n0:Nat} {L:List Nat} (h:L.length=64):den n0 (relE n L)=relV n (fnL L):=by
  unfold relE relV relC
  rw [rowC_fn h]
  simp only [den,denL,denL_map,List.map_map]
  congr 2
def mapK {β:Type} (k wk:Nat):List Nat→(List Nat→β)→β
  | [],c=>c []
  | w::l,c=>forceN (cond (Nat.testBit w k) (Nat.lor w wk) w) fun w=>mapK k wk l fun l=>c (w::l)
def cloLK {β:Type}:Nat→Nat→List Nat→(List Nat→β)→β
  | 0,_,L,c=>c L
  | s+1,k,L,c=>forceN (fnL L k) fun wk=>mapK k wk L fun L=>cloLK s (k+1) L c
def cloP (k wk:Nat) (L:List Nat):List Nat:=L.map fun w=>if w.testBit k then w ||| wk else w
theorem mapK_eq {β:Type} {k wk:Nat} {L:List Nat} {c:List Nat→β}:mapK k wk L c=c (cloP k wk L):=by
  induction L generalizing c with
  | nil=>rfl
  | cons w l ih =>
    rw [mapK,forceN_eq,ih]
    unfold cloP
    rw [List.map_cons]
    cases e:w.testBit k <;> simp [e] <;> rfl
theorem cloP_fn {k n:Nat} {L:List Nat} (h:L.length≤n):fnL (cloP k (fnL L k) L)=cloK n (fnL L) k:=by
  rw [cloK_eq]
  funext i
  unfold cloP
  generalize e:fnL L k=wk
  show ((L.map fun w=>if w.testBit k then w ||| wk else w)[i]?).getD 0=_
  rw [List.getElem?_map]
  cases e1:L[i]? with
  | none=>simp [fnL,e1]
  | some w =>
    have hi:i < L.length:=(List.getElem?_eq_some_iff.1 e1).1
    simp only [fnL,e1,Option.map_some,Option.getD_some]
    by_cases e2:w.testBit k=true
    · simp [e2,show i < n by omega]
    · simp [e2]
theorem cloLK_eq {β:Type} {n:Nat}:∀ {s k:Nat} {L:List Nat} {c:List Nat→β},L.length≤n→∃ L',L'.length≤n∧fnL L'=((List.range s).map (k+·)).foldl (cloK n) (fnL L)∧cloLK s k L c=c L'
  | 0,k,L,c,h=>⟨L,h,rfl,rfl⟩
  | s + 1, k, L, c, h => by
    obtain ⟨L',h1,h2,h3⟩:=cloLK_eq (s:=s) (k:=k+1) (L:=cloP k (fnL L k) L) (c:=c) (by simpa [cloP] using h)
    refine ⟨L',h1,?_,?_⟩
    · rw [h2,cloP_fn h,List.range_succ_eq_map,List.map_cons,List.foldl_cons,Nat.add_zero,List.map_map]
      congr 2
      funext i
      simp;omega
    · rw [cloLK,forceN_eq,mapK_eq,h3]
def orc30:List EV→Option EV
  | [v] => match erel v with
    | some (n,L)=>cond ((L.drop n).all (Nat.beq · 0)) (cloLK n 0 (L.take n) fun L=>some (.raw (.bool ((List.range n).all fun i=>!(fnL L i).testBit i)))) none
    | none=>none
  | _=>none
theorem fnL_take {n:Nat} {L:List Nat} (h:(L.drop n).all (Nat.beq · 0)=true):fnL (L.take n)=fnL L:=by
  funext i
  unfold fnL
  rw [List.getElem?_take]
  split
  · rfl
  · rename_i hi
    cases e:L[i]? with
    | none=>rfl
    | some w =>
      have:w ∈ L.drop n:=List.mem_of_getElem? (i:=i - n) (by rw [List.getElem?_drop,← e];congr 1;omega)
      have:=List.all_eq_true.1 h w this
      rw [Nat.eq_of_beq_eq_true this];rfl
theorem map_zero_add {n:Nat}:(List.range n).map (0+·)=List.range n:=by
  conv=>rhs;rw [← List.map_id (List.range n)]
  congr 1
  funext i
  exact Nat.zero_add i
theorem WC_run {f:Nat} {vs:List Value} {v:Value} (k:∀ R:Value→AH→Prop,R v h→WC G f vs h R):Run G (.call f vs h) (.val v h):=by
  obtain ⟨v1,h1,r,rfl,rfl⟩:=k (fun a b=>a=v∧b=h) ⟨rfl,rfl⟩
  exact r
theorem orc30_ok (g:RelG G) (g30:G 30=c30) {args:List EV} {T:TH} {v:EV} (H:orc30 args=some v):Run G (.call 30 (args.map (den h.next)) (denH h T)) (.val (den h.next v) (denH h T)):=by
  unfold orc30 at H
  split at H
  · split at H
    · rename_i n L e
      obtain ⟨a1,a2,a3,a4⟩:=erel_ok (n0:=h.next) e
      cases hd:(L.drop n).all (Nat.beq · 0) with
      | false=>rw [hd] at H;simp at H
      | true =>
        rw [hd] at H
        simp only [cond_true] at H
        obtain ⟨L',b1,b2,b3⟩:=cloLK_eq (n:=n) (s:=n) (k:=0) (L:=L.take n) (c:=fun L=>some (EV.raw (.bool ((List.range n).all fun i=>!(fnL L i).testBit i)))) (by rw [List.length_take];omega)
        rw [b3] at H
        simp only [Option.some.injEq] at H;subst H
        rw [List.map_cons,List.map_nil,a1]
        have:((List.range n).all fun i=>!(fnL L' i).testBit i)=acyM n (fnL L):=by
          rw [b2,fnL_take hd,map_zero_add];rfl
        rw [this]
        exact WC_run fun R k=>Acyclic_r g g30 a3 a4 k
    · simp at H
  · simp at H
def orc56:List EV→Option EV
  | [v, .raw (.int .i64 (.ofNat a)), .raw (.int .i64 (.ofNat b))] => match erel v with
    | some (n,L)=>cond (Nat.blt a n) (cond (Nat.blt b n) (forceN (Nat.lor (fnL L a) (2 ^ b)) fun w=>some (relE n (L.set a w))) none) none
    | none=>none
  | _=>none
theorem orc56_ok (g:RelG G) {args:List EV} {T:TH} {v:EV} (H:orc56 args=some v):Run G (.call 56 (args.map (den h.next)) (denH h T)) (.val (den h.next v) (denH h T)):=by
  unfold orc56 at H
  split at H
  · rename_i a b
    split at H
    · rename_i n L e
      obtain ⟨a1,a2,a3,a4⟩:=erel_ok (n0:=h.next) e
      rw [bltN,bltN,forceN_eq] at H
      by_cases h1:a < n
      · by_cases h2:b < n
        · simp only [h1,h2,decide_true,cond_true,Option.some.injEq] at H;subst H
          rw [List.map_cons,List.map_cons,List.map_cons,List.map_nil,a1,relE_den (by simpa using a2)]
          have:fnL (L.set a (Nat.lor (fnL L a) (2 ^ b)))=addR n (fnL L) a b:=by
            unfold addR
            rw [inB_of h1,inB_of h2]
            simp only [Bool.and_self,if_true]
            funext i
            unfold updR
            show ((L.set a _)[i]?).getD 0=_
            rw [List.getElem?_set]
            by_cases hi:i=a
            · subst hi
              simp only [show i < L.length by omega,if_true,Option.getD_some,Int.toNat_natCast]
              simp only [withN,bitN,show (0:Int)≤(b:Int)∧(b:Int) < 64 by omega,if_true,Int.toNat_natCast]
              simp
            · simp [show ¬ a=i from fun e=>hi e.symm,hi,fnL]
          rw [this]
          exact WC_run fun R k=>Add_r g a3 a4 k
        · simp [h1,h2] at H
      · simp [h1] at H
    · simp at H
  · simp at H
def forceNs {β:Type}:List Nat→(List Nat→β)→β
  | [],k=>k []
  | a::l,k=>forceN a fun a=>forceNs l fun l=>k (a::l)
theorem forceNs_eq {β:Type} {l:List Nat} {k:List Nat→β}:forceNs l k=k l:=by
  induction l generalizing k with
  | nil=>rfl
  | cons a l ih=>rw [forceNs,forceN_eq,ih]
def orc74:List EV→Option EV
  | [v, u] => match erel v with
    | some (n, L) => match erel u with
      | some (m,Q)=>cond (Nat.beq n m) (forceNs (((List.zipWith Nat.lor L Q).take n).map (fun w=>Nat.land w (2 ^ n - 1))++List.replicate (64 - n) 0) fun Q=>some (relE n Q)) none
      | none=>none
    | none=>none
  | _=>none
theorem orc74_ok (g:RelG2 G) {args:List EV} {T:TH} {v:EV} (H:orc74 args=some v):Run G (.call 74 (args.map (den h.next)) (denH h T)) (.val (den h.next v) (denH h T)):=by
  unfold orc74 at H
  split at H
  · split at H
    · rename_i n L e
      split at H
      · rename_i m Q e'
        obtain ⟨a1,a2,a3,a4⟩:=erel_ok (n0:=h.next) e
        obtain ⟨b1,b2,b3,b4⟩:=erel_ok (n0:=h.next) e'
        rw [beqN,forceNs_eq] at H
        by_cases hnm:n=m
        · subst hnm
          simp only [decide_true,cond_true,Option.some.injEq] at H;subst H
          rw [List.map_cons,List.map_cons,List.map_nil,a1,b1,relE_den (by simp [a2,b2];omega)]
          have:fnL (((List.zipWith Nat.lor L Q).take n).map (fun w=>Nat.land w (2 ^ n - 1))++List.replicate (64 - n) 0)=uniR n (fnL L) (fnL Q):=by
            funext i
            unfold fnL uniR bothR
            by_cases hi:i < n
            · rw [if_pos hi,List.getElem?_append_left (by simp [a2,b2];omega),List.getElem?_map,List.getElem?_take,if_pos hi,List.getElem?_zipWith]
              have x1:i < L.length:=by omega
              have x2:i < Q.length:=by omega
              simp only [List.getElem?_eq_getElem x1,List.getElem?_eq_getElem x2,Option.getD_some,Option.map_some]
              unfold uptoN
              rw [newN_of a3]
              rfl
            · rw [if_neg hi,List.getElem?_append_right (by simp [a2,b2];omega),List.getElem?_replicate]
              split <;> rfl
          rw [this]
          have:=@WC_run G (denH h T) 74 [relV n (fnL L),relV n (fnL Q)] (relV (min n n) (uniR (min n n) (fnL L) (fnL Q))) fun R k=>Union_r g a3 a3 a4 b4 k
          rwa [Nat.min_self] at this
        · simp [hnm] at H
      · simp at H
    · simp at H
  · simp at H
def evsE:List EV→Option (List Ev6)
  | []=>some []
  | .raw (.int .i64 t) :: .raw (.int .i64 i) :: .raw (.int .i64 k) :: .raw (.int .i64 l) :: .raw (.int .i64 r) :: .raw (.int .i64 w) :: c => match evsE c with
    | some L=>some (⟨t,i,k,l,r,w⟩::L)
    | none=>none
  | _=>none
theorem evsE_ok {n0:Nat}:∀ {c:List EV} {L:List Ev6},evsE c=some L→c.map (den n0)=L.flatMap Ev6.c
  | [],L,H=>by simp only [evsE,Option.some.injEq] at H;subst H;rfl
  | .raw (.int .i64 t) :: .raw (.int .i64 i) :: .raw (.int .i64 k) :: .raw (.int .i64 l) :: .raw (.int .i64 r) :: .raw (.int .i64 w) :: c, L, H => by
    rw [evsE] at H
    split at H
    · rename_i L' e
      simp only [Option.some.injEq] at H;subst H
      have:=evsE_ok (n0:=n0) e
      simp [List.flatMap_cons,this,Ev6.c,den]
    · simp at H
  | v :: l, L, H => by
    rw [evsE.eq_def] at H
    split at H
    · simp at *
    · rename_i t i k l r w c e
      injection e with e1 e2
      subst e1 e2
      split at H
      · rename_i L' e
        simp only [Option.some.injEq] at H;subst H
        have:=evsE_ok (n0:=n0) e
        simp [List.flatMap_cons,this,Ev6.c,den]
      · simp at H
    · simp at H
def orc52 (T:TH):List EV→Option EV
  | [.slc b o _ len _] => match T.get b with
    | .cells c _ _ => cond (Nat.blt b T.next) (cond (Nat.ble (o + len * 6) c.length) (match evsE ((c.drop o).take (len * 6)) with
      | some L=>cond (Nat.beq L.length len) (cond (Nat.ble len 64) (forceNs ((List.range 64).map (relOf len (poP L))) fun Q=>some (relE len Q)) none) none
      | none=>none) none) none
    | _=>none
  | _=>none
theorem orc52_ok (g:EvG G) {args:List EV} {T:TH} {v:EV} (H:orc52 T args=some v):Run G (.call 52 (args.map (den h.next)) (denH h T)) (.val (den h.next v) (denH h T)):=by
  unfold orc52 at H
  split at H
  · rename_i b o sp len cap
    split at H
    · rename_i c gr ro eb
      rw [bleN,bltN] at H
      by_cases hT:b < T.next
      rotate_left
      · simp [hT] at H
      by_cases h1:o+len * 6≤c.length
      · simp only [hT,h1,decide_true,cond_true] at H
        split at H
        · rename_i L e
          rw [beqN,bleN,forceNs_eq] at H
          by_cases h2:L.length=len
          · by_cases h3:len≤64
            · simp only [h2,h3,decide_true,cond_true,Option.some.injEq] at H;subst H
              have hh:=denH_get (h:=h) eb (by simp)
              have hc:=evsE_ok (n0:=h.next) e
              have hs:SlV 6 (denH h T) L.length (L.flatMap Ev6.c) (.slice (some ⟨h.next+b,o,sp⟩) len cap):=by
                refine ⟨by rw [List.length_flatMap];simp only [Ev6.c_length,List.map_const',List.sum_replicate_nat],.inr ⟨h.next+b,o,sp,cap,c.map (den h.next),gr,ro,by rw [h2],?_,hh,?_,?_⟩⟩
                · rw [denH_next];omega
                · rw [h2,List.length_map];exact h1
                · rw [h2,← hc,List.map_take,List.map_drop]
              rw [List.map_cons,List.map_nil,relE_den (by simp),den]
              have e2:fnL ((List.range 64).map (relOf len (poP L)))=relOf len (poP L):=by
                funext i
                unfold fnL
                by_cases hi:i < 64
                · simp [hi]
                · simp [hi,relOf,show ¬ i < len by omega]
              have e3:poN L=len:=by unfold poN;rw [if_neg (by omega),h2]
              rw [e2]
              exact WC_run fun R k=>PO_e g hs (by rw [e3];exact k)
            · simp [h2,h3] at H
          · simp [h2] at H
        · simp at H
      · simp [hT,h1] at H
    · simp at H
  · simp at H
end Go.Jq
namespace Go.Jq
variable {G:Nat→SFunc} {h:AH}
def erow (k:Nat) (T:TH):EV→Option (Nat×List EV)
  | .raw (.slice none 0 0)=>some (0,[])
  | .slc b o sp len cap => match T.get b with
    | .cells c _ _ => cond (Nat.blt b T.next) (cond (Nat.ble (o + len * k) c.length) (cond (Nat.ble len cap) (match sp with
      | none=>some (len,(c.drop o).take (len * k))
      | some k'=>cond (Nat.beq k' k) (some (len,(c.drop o).take (len * k))) none) none) none) none
    | _=>none
  | _=>none
theorem erow_ok {k n:Nat} {T:TH} {v:EV} {c:List EV} (H:erow k T v=some (n,c)):SlX k (denH h T) n (c.map (den h.next)) (den h.next v):=by
  unfold erow at H
  split at H
  · simp only [Option.some.injEq,Prod.mk.injEq] at H;obtain ⟨rfl,rfl⟩:=H
    exact .nil
  · rename_i b o sp len cap
    split at H
    · rename_i c0 g ro eb
      rw [bltN,bleN,bleN] at H
      by_cases h1:b < T.next
      rotate_left
      · simp [h1] at H
      by_cases h2:o+len * k≤c0.length
      rotate_left
      · simp [h1,h2] at H
      by_cases h3:len≤cap
      rotate_left
      · simp [h1,h2,h3] at H
      simp only [h1,h2,h3,decide_true,cond_true] at H
      have hh:=denH_get (h:=h) eb (by simp)
      have key:∀ hs:sp=none ∨ sp=some k,(len,(c0.drop o).take (len * k))=(n,c)→SlX k (denH h T) n (c.map (den h.next)) (den h.next (.slc b o sp len cap)):=by
        intro hs e
        simp only [Prod.mk.injEq] at e;obtain ⟨rfl,rfl⟩:=e
        refine ⟨by rw [List.length_map,List.length_take,List.length_drop];omega,.inr ⟨h.next+b,o,sp,cap,c0.map (den h.next),g,ro,rfl,hs,h3,?_,hh,?_,?_⟩⟩
        · rw [denH_next];omega
        · rw [List.length_map];exact h2
        · rw [List.map_take,List.map_drop]
      split at H
      · exact key (.inl rfl) (by simpa using H)
      · rename_i k'
        rw [beqN] at H
        by_cases h4:k'=k
        · subst h4;exact key (.inr rfl) (by simpa using H)
        · simp [h4] at H
    · simp at H
  · simp at H
def intsE:List EV→Option (List Int)
  | []=>some []
  | .raw (.int .i64 t) :: c => match intsE c with
    | some L=>some (t::L)
    | none=>none
  | _=>none
theorem intsE_ok {n0:Nat}:∀ {c:List EV} {L:List Int},intsE c=some L→c.map (den n0)=L.flatMap intC
  | [],L,H=>by simp only [intsE,Option.some.injEq] at H;subst H;rfl
  | v :: c, L, H => by
    rw [intsE.eq_def] at H
    split at H
    · simp at *
    · rename_i t c' e
      injection e with e1 e2
      subst e1 e2
      split at H
      · rename_i L' e
        simp only [Option.some.injEq] at H;subst H
        have:=intsE_ok (n0:=n0) e
        simp [List.flatMap_cons,this,intC,den]
      · simp at H
    · simp at H
def eints (T:TH) (v:EV):Option (List Int):=match erow 1 T v with
  | some (n, c) => match intsE c with
    | some L=>cond (Nat.beq L.length n) (cond (Nat.ble n 64) (some L) none) none
    | none=>none
  | none=>none
theorem eints_ok {T:TH} {v:EV} {L:List Int} (H:eints T v=some L):SlX 1 (denH h T) L.length (L.flatMap intC) (den h.next v)∧L.length≤64:=by
  unfold eints at H
  split at H
  · rename_i n c e
    split at H
    · rename_i L' e'
      rw [beqN,bleN] at H
      by_cases h1:L'.length=n
      · by_cases h2:n≤64
        · simp [h1,h2] at H;subst H
          have a:=erow_ok (h:=h) e
          rw [intsE_ok e',← h1] at a
          exact ⟨a,by omega⟩
        · simp [h1,h2] at H
      · simp [h1] at H
    · simp at H
  · simp at H
def erowsI (T:TH):List EV→Option (List (List Int))
  | []=>some []
  | v :: l => match eints T v with
    | some a => match erowsI T l with
      | some L=>some (a::L)
      | none=>none
    | none=>none
theorem erows_ok' {T:TH}:∀ {l:List EV} {L:List (List Int)},erowsI T l=some L→All2 (fun (l:List Int) u=>SlX 1 (denH h T) l.length (l.flatMap intC) u) L (l.map (den h.next))∧∀ x ∈ L,x.length≤64
  | [],L,H=>by simp only [erowsI,Option.some.injEq] at H;subst H;exact ⟨.nil,by simp⟩
  | v :: l, L, H => by
    unfold erowsI at H
    split at H
    · rename_i a e1
      split at H
      · rename_i L' e2
        simp only [Option.some.injEq] at H;subst H
        have x1:=eints_ok (h:=h) e1
        have x2:=erows_ok' (T:=T) e2
        refine ⟨.cons x1.1 x2.1,fun x hx=>?_⟩
        rcases List.mem_cons.1 hx with rfl | hx
        · exact x1.2
        · exact x2.2 x hx
      · simp at H
    · simp at H
def eexe (T:TH):EV→Option Exe
  | .agg [ev, rv, cv] => match erow 6 T ev with
    | some (n, c) => match evsE c with
      | some L => cond (Nat.beq L.length n) (cond (Nat.ble n 64) (match eints T rv with
        | some F => match erow 1 T cv with
          | some (m, d) => match erowsI T d with
            | some C=>cond (Nat.beq C.length m) (cond (Nat.ble m 64) (some ⟨L,F,C⟩) none) none
            | none=>none
          | none=>none
        | none=>none) none) none
      | none=>none
    | none=>none
  | _=>none
theorem eexe_ok {T:TH} {v:EV} {x:Exe} (H:eexe T v=some x):∃ ev rv cv,den h.next v=.agg #[ev,rv,cv]∧ExeV (denH h T) x ev rv cv∧ExeOk x:=by
  unfold eexe at H
  split at H
  · rename_i ev rv cv
    split at H
    · rename_i n c e1
      split at H
      · rename_i L e2
        rw [beqN,bleN] at H
        by_cases h1:L.length=n
        rotate_left
        · simp [h1] at H
        by_cases h2:n≤64
        rotate_left
        · simp [h1,h2] at H
        simp only [h1,h2,decide_true,cond_true] at H
        split at H
        · rename_i F e3
          split at H
          · rename_i m d e4
            split at H
            · rename_i C e5
              rw [beqN,bleN] at H
              by_cases h3:C.length=m
              rotate_left
              · simp [h3] at H
              by_cases h4:m≤64
              rotate_left
              · simp [h3,h4] at H
              simp only [h3,h4,decide_true,cond_true,Option.some.injEq] at H;subst H
              have a1:=erow_ok (h:=h) e1
              rw [evsE_ok e2,← h1] at a1
              have a2:=eints_ok (h:=h) e3
              have a3:=erow_ok (h:=h) e4
              have a4:=erows_ok' (h:=h) e5
              have ht:(List.map (den h.next) d).length=m:=by have:=a3.1;omega
              refine ⟨den h.next ev,den h.next rv,den h.next cv,by simp [den,denL],⟨a1.view,a2.1.view,⟨d.map (den h.next),?_,a4.1⟩⟩,⟨?_,?_,?_⟩⟩
              · show SlX 1 _ C.length _ _
                rw [h3];exact a3
              · show L.length≤_;omega
              · show C.length≤_;omega
              · intro l hl
                have:=a4.2 l hl;omega
            · simp at H
          · simp at H
        · simp at H
      · simp at H
    · simp at H
  · simp at H
def rowsK {β:Type} (n:Nat) (P:Nat→Nat→Bool):List Nat→(List Nat→β)→β
  | [],c=>c []
  | a::l,c=>forceN (bitsN n (P a)) fun w=>rowsK n P l fun l=>c (w::l)
theorem rowsK_eq {β:Type} {n:Nat} {P:Nat→Nat→Bool} {l:List Nat} {c:List Nat→β}:rowsK n P l c=c (l.map fun a=>bitsN n (P a)):=by
  induction l generalizing c with
  | nil=>rfl
  | cons a l ih=>rw [rowsK,forceN_eq,ih];rfl
def acyE (n:Nat) (P:Nat→Nat→Bool):Bool:=rowsK n P (List.range n) fun L=>cloLK n 0 L fun L=>(List.range n).all fun i=>!(fnL L i).testBit i
theorem acyE_eq {n:Nat} {P:Nat→Nat→Bool}:acyE n P=acyM n (relOf n P):=by
  unfold acyE
  rw [rowsK_eq]
  obtain ⟨L',b1,b2,b3⟩:=cloLK_eq (n:=n) (s:=n) (k:=0) (L:=(List.range n).map fun a=>bitsN n (P a)) (c:=fun L=>((List.range n).all fun i=>!(fnL L i).testBit i)) (by simp)
  rw [b3,b2,map_zero_add]
  have:fnL ((List.range n).map fun a=>bitsN n (P a))=relOf n P:=by
    funext i
    unfold fnL relOf
    by_cases hi:i < n
    · simp [hi]
    · simp [hi]
  rw [this];rfl
def forceP {β:Type}:List (Nat×Nat)→(List (Nat×Nat)→β)→β
  | [],c=>c []
  | (a,b)::l,c=>forceN a fun a=>forceN b fun b=>forceP l fun l=>c ((a,b)::l)
theorem forceP_eq {β:Type} {l:List (Nat×Nat)} {c:List (Nat×Nat)→β}:forceP l c=c l:=by
  induction l generalizing c with
  | nil=>rfl
  | cons a l ih=>obtain ⟨a,b⟩:=a;rw [forceP,forceN_eq,forceN_eq,ih]
def inE:List (Nat×Nat)→Nat→Nat→Bool
  | [],_,_=>false
  | (x,y)::l,a,b=>cond (Nat.beq a x) (cond (Nat.beq b y) true (inE l a b)) (inE l a b)
theorem inE_eq {l:List (Nat×Nat)} {a b:Nat}:inE l a b=inL l a b:=by
  unfold inL
  induction l with
  | nil=>rfl
  | cons x l ih =>
    obtain ⟨x,y⟩:=x
    rw [inE,beqN,beqN,ih,List.contains_cons]
    by_cases h1:a=x
    · by_cases h2:b=y
      · simp [h1,h2]
      · simp [h1,h2]
    · simp [h1]
def conE (m:Int) (x:Exe):Bool:=cond (decide (1≤m)) (cond (decide (m≤3)) (cond (soundM x) (cond (atomicM x)
  (forceP (coL x) fun co=>forceP (frL x) fun fr=>forceP (rfL x) fun rf =>
    cond (acyE x.evs.length fun a b=>poX x.evs a b && sameC x.evs a b || (inE co a b || inE fr a b || inE rf a b))
      (acyE x.evs.length fun a b=>(keptP m x.evs x.evs.length (poX x.evs) a b || inE rf a b && outC x.evs a b) || (inE co a b || inE fr a b)) false) false) false) false) false
theorem cond_and {a b:Bool}:cond a b false=(a && b):=by cases a <;> rfl
theorem conE_eq {m:Int} {x:Exe}:conE m x=conM m x:=by
  unfold conE conM
  simp only [forceP_eq,acyE_eq,inE_eq,cond_and]
def orc35 (T:TH):List EV→Option EV
  | [.raw (.int .i64 m), v] => match eexe T v with
    | some x=>some (.raw (.bool (conE m x)))
    | none=>none
  | _=>none
theorem orc35_ok (g:AxG G) {args:List EV} {T:TH} {v:EV} (H:orc35 T args=some v):Run G (.call 35 (args.map (den h.next)) (denH h T)) (.val (den h.next v) (denH h T)):=by
  unfold orc35 at H
  split at H
  · rename_i m v
    split at H
    · rename_i x e
      simp only [Option.some.injEq] at H;subst H
      obtain ⟨ev,rv,cv,e1,e2,e3⟩:=eexe_ok (h:=h) e
      rw [List.map_cons,List.map_cons,List.map_nil,e1,conE_eq]
      exact WC_run fun R k=>Consistent_s g e2 e3 k
    · simp at H
  · simp at H
def eev:List EV→Option Ev6
  | [.agg c] => match evsE c with
    | some [e]=>some e
    | _=>none
  | _=>none
theorem eev_ok {args:List EV} {e:Ev6} {n0:Nat} (H:eev args=some e):args.map (den n0)=[e.v]:=by
  unfold eev at H
  split at H
  · rename_i c
    split at H
    · rename_i e' e1
      simp only [Option.some.injEq] at H;subst H
      have:=evsE_ok (n0:=n0) e1
      simp only [List.map_cons,List.map_nil,den,denL_map,this]
      simp [Ev6.c,Ev6.v]
    · simp at H
  · simp at H
def orc100 (args:List EV):Option EV:=match eev args with
  | some e=>some (.raw (.bool e.reads))
  | none=>none
def orc101 (args:List EV):Option EV:=match eev args with
  | some e=>some (.raw (.bool e.writes))
  | none=>none
theorem orc100_ok (g:EvG G) {args:List EV} {T:TH} {v:EV} (H:orc100 args=some v):Run G (.call 100 (args.map (den h.next)) (denH h T)) (.val (den h.next v) (denH h T)):=by
  unfold orc100 at H
  split at H
  · rename_i e e1
    simp only [Option.some.injEq] at H;subst H
    rw [eev_ok e1]
    exact WC_run fun R k=>Reads_e g k
  · simp at H
theorem orc101_ok (g:EvG G) {args:List EV} {T:TH} {v:EV} (H:orc101 args=some v):Run G (.call 101 (args.map (den h.next)) (denH h T)) (.val (den h.next v) (denH h T)):=by
  unfold orc101 at H
  split at H
  · rename_i e e1
    simp only [Option.some.injEq] at H;subst H
    rw [eev_ok e1]
    exact WC_run fun R k=>Writes_e g k
  · simp at H
def orc53:List EV→Option EV
  | [v, .raw (.int .i64 (.ofNat a))] => match erel v with
    | some (n,L)=>cond (Nat.blt a n) (forceN (fnL L a) fun w=>some (.raw (.int .u64 (.ofNat w)))) none
    | none=>none
  | _=>none
theorem orc53_ok (g:RelG2 G) {args:List EV} {T:TH} {v:EV} (H:orc53 args=some v):Run G (.call 53 (args.map (den h.next)) (denH h T)) (.val (den h.next v) (denH h T)):=by
  unfold orc53 at H
  split at H
  · rename_i a
    split at H
    · rename_i n L e
      obtain ⟨a1,a2,a3,a4⟩:=erel_ok (n0:=h.next) e
      rw [bltN,forceN_eq] at H
      by_cases h1:a < n
      · simp only [h1,decide_true,cond_true,Option.some.injEq] at H;subst H
        rw [List.map_cons,List.map_cons,List.map_nil,a1]
        have:fnL L a=rowN n (fnL L) a:=by unfold rowN;rw [inB_of h1];simp
        rw [this]
        exact WC_run fun R k=>Row_r g a3 a4 k
      · simp [h1] at H
    · simp at H
  · simp at H
def orcB:EOrc:=fun f args T=>cond (Nat.blt f 60) (cond (Nat.beq f 30) (orc30 args) (cond (Nat.beq f 35) (orc35 T args) (cond (Nat.beq f 52) (orc52 T args) (cond (Nat.beq f 53) (orc53 args) (cond (Nat.beq f 56) (orc56 args) none)))))
  (cond (Nat.beq f 74) (orc74 args) (cond (Nat.beq f 100) (orc100 args) (cond (Nat.beq f 101) (orc101 args) none)))
theorem orcB_ok (g:AxG G) (e:EvG G) (g30:G 30=c30):OrcOk G h orcB:=by
  intro f args T v H
  unfold orcB at H
  rw [bltN,beqN,beqN,beqN,beqN,beqN,beqN,beqN,beqN] at H
  by_cases h0:f < 60
  · simp only [h0,decide_true,cond_true] at H
    by_cases h1:f=30
    · subst h1;exact orc30_ok e.toRelG g30 (by simpa using H)
    by_cases h2:f=35
    · subst h2;exact orc35_ok g (by simpa using H)
    by_cases h3:f=52
    · subst h3;exact orc52_ok e (by simpa using H)
    by_cases h4:f=53
    · subst h4;exact orc53_ok e.toRelG2 (by simpa using H)
    by_cases h5:f=56
    · subst h5;exact orc56_ok e.toRelG (by simpa using H)
    simp [h1,h2,h3,h4,h5] at H
  · simp only [h0,decide_false,cond_false] at H
    by_cases h1:f=74
    · subst h1;exact orc74_ok e.toRelG2 (by simpa using H)
    by_cases h2:f=100
    · subst h2;exact orc100_ok e (by simpa using H)
    by_cases h3:f=101
    · subst h3;exact orc101_ok e (by simpa using H)
    simp [h1,h2,h3] at H
end Go.Jq
namespace Go.Jq
def AW_list:List (Nat×SFunc):=[(19,c19),(20,c20),(28,c28),(29,c29),(31,c31),(32,c32),(33,c33),(34,c34),(35,c35),(36,c36),(38,c38),(51,c51),(53,c53),(54,c54),(55,c55),(58,c58),(59,c59),(60,c60),(61,c61),(62,c62),(63,c63),(64,c64),(65,c65),(66,c66),(67,c67),(68,c68),(69,c69),(70,c70),(71,c71),(72,c72),(73,c73),(75,c75),(76,c76),(77,c77),(78,c78),(79,c79),(98,c98),(99,c99),(100,c100),(101,c101),(102,c102),(103,c103),(104,c104),(105,c105),(106,c106),(107,c107),(108,c108),(109,c109),(110,c110),(111,c111),(112,c112),(113,c113),(114,c114),(115,c115),(116,c116),(117,c117),(118,c118),(119,c119),(120,c120),(121,c121),(122,c122),(123,c123),(124,c124),(125,c125),(126,c126),(127,c127),(128,c128),(129,c129),(130,c130),(131,c131),(132,c132),(135,c135),(136,c136),(137,c137),(138,c138),(139,c139),(140,c140),(141,c141),(142,c142),(143,c143),(144,c144),(145,c145),(146,c146),(147,c147),(170,c170),(171,c171),(172,c172),(173,c173),(174,c174),(176,c176),(177,c177),(178,c178),(179,c179),(180,c180),(181,c181),(182,c182),(183,c183),(184,c184),(185,c185),(186,c186),(187,c187),(196,c196),(197,c197),(198,c198),(223,c223),(229,c229),(230,c230),(250,c250)]
def AW_tree:Tri SFunc:=(.node none (.node none (.node none (.node none (.node none (.node (some c31) (.node (some c63) (.node (some c127) .leaf .leaf) .leaf) (.node none .leaf (.node (some c223) .leaf .leaf))) (.node none (.node (some c79) (.node (some c143) .leaf .leaf) .leaf) (.node (some c111) .leaf .leaf))) (.node none (.node none (.node (some c71) (.node (some c135) .leaf .leaf) .leaf) (.node (some c103) .leaf .leaf)) (.node (some c55) .leaf (.node (some c119) (.node (some c183) .leaf .leaf) .leaf)))) (.node none (.node (some c19) (.node (some c35) (.node (some c67) (.node (some c131) .leaf .leaf) .leaf) (.node (some c99) .leaf .leaf)) (.node (some c51) (.node none (.node (some c147) .leaf .leaf) .leaf) (.node (some c115) (.node (some c179) .leaf .leaf) .leaf))) (.node none (.node none (.node (some c75) (.node (some c139) .leaf .leaf) .leaf) (.node (some c107) (.node (some c171) .leaf .leaf) .leaf)) (.node (some c59) .leaf (.node (some c123) (.node (some c187) .leaf .leaf) .leaf))))) (.node none (.node none (.node none (.node (some c33) (.node (some c65) (.node (some c129) .leaf .leaf) .leaf) .leaf) (.node none (.node none (.node (some c145) .leaf .leaf) .leaf) (.node (some c113) (.node (some c177) .leaf .leaf) .leaf))) (.node none (.node none (.node (some c73) (.node (some c137) .leaf .leaf) .leaf) (.node (some c105) .leaf .leaf)) (.node none .leaf (.node (some c121) (.node (some c185) .leaf .leaf) .leaf)))) (.node none (.node none (.node none (.node (some c69) .leaf (.node (some c197) .leaf .leaf)) (.node (some c101) .leaf (.node (some c229) .leaf .leaf))) (.node (some c53) .leaf (.node (some c117) (.node (some c181) .leaf .leaf) .leaf))) (.node (some c29) (.node none (.node (some c77) (.node (some c141) .leaf .leaf) .leaf) (.node (some c109) (.node (some c173) .leaf .leaf) .leaf)) (.node (some c61) .leaf (.node (some c125) .leaf .leaf)))))) (.node none (.node none (.node none (.node none (.node (some c32) (.node (some c64) (.node (some c128) .leaf .leaf) .leaf) .leaf) (.node none (.node none (.node (some c144) .leaf .leaf) .leaf) (.node (some c112) (.node (some c176) .leaf .leaf) .leaf))) (.node none (.node none (.node (some c72) (.node (some c136) .leaf .leaf) .leaf) (.node (some c104) .leaf .leaf)) (.node none .leaf (.node (some c120) (.node (some c184) .leaf .leaf) .leaf)))) (.node none (.node (some c20) (.node (some c36) (.node (some c68) (.node (some c132) .leaf .leaf) (.node (some c196) .leaf .leaf)) (.node (some c100) .leaf .leaf)) (.node none .leaf (.node (some c116) (.node (some c180) .leaf .leaf) .leaf))) (.node (some c28) (.node none (.node (some c76) (.node (some c140) .leaf .leaf) .leaf) (.node (some c108) (.node (some c172) .leaf .leaf) .leaf)) (.node (some c60) .leaf (.node (some c124) .leaf .leaf))))) (.node none (.node none (.node none (.node (some c34) (.node (some c66) (.node (some c130) .leaf .leaf) .leaf) (.node (some c98) .leaf .leaf)) (.node none (.node none (.node (some c146) .leaf .leaf) .leaf) (.node (some c114) (.node (some c178) .leaf .leaf) .leaf))) (.node none (.node none (.node none (.node (some c138) .leaf .leaf) .leaf) (.node (some c106) (.node (some c170) .leaf .leaf) .leaf)) (.node (some c58) .leaf (.node (some c122) (.node (some c186) .leaf .leaf) (.node (some c250) .leaf .leaf))))) (.node none (.node none (.node (some c38) (.node (some c70) .leaf (.node (some c198) .leaf .leaf)) (.node (some c102) .leaf (.node (some c230) .leaf .leaf))) (.node (some c54) .leaf (.node (some c118) (.node (some c182) .leaf .leaf) .leaf))) (.node none (.node none (.node (some c78) (.node (some c142) .leaf .leaf) .leaf) (.node (some c110) (.node (some c174) .leaf .leaf) .leaf)) (.node (some c62) .leaf (.node (some c126) .leaf .leaf)))))))
end Go.Jq
namespace Go.Jq
def okAll (n:Nat):Option (EV×TH)→Bool
  | some (.tup [.slc _ _ _ m _,.raw (.bool true)],_)=>Nat.beq m n
  | _=>false
noncomputable def sb0:Option (EV×TH):=(machF orcB AW_tree 100).call 20 [] ⟨0,.leaf⟩
noncomputable def runSB (m:Int):Option (EV×TH):=match sb0 with
  | some (p,T)=>(machF orcB AW_tree 3000).call 19 [p,.raw (.int .i64 m),.raw (.int .i64 100)] T
  | none=>none
set_option maxRecDepth 100000 in
theorem AW_TL:AW_tree=triOf AW_list:=by kernel_rfl
end Go.Jq

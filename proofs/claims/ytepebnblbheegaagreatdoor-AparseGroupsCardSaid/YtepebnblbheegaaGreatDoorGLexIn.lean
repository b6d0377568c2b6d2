/- Dialect A's Lex of a source that stands in a greater one, with a line's end or a blank behind it. No program stands in it. -/
import Derived.Test.YtepebnblbheegaaGreatDoorGZH
namespace Go.Proofs.YtepebnblbheegaaGreatDoor
open Go Go.RowKit
def Behind (X:List UInt8):Prop:=∃ c m,X=c :: m∧(c=10∨c=32)
theorem idxA_app (b:Nat):∀ (l m:List UInt8) (n:Nat),idxA b l=some n→idxA b (l++m)=some n
 | [],m,n,h=>by cases h
 | c :: l,m,n,h=>by
  rw [List.cons_append,idxA]
  rw [idxA] at h
  split
  ·rename_i hc
   rw [if_pos hc] at h
   exact h
  ·rename_i hc
   rw [if_neg hc] at h
   cases hx:idxA b l with
   | none=>rw [hx] at h; cases h
   | some k =>
    rw [hx] at h
    rw [idxA_app b l m k hx]
    exact h
theorem takeWhile_app {p:UInt8→Bool}:∀ (l:List UInt8) {X:List UInt8},(∀ c m,X=c :: m→p c=false)→(l++X).takeWhile p=l.takeWhile p
 | [],X,h=>by
  cases X with
  | nil=>rfl
  | cons c m=>rw [List.nil_append,List.takeWhile_cons,h c m rfl]; rfl
 | c :: l,X,h=>by
  rw [List.cons_append,List.takeWhile_cons,List.takeWhile_cons,takeWhile_app l h]
theorem Behind.go {X:List UInt8} (h:Behind X):∀ c m,X=c :: m→isGo c=false:=by
 obtain ⟨c,m,rfl,hc⟩:=h
 rintro c' m' e
 cases e
 rcases hc with rfl | rfl <;> rfl
theorem runName_app {X:List UInt8} (h:Behind X) (l:List UInt8):runName (l++X)=runName l:=by
 cases l with
 | nil =>
  obtain ⟨c,m,rfl,hc⟩:=id h
  rcases hc with rfl | rfl <;> rfl
 | cons c l =>
  rw [List.cons_append,runName,runName,← List.cons_append,takeWhile_app (c :: l) h.go]
theorem bytesA_strip {P Q:List APart} (h:Q.map stripP=P.map stripP) (j:Bool) (kind i i':Nat) (s:List UInt8):(bytesA Q j kind i' s).map stripP=(bytesA P j kind i s).map stripP:=by
 have hl:Q.getLast?.map stripP=P.getLast?.map stripP:=by rw [← List.getLast?_map,← List.getLast?_map,h]
 have hd:Q.dropLast.map stripP=P.dropLast.map stripP:=by rw [List.map_dropLast,List.map_dropLast,h]
 unfold bytesA
 cases hp:P.getLast? with
 | none =>
  cases hq:Q.getLast? with
  | some q=>rw [hp,hq] at hl; cases hl
  | none =>
   dsimp only
   rw [List.map_append,List.map_append,h]
   rfl
 | some p =>
  cases hq:Q.getLast? with
  | none=>rw [hp,hq] at hl; cases hl
  | some q =>
   rw [hp,hq] at hl
   simp only [Option.map_some,Option.some.injEq] at hl
   have hk:q.kind=p.kind:=(congrArg APart.kind hl:(stripP q).kind=(stripP p).kind)
   have h2:q.num=p.num:=(congrArg APart.num hl:(stripP q).num=(stripP p).num)
   have h3:q.quoted=p.quoted:=(congrArg APart.quoted hl:(stripP q).quoted=(stripP p).quoted)
   have h4:q.text=p.text:=(congrArg APart.text hl:(stripP q).text=(stripP p).text)
   dsimp only
   rw [hk]
   split
   ·rw [List.map_append,List.map_append,hd]
    simp only [List.map_cons,List.map_nil,stripP,h2,h3,h4]
   ·rw [List.map_append,List.map_append,h]
    rfl
theorem part_strip {P Q:List APart} (h:Q.map stripP=P.map stripP) (x y:APart) (hx:stripP y=stripP x):(Q++[y]).map stripP=(P++[x]).map stripP:=by
 rw [List.map_append,List.map_append,h,List.map_cons,List.map_cons,hx]
section
variable {s X L:List UInt8} {k i:Nat}
theorem in_get (hd:L.drop k=s.drop i++X) (x:Nat) (h:i+x<s.length):L.getD (k+x) 0=s.getD (i+x) 0:=by
 rw [← getD_drop,hd,← getD_drop,List.getD_eq_getElem?_getD,List.getD_eq_getElem?_getD,List.getElem?_append_left (by rw [List.length_drop]; omega)]
theorem in_len (hd:L.drop k=s.drop i++X) (hX:Behind X) (x:Nat) (h:i+x≤s.length):k+x<L.length:=by
 obtain ⟨c,m,rfl,-⟩:=hX
 have:=congrArg List.length hd
 rw [List.length_drop,List.length_append,List.length_cons,List.length_drop] at this
 omega
theorem in_drop (hd:L.drop k=s.drop i++X) (x:Nat) (h:i+x≤s.length):L.drop (k+x)=s.drop (i+x)++X:=by
 rw [← List.drop_drop,hd,List.drop_append_of_le_length (by rw [List.length_drop]; omega),List.drop_drop]
theorem in_end (hd:L.drop k=s.drop i++X) (hX:Behind X) (_h:i≤s.length) (x:Nat) (hx:i+x=s.length):L.getD (k+x) 0=10∨L.getD (k+x) 0=32:=by
 obtain ⟨c,m,rfl,hc⟩:=hX
 have h:=in_drop hd x (by omega)
 rw [hx,List.drop_of_length_le (Nat.le_refl _),List.nil_append] at h
 rw [(drop_head h).2.1]
 exact hc
theorem in_subs (hd:L.drop k=s.drop i++X) (a b:Nat) (h:i+b≤s.length):subs L ((k+a:Nat):Int) ((k+b:Nat):Int)=subs s ((i+a:Nat):Int) ((i+b:Nat):Int):=by
 unfold subs
 rw [Int.toNat_natCast,Int.toNat_natCast,Int.toNat_natCast,Int.toNat_natCast,List.drop_take,List.drop_take]
 by_cases hab:a≤b
 ·rw [in_drop hd a (by omega),show k+b - (k+a)=b - a by omega,show i+b - (i+a)=b - a by omega,List.take_append_of_le_length (by rw [List.length_drop]; omega)]
 ·rw [show k+b - (k+a)=0 by omega,show i+b - (i+a)=0 by omega]
  rfl
theorem dollar_in (hd:L.drop k=s.drop i++X) (hX:Behind X) (q:Bool) (P:List APart) (j:Bool) (i':Nat) (P':List APart) (j':Bool) (hi:i<s.length) (h:dollarA s q i P j = .ok (i',P',j')) (Q:List APart) (hQ:Q.map stripP=P.map stripP) :
  ∃ Q',dollarA L q k Q j = .ok (k+(i' - i),Q',j')∧Q'.map stripP=P'.map stripP:=by
 have hn:runName (L.drop (k+1))=runName (s.drop (i+1)):=by
  rw [in_drop hd 1 (by omega),runName_app hX]
 unfold dollarA at h ⊢
 dsimp only at h ⊢
 rw [hn]
 by_cases h1:runName (s.drop (i+1))≠[]
 ·rw [if_pos h1] at h ⊢
  split at h
  ·rename_i hN
   rw [if_pos hN]
   cases h
   rw [show k+(i+1+(runName (s.drop (i+1))).length - i)=k+1+(runName (s.drop (i+1))).length by omega]
   exact ⟨_,rfl,part_strip hQ _ _ rfl⟩
  ·cases h
 ·rw [if_neg h1] at h ⊢
  by_cases h2:i+1<s.length
  ·rw [in_get hd 1 h2]
   by_cases c1:(s.getD (i+1) 0).toNat=123
   ·rw [if_pos c1] at h ⊢
    cases hx:idxA 125 (s.drop (i+2)) with
    | none=>rw [hx] at h; cases h
    | some n =>
     rw [hx] at h
     have hl:=idxA_lt 125 _ _ hx
     rw [List.length_drop] at hl
     rw [in_drop hd 2 (by omega),idxA_app 125 _ X n hx]
     dsimp only at h ⊢
     have hsub:subs L ((k:Int)+2) ((k:Int)+2+(n:Int))=subs s ((i:Int)+2) ((i:Int)+2+(n:Int)):=by
      have:=in_subs hd 2 (2+n) (by omega)
      rw [show (((k+2:Nat)):Int)=(k:Int)+2 by omega,show (((k+(2+n):Nat)):Int)=(k:Int)+2+(n:Int) by omega,show (((i+2:Nat)):Int)=(i:Int)+2 by omega,show (((i+(2+n):Nat)):Int)=(i:Int)+2+(n:Int) by omega] at this
      exact this
     rw [hsub]
     split at h
     ·rename_i hN
      rw [if_pos hN]
      cases h
      rw [show k+(i+3+n - i)=k+3+n by omega]
      exact ⟨_,rfl,part_strip hQ _ _ rfl⟩
     ·cases h
   ·rw [if_neg c1] at h ⊢
    by_cases c2:(s.getD (i+1) 0).toNat=42
    ·rw [if_pos c2] at h ⊢
     cases h
     rw [show k+(i+2 - i)=k+2 by omega]
     exact ⟨_,rfl,part_strip hQ _ _ rfl⟩
    ·rw [if_neg c2] at h ⊢
     by_cases c3:49≤(s.getD (i+1) 0).toNat∧(s.getD (i+1) 0).toNat≤57
     ·rw [if_pos c3] at h ⊢
      cases h
      rw [show k+(i+2 - i)=k+2 by omega]
      exact ⟨_,rfl,part_strip hQ _ _ rfl⟩
     ·rw [if_neg c3] at h ⊢
      by_cases c4:(s.getD (i+1) 0).toNat=35
      ·rw [if_pos c4] at h ⊢
       cases h
       rw [show k+(i+2 - i)=k+2 by omega]
       exact ⟨_,rfl,part_strip hQ _ _ rfl⟩
      ·rw [if_neg c4] at h ⊢
       by_cases c5:(s.getD (i+1) 0).toNat=40
       ·rw [if_pos c5] at h ⊢
        cases hx:scanA s (s.length+1) false 0 (i+2) with
        | none=>rw [hx] at h; cases h
        | some t =>
         rw [hx] at h
         cases h
         obtain ⟨t1,t2⟩:=scanA_lt _ _ _ _ _ _ hx
         have hsc:=scan_local s _ false 0 (i+2) t hx L (k+2) (L.length+1) (fun x hxt=>by rw [Nat.add_assoc,in_get hd (2+x) (by omega),Nat.add_assoc]) (by have:=in_len hd hX (t - i) (by omega); omega) (by omega)
         rw [hsc]
         dsimp only
         have hsub:subs L ((k:Int)+2) (((k+2+(t - (i+2)):Nat)):Int)=subs s ((i:Int)+2) (t:Int):=by
          have:=in_subs hd 2 (t - i) (by omega)
          rw [show (((k+2:Nat)):Int)=(k:Int)+2 by omega,show (((i+2:Nat)):Int)=(i:Int)+2 by omega,show i+(t - i)=t by omega] at this
          rw [show k+2+(t - (i+2))=k+(t - i) by omega]
          exact this
         rw [hsub]
         rw [show k+2+(t - (i+2))+1=k+(t+1 - i) by omega]
         exact ⟨_,rfl,part_strip hQ _ _ rfl⟩
       ·rw [if_neg c5] at h ⊢
        cases h
        rw [show k+(i+1 - i)=k+1 by omega]
        exact ⟨_,rfl,bytesA_strip hQ _ _ _ _ _⟩
  ·have e0:(s.getD (i+1) 0).toNat=0:=by
    rw [List.getD_eq_getElem?_getD,List.getElem?_eq_none (by omega)]
    rfl
   have e1:(L.getD (k+1) 0).toNat=10∨(L.getD (k+1) 0).toNat=32:=by
    rcases in_end hd hX (by omega) 1 (by omega) with e | e <;> rw [e]
    ·exact .inl rfl
    ·exact .inr rfl
   generalize (L.getD (k+1) 0).toNat=c at *
   rw [e0,if_neg (by decide),if_neg (by decide),if_neg (by decide),if_neg (by decide),if_neg (by decide)] at h
   rw [if_neg (by omega),if_neg (by omega),if_neg (by omega),if_neg (by omega),if_neg (by omega)]
   cases h
   rw [show k+(i+1 - i)=k+1 by omega]
   exact ⟨_,rfl,bytesA_strip hQ _ _ _ _ _⟩
theorem get_mem' {s:List UInt8} {i:Nat} (h:i<s.length):s.getD i 0∈s:=by
 rw [List.getD_eq_getElem?_getD,List.getElem?_eq_getElem h,Option.getD_some]
 exact List.getElem_mem _
end
section
variable {s X L:List UInt8} (hX:Behind X) (hs:∀ c∈s,c.toNat≠92)
include hX hs
theorem double_in (a a':Nat):∀ (f i k:Nat) (P:List APart) (j:Bool) (i':Nat) (P':List APart) (j':Bool),L.drop k=s.drop i++X→doubleA s a f i P j = .ok (i',P',j')→∀ (f':Nat) (Q:List APart),s.length - i<f'→Q.map stripP=P.map stripP →
  ∃ Q',doubleA L a' f' k Q j = .ok (k+(i' - i),Q',j')∧Q'.map stripP=P'.map stripP
 | 0,i,k,P,j,i',P',j',hd,h,f',Q,hf,hQ=>by rw [doubleA] at h; cases h
 | f+1,i,k,P,j,i',P',j',hd,h,f',Q,hf,hQ=>by
  obtain ⟨f',rfl⟩:∃ g,f'=g+1:=⟨f' - 1,by omega⟩
  rw [doubleA] at h
  rw [doubleA]
  by_cases h1:s.length≤i
  ·rw [if_pos h1] at h; cases h
  ·rw [if_neg h1] at h
   have h0:L.getD k 0=s.getD i 0:=in_get hd 0 (by omega)
   rw [if_neg (by have:=in_len hd hX 0 (by omega); omega),h0]
   by_cases h2:(s.getD i 0).toNat=34
   ·rw [if_pos h2] at h ⊢
    cases h
    rw [show k+(i+1 - i)=k+1 by omega]
    exact ⟨_,rfl,hQ⟩
   ·rw [if_neg h2] at h ⊢
    have h3:(s.getD i 0).toNat≠92:=hs _ (get_mem' (by omega))
    rw [if_neg (fun e=>h3 e.1)] at h ⊢
    by_cases h4:(s.getD i 0).toNat=36
    ·rw [if_pos h4] at h ⊢
     cases hx:dollarA s true i P j with
     | error e=>rw [hx] at h; cases h
     | ok r =>
      obtain ⟨i2,P2,j2⟩:=r
      rw [hx] at h
      dsimp only at h
      obtain ⟨Q2,e1,e2⟩:=dollar_in hd hX true P j i2 P2 j2 (by omega) hx Q hQ
      have hlt:=(wt_dollar s true i P j i2 P2 j2 (by omega) hx).1
      have hle:=dollarA_le s true i P j i2 P2 j2 (by omega) hx
      have hlt2:=(wt_double s a f i2 P2 j2 i' P' j' h).1
      rw [e1]
      dsimp only
      have hd2:=in_drop hd (i2 - i) (by omega)
      rw [show i+(i2 - i)=i2 by omega] at hd2
      obtain ⟨Q3,e3,e4⟩:=double_in a a' f i2 (k+(i2 - i)) P2 j2 i' P' j' hd2 h f' Q2 (by omega) e2
      exact ⟨Q3,by rw [e3,show k+(i2 - i)+(i' - i2)=k+(i' - i) by omega],e4⟩
    ·rw [if_neg h4] at h ⊢
     have hlt2:=(wt_double s a f (i+1) _ _ i' P' j' h).1
     obtain ⟨Q3,e3,e4⟩:=double_in a a' f (i+1) (k+1) _ true i' P' j' (in_drop hd 1 (by omega)) h f' _ (by omega) (bytesA_strip hQ j 2 i k _)
     exact ⟨Q3,by rw [e3,show k+1+(i' - (i+1))=k+(i' - i) by omega],e4⟩
theorem word_in2:∀ (f i k:Nat) (P:List APart) (j:Bool) (i':Nat) (P':List APart),L.drop k=s.drop i++X→i≤s.length→s.length - i<f→wordA s f i P j = .ok (i',P')→∀ (f':Nat) (Q:List APart),s.length - i<f'→Q.map stripP=P.map stripP →
  ∃ Q',wordA L f' k Q j = .ok (k+(i' - i),Q')∧Q'.map stripP=P'.map stripP
 | 0,i,k,P,j,i',P',hd,hi,hff,h,f',Q,hf,hQ=>by omega
 | f+1,i,k,P,j,i',P',hd,hi,hff,h,f',Q,hf,hQ=>by
  obtain ⟨f',rfl⟩:∃ g,f'=g+1:=⟨f' - 1,by omega⟩
  rw [wordA] at h
  rw [wordA,if_neg (by have:=in_len hd hX 0 (by omega); omega)]
  have rest:∀ (i2:Nat) (P2 Q2:List APart) (j2:Bool),i<i2→i2≤s.length→wordA s f i2 P2 j2 = .ok (i',P')→Q2.map stripP=P2.map stripP→∃ Q',wordA L f' (k+(i2 - i)) Q2 j2 = .ok (k+(i' - i),Q')∧Q'.map stripP=P'.map stripP:=by
   intro i2 P2 Q2 j2 g1 g2 g3 g4
   have hd2:=in_drop hd (i2 - i) (by omega)
   rw [show i+(i2 - i)=i2 by omega] at hd2
   have hlt2:=(wt_word s f i2 P2 j2 i' P' g2 g3).1
   obtain ⟨Q3,e3,e4⟩:=word_in2 f i2 (k+(i2 - i)) P2 j2 i' P' hd2 g2 (by omega) g3 f' Q2 (by omega) g4
   exact ⟨Q3,by rw [e3,show k+(i2 - i)+(i' - i2)=k+(i' - i) by omega],e4⟩
  by_cases h1:s.length≤i
  ·rw [if_pos h1] at h
   cases h
   have he:=in_end hd hX hi 0 (by omega)
   rw [Nat.add_zero] at he
   rw [if_pos (by rcases he with e | e <;> rw [e] <;> rfl)]
   rw [Nat.sub_self,Nat.add_zero]
   exact ⟨_,rfl,hQ⟩
  ·rw [if_neg h1] at h
   have h0:L.getD k 0=s.getD i 0:=in_get hd 0 (by omega)
   rw [h0]
   by_cases h2:endsA (s.getD i 0)=true
   ·rw [if_pos h2] at h ⊢
    cases h
    rw [Nat.sub_self,Nat.add_zero]
    exact ⟨_,rfl,hQ⟩
   ·rw [if_neg h2] at h ⊢
    have h3:(s.getD i 0).toNat≠92:=hs _ (get_mem' (by omega))
    rw [if_neg h3] at h ⊢
    by_cases h4:(s.getD i 0).toNat=39
    ·rw [if_pos h4] at h ⊢
     cases hx:idxA 39 (s.drop (i+1)) with
     | none=>rw [hx] at h; cases h
     | some n =>
      rw [hx] at h
      have hl:=idxA_lt 39 _ _ hx
      rw [List.length_drop] at hl
      rw [in_drop hd 1 (by omega),idxA_app 39 _ X n hx]
      dsimp only at h ⊢
      have hsub:subs L ((k:Int)+1) ((k:Int)+1+(n:Int))=subs s ((i:Int)+1) ((i:Int)+1+(n:Int)):=by
       have:=in_subs hd 1 (1+n) (by omega)
       rw [show (((k+1:Nat)):Int)=(k:Int)+1 by omega,show (((k+(1+n):Nat)):Int)=(k:Int)+1+(n:Int) by omega,show (((i+1:Nat)):Int)=(i:Int)+1 by omega,show (((i+(1+n):Nat)):Int)=(i:Int)+1+(n:Int) by omega] at this
       exact this
      rw [hsub,show k+n+2=k+(i+n+2 - i) by omega]
      exact rest (i+n+2) _ _ false (by omega) (by omega) h (part_strip hQ _ _ rfl)
    ·rw [if_neg h4] at h ⊢
     by_cases h5:(s.getD i 0).toNat=34
     ·rw [if_pos h5] at h ⊢
      cases hx:doubleA s i (s.length+1) (i+1) (P++[⟨2,i,0,false,[]⟩]) true with
      | error e=>rw [hx] at h; cases h
      | ok r =>
       obtain ⟨i2,P2,j2⟩:=r
       rw [hx] at h
       dsimp only at h
       have hlt:=(wt_double s i _ _ _ _ _ _ _ hx).1
       have hle:=doubleA_le s i _ _ _ _ _ _ _ (by omega) hx
       obtain ⟨Q2,e1,e2⟩:=double_in hX hs i k _ (i+1) (k+1) _ _ _ _ _ (in_drop hd 1 (by omega)) hx (L.length+1) (Q++[⟨2,k,0,false,[]⟩]) (by have:=in_len hd hX (s.length - i) (by omega); omega) (part_strip hQ _ _ rfl)
       rw [e1]
       dsimp only
       rw [show k+1+(i2 - (i+1))=k+(i2 - i) by omega]
       exact rest i2 P2 Q2 j2 (by omega) hle h e2
     ·rw [if_neg h5] at h ⊢
      by_cases h6:(s.getD i 0).toNat=36
      ·rw [if_pos h6] at h ⊢
       cases hx:dollarA s false i P j with
       | error e=>rw [hx] at h; cases h
       | ok r =>
        obtain ⟨i2,P2,j2⟩:=r
        rw [hx] at h
        dsimp only at h
        obtain ⟨Q2,e1,e2⟩:=dollar_in hd hX false P j i2 P2 j2 (by omega) hx Q hQ
        have hlt:=(wt_dollar s false i P j i2 P2 j2 (by omega) hx).1
        have hle:=dollarA_le s false i P j i2 P2 j2 (by omega) hx
        rw [e1]
        dsimp only
        exact rest i2 P2 Q2 j2 (by omega) hle h e2
      ·rw [if_neg h6] at h ⊢
       have:=rest (i+1) _ _ true (by omega) (by omega) h (bytesA_strip hQ j 1 i k _)
       rw [show k+(i+1 - i)=k+1 by omega] at this
       exact this
omit hs in
theorem best_app {l:List UInt8} (hl:l≠[]):bestOp (l++X) opsA 0 [] 0=bestOp l opsA 0 [] 0:=by
 obtain ⟨c,m,rfl,hc⟩:=hX
 match l with
 | []=>exact absurd rfl hl
 | [a]=>rcases hc with rfl | rfl <;> simp [bestOp,opsA,Lib.hasPrefix,List.isPrefixOf]
 | [a,b]=>rcases hc with rfl | rfl <;> simp [bestOp,opsA,Lib.hasPrefix,List.isPrefixOf]
 | a :: b :: d :: r=>simp [bestOp,opsA,Lib.hasPrefix,List.isPrefixOf]
theorem token_in2 {i k:Nat} {t:ATok} {n:Nat} (hd:L.drop k=s.drop i++X) (hi:i<s.length) (h:tokenA s i = .ok (t,n)):∃ u,tokenA L k = .ok (u,k+(n - i))∧stripT u=stripT t:=by
 unfold tokenA at h ⊢
 rw [if_neg (by omega)] at h
 rw [if_neg (by have:=in_len hd hX 0 (by omega); omega)]
 have hb:bestOp (L.drop k) opsA 0 [] 0=bestOp (s.drop i) opsA 0 [] 0:=by
  rw [hd]
  exact best_app hX (fun e=>by have:=congrArg List.length e; rw [List.length_drop] at this; simp at this; omega)
 have h0:L.getD k 0=s.getD i 0:=in_get hd 0 (by omega)
 dsimp only at h ⊢
 rw [hb]
 split at h
 ·rename_i h1
  rw [if_pos h1]
  cases h
  refine ⟨⟨(bestOp (s.drop i) opsA 0 [] 0).2,k,[]⟩,?_,rfl⟩
  rw [show k+(i+(bestOp (s.drop i) opsA 0 [] 0).1.length - i)=k+(bestOp (s.drop i) opsA 0 [] 0).1.length by omega]
 ·rename_i h1
  rw [if_neg h1,h0]
  split at h
  ·cases h
  ·rename_i h2
   rw [if_neg h2]
   cases hx:wordA s (s.length+1) i [] false with
   | error e=>rw [hx] at h; cases h
   | ok r =>
    obtain ⟨n2,P⟩:=r
    rw [hx] at h
    cases h
    obtain ⟨Q,e1,e2⟩:=word_in2 hX hs (s.length+1) i k [] false n P hd (by omega) (by omega) hx (L.length+1) [] (by have:=in_len hd hX (s.length - i) (by omega); omega) rfl
    rw [e1]
    exact ⟨_,rfl,by unfold stripT; dsimp only; rw [e2]⟩
end
theorem Lx.blanks {S:List UInt8} {T:List ATok} (h:Lx S T) (c:UInt8) (hc:c.toNat=32∨c.toNat=9):Lx (c :: S) T:=fun L k f hd hf=>by
 obtain ⟨f,rfl⟩:∃ g,f=g+1:=⟨f - 1,by omega⟩
 obtain ⟨h1,_,h3⟩:=drop_head hd
 rw [lexA_skip L c S k f hc hd]
 exact h L (k+1) (f+1) h3 (by omega)
theorem Lx.skip {T:List ATok} (X:List UInt8):∀ (l:List UInt8),(∀ c∈l,c.toNat≠35)→Lx (l.drop (skipN false l)++X) T→Lx (l++X) T
 | [],_,h=>h
 | c :: l,hl,h=>by
  rw [skipN] at h
  by_cases hc:c.toNat=32∨c.toNat=9
  ·rw [if_pos hc,List.drop_succ_cons] at h
   exact (Lx.skip X l (fun x hx=>hl x (by simp [hx])) h).blanks c hc
  ·rw [if_neg hc,if_neg (hl c (by simp))] at h
   exact h
theorem skipN_end:∀ (l:List UInt8),(∀ c∈l,c.toNat≠35)→skipN false (l.drop (skipN false l))=0
 | [],_=>rfl
 | c :: l,hl=>by
  rw [skipN]
  by_cases hc:c.toNat=32∨c.toNat=9
  ·rw [if_pos hc,List.drop_succ_cons]
   exact skipN_end l fun x hx=>hl x (by simp [hx])
  ·rw [if_neg hc,if_neg (hl c (by simp)),List.drop_zero,skipN,if_neg hc,if_neg (hl c (by simp))]
theorem Lx.source {s X:List UInt8} {TX:List ATok} (hX:Behind X) (hs:∀ c∈s,c.toNat≠92∧c.toNat≠35) (hx:Lx X TX):∀ (f i:Nat) (us:List ATok),i≤s.length→s.length - i<f→lexA s f i = .ok us→∃ vs e,us=vs++[e]∧e.kind=0∧(∀ v∈vs,v.kind≠0)∧Lx (s.drop i++X) (vs.map stripT++TX)
 | 0,i,us,hi,hf,h=>by omega
 | f+1,i,us,hi,hf,h=>by
  have hsl:∀ c∈s.drop i,c.toNat≠35:=fun c hc=>(hs c (List.mem_of_mem_drop hc)).2
  have hk:=skipN_le false (s.drop i)
  rw [List.length_drop] at hk
  rw [lexA] at h
  generalize hq:i+skipN false (s.drop i)=q at *
  have hdr:(s.drop i).drop (skipN false (s.drop i))=s.drop q:=by rw [List.drop_drop,hq]
  have hfr:∀ c m,s.drop q=c :: m→¬ (c.toNat=32∨c.toNat=9∨c.toNat=35):=by
   intro c m e
   have h1:=skipN_end (s.drop i) hsl
   have h2:=hsl c (by
    have:c∈s.drop q:=by rw [e]; simp
    rw [← hdr] at this
    exact List.mem_of_mem_drop this)
   rw [hdr,e,skipN] at h1
   intro h3
   by_cases hc:c.toNat=32∨c.toNat=9
   ·rw [if_pos hc] at h1; omega
   ·omega
  cases ht:tokenA s q with
  | error e=>rw [ht] at h; cases h
  | ok r =>
   obtain ⟨t,n⟩:=r
   rw [ht] at h
   dsimp only at h
   by_cases h0:t.kind=0
   ·rw [if_pos h0] at h
    cases h
    refine ⟨[],t,rfl,h0,by simp,Lx.skip X _ hsl ?_⟩
    rw [hdr]
    have hqe:s.length≤q:=(tokenA_ok s q t n (by omega) hfr ht).2.1.1 h0
    rw [List.drop_of_length_le hqe]
    exact hx
   ·rw [if_neg h0] at h
    cases hr:lexA s f n with
    | error e=>rw [hr] at h; cases h
    | ok us2 =>
     rw [hr] at h
     cases h
     have hlt:q<s.length:=by
      apply Classical.byContradiction
      intro hge
      unfold tokenA at ht
      rw [if_pos (by omega)] at ht
      cases ht
      exact h0 rfl
     obtain ⟨-,-,z1,z2,-⟩:=tokenA_ok s q t n (by omega) hfr ht
     have z2:=z2 h0
     obtain ⟨vs,e,rfl,e2,e3,e4⟩:=Lx.source hX hs hx f n us2 (by omega) (by omega) hr
     refine ⟨t :: vs,e,rfl,e2,fun v hv=>?_,Lx.skip X _ hsl ?_⟩
     ·rcases List.mem_cons.1 hv with rfl | hv
      ·exact h0
      ·exact e3 v hv
     ·rw [hdr,List.map_cons,List.cons_append]
      have hsk:skipN false (s.drop q++X)=0:=by
       cases hd:s.drop q with
       | nil=>have:=congrArg List.length hd; rw [List.length_drop] at this; simp at this; omega
       | cons c m =>
        have h3:=hfr c m hd
        rw [List.cons_append,skipN,if_neg (by omega),if_neg (by omega)]
      refine Lx.tok e4 (by rw [strip_kind]; exact h0) hsk fun L k hd=>?_
      obtain ⟨u,e5,e6⟩:=token_in2 hX (fun c hc=>(hs c hc).1) hd hlt ht
      refine ⟨u,k+(n - q),e5,e6,?_,by omega,by have:=in_len hd hX 0 (by omega); omega⟩
      have:=in_drop hd (n - q) (by omega)
      rw [show q+(n - q)=n by omega] at this
      exact this
end Go.Proofs.YtepebnblbheegaaGreatDoor

/- The notation of fragments as plain data: bytes, names, contents, numbers, items. The notation of fragments as plain data: an element that is read is one that is written. The notation of fragments as plain data: parsing inverts formatting, what is parsed is valid and formats to1 what was read, an error's offset. Fragments that are made of numbers are valid: what each step of their making keeps. The notation of fragments as plain data: the tags that were seen, the limits of a notation, what the parts of the programs test. The notation of fragments as plain data: how the reference reads a tag and a byte. Renumbering the tags of a fragment as plain data: valid fragments stay valid. Renaming the tags of a valid fragment by any list of numbers. No conditions. -/
open List
set_option linter.unusedSimpArgs false
set_option linter.unusedVariables false
set_option linter.unusedSectionVars false
set_option maxRecDepth 100000
set_option maxHeartbeats 16000000
namespace Go.Nt
abbrev Bs:=List UInt8
abbrev It:=Int × Bs × Int
theorem dF (p:UInt8->Bool) (h:∀ n:Fin 256,p (UInt8.ofNat n.1)=true) (c:UInt8):p c=true:=by
 have:=h ⟨c.toNat,c.toNat_lt⟩
 simpa using this
def pW (c:UInt8):Bool:=decide (97<=c.toNat) && decide (c.toNat<=122)
def nmB (c:UInt8):Bool:=pW c || (decide (48<=c.toNat) && decide (c.toNat<=57)) || decide (c.toNat=45)
def dS:Bs->Bool
 | []=>false
 | c :: r=>decide (r.length < 24) && pW c && r.all nmB
def bU (s:Bs):Bs:=s.takeWhile fun c=>c != 32
def okB (c:UInt8):Bool:=decide (32<=c.toNat) && decide (c.toNat<=126) && c != 60 && c != 62 && c != 123 && c != 125
def isC (s:Bs):Bool:=
 decide (s.length<=64) && s.all okB && dS (bU s) && (decide ((bU s).length=s.length) || decide ((bU s).length+1 < s.length)) && !(s.getLast? == some 47)
def aY (x:It):Bool:=decide (x.1=2) || decide (x.1=3) || decide (x.1=4)
def dC (x y:It):Bool:=aY y && decide (y.2.2=x.2.2) && !(decide (x.1=3) && decide (y.1=2) && (bU y.2.1 == x.2.1))
def f7 (f:List It):Int:=match f.getLast? with
 | some y=>y.1
 | none=>0
def wM (f:List It) (x:It):Int:=if f.any (dC x)=true then 7 else 0
def chk (f:List It) (x:It):Int:=
 if x.1=1 then (if x.2.1=[]\/x.2.2≠0\/f7 f=1 then 1 else 0)
 else if x.1=5 then (if dS x.2.1=true/\x.2.2=0 then 0 else 1)
 else if x.1=2\/x.1=4 then (if isC x.2.1=true/\1<=x.2.2/\x.2.2<=999 then wM f x else 1)
 else if x.1=3 then (if dS x.2.1=true/\1<=x.2.2/\x.2.2<=999 then wM f x else 1)
 else 1
def wid (x:It):Nat:=if x.1=1 then x.2.1.length else 1
def len (f:List It):Nat:=(f.map wid).sum
def dI (f:List It):List It->Int
 | []=>0
 | x :: r=>if chk f x≠0 then chk f x else dI (f++[x]) r
def vld (f:List It):Int:=if 512 < f.length\/1024 < len f then 3 else dI [] f
def dig (n:Nat):UInt8:=UInt8.ofNat (48+n)
def dec (n:Nat):Bs:=if n < 10 then [dig n] else if n < 100 then [dig (n / 10),dig (n % 10)] else [dig (n / 100),dig (n / 10 % 10),dig (n % 10)]
def kN (n:Nat):UInt8:=if n < 10 then UInt8.ofNat (48+n) else UInt8.ofNat (87+n)
def ctl (c:UInt8):Bool:=(decide (c.toNat < 32) && c != 9 && c != 10 && c != 13) || c == 127
def eR (c:UInt8):Bool:=c != 92 && c != 60 && c != 123 && c != 9 && c != 10 && c != 13 && !ctl c
def wrt (c:UInt8):Bs:=
 if c=92\/c=60\/c=123 then [92,c]
 else if c=10 then [92,110]
 else if c=9 then [92,116]
 else if c=13\/ctl c=true then [92,120,kN (c.toNat / 16),kN (c.toNat % 16)]
 else [c]
def elt (x:It):Bs:=
 if x.1=1 then x.2.1.flatMap wrt
 else if x.1=2 then 60 :: (dec x.2.2.toNat++58 :: (x.2.1++[62]))
 else if x.1=3 then 60 :: 47 :: (dec x.2.2.toNat++58 :: (x.2.1++[62]))
 else if x.1=4 then 60 :: (dec x.2.2.toNat++58 :: (x.2.1++[47,62]))
 else 123 :: (x.2.1++[125])
def fmt (f:List It):Bs:=f.flatMap elt
def EX (c:UInt8):Option Nat:=if 48<=c.toNat/\c.toNat<=57 then some (c.toNat - 48) else if 97<=c.toNat/\c.toNat<=102 then some (c.toNat - 87) else none
def rdE:Bs->Option (UInt8 × Nat)
 | []=>none
 | c :: r=>if c=92\/c=60\/c=123 then some (c,2) else if c=110 then some (10,2) else if c=116 then some (9,2) else if c=120 then (match r with
  | h :: l :: _=>match EX h,EX l with
   | some a,some b=>if UInt8.ofNat (a*16+b)=13\/ctl (UInt8.ofNat (a*16+b))=true then some (UInt8.ofNat (a*16+b),4) else none
   | _,_=>none
  | _=>none) else none
def vV (c:UInt8):Bool:=decide (48<=c.toNat) && decide (c.toNat<=57)
def DZ:Bs->Nat->Nat
 | [],n=>n
 | c :: r,n=>DZ r (10*n+(c.toNat - 48))
def rdN (s:Bs):Option Nat:=if 1<=s.length/\s.length<=3/\s.head?≠some 48/\s.all vV=true then some (DZ s 0) else none
def cut (b:UInt8) (s:Bs):Option (Bs × Bs):=match s with
 | []=>none
 | c :: r=>if c=b then some ([],r) else (cut b r).map fun p=>(c :: p.1,p.2)
def rdT (t:Bs):Option It:=match t with
 | []=>none
 | c :: r=>if c=47 then (match cut 58 r with
   | some (a,b)=>match rdN a with
    | some n=>if dS b=true then some (3,b,(n:Int)) else none
    | none=>none
   | none=>none)
  else match cut 58 (c :: r) with
   | some (a,b)=>match rdN a with
    | some n=>if b.getLast?=some 47 then (if isC b.dropLast=true then some (4,b.dropLast,(n:Int)) else none) else (if isC b=true then some (2,b,(n:Int)) else none)
    | none=>none
   | none=>none
def rd (s:Bs):Option (It × Nat):=match s with
 | []=>none
 | c :: r =>
  if c=92 then (rdE r).map fun p=>((1,[p.1],0),p.2)
  else if c=60 then (match cut 62 r with
   | some (t,_)=>(rdT t).map fun x=>(x,t.length+2)
   | none=>none)
  else if c=123 then (match cut 125 r with
   | some (t,_)=>if dS t=true then some ((5,t,0),t.length+2) else none
   | none=>none)
  else if eR c=true then some ((1,[c],0),1) else none
def put (f:List It) (x:It):List It:=
 if x.1=1 then (match f.getLast? with
  | some y=>if y.1=1 then f.dropLast++[(1,y.2.1++x.2.1,0)] else f++[x]
  | none=>[x])
 else f++[x]
def prs:Nat->List It->Nat->Nat->Bs->List It × Nat × Int
 | 0,f,_,_,_=>(f,0,0)
 | k+1,f,at',n,s=>match s with
  | []=>(f,0,0)
  | _=>match rd s with
   | none=>([],at',2)
   | some (x,m)=>if x.1≠1/\chk f x≠0 then ([],at',chk f x) else if 512 < (put f x).length\/1024 < n+1 then ([],at',3) else prs k (put f x) (at'+m) (n+1) (s.drop m)
def RD (s:Bs):List It × Nat × Int:=prs s.length [] 0 0 s
end Go.Nt
namespace Go.Nt
theorem d6 {b:UInt8}:∀ {s:Bs} {a r:Bs},cut b s=some (a,r)↔s=a++b :: r/\b ∉ a
 | [],a,r=>by simp [cut]
 | c :: s,a,r=>by
  simp only[cut];by_cases h:c=b
  ·subst h
   rw[if_pos rfl];constructor
   ·intro h;simp only[Option.some.injEq,Prod.mk.injEq] at h;obtain⟨rfl,rfl⟩:=h;simp
   ·rintro ⟨h1,h2⟩
    cases a with
    | nil=>simp at h1;simp [h1]
    | cons x a=>simp at h1;simp [h1.1] at h2
  ·rw[if_neg h]
   simp only[Option.map_eq_some_iff,Prod.exists,Prod.mk.injEq];constructor
   ·rintro ⟨p,q,h1,rfl,rfl⟩
    obtain⟨h2,h3⟩:=d6.1 h1;exact⟨by rw[h2];rfl,by simp [h3,Ne.symm h]⟩
   ·rintro ⟨h1,h2⟩
    cases a with
    | nil=>simp at h1;exact absurd h1.1 h
    | cons x a =>
     simp at h1 h2;obtain⟨rfl,h1⟩:=h1;exact⟨a,r,d6.2 ⟨h1,h2.2⟩,rfl,rfl⟩
theorem mD {b:UInt8} {a:Bs} (h:b ∉ a) (r:Bs):cut b (a++b :: r)=some (a,r):=d6.2 ⟨rfl,h⟩
theorem l9 {b:UInt8}:∀ {s:Bs},cut b s=none↔b ∉ s
 | []=>by simp [cut]
 | c :: s=>by
  simp only[cut];by_cases h:c=b
  ·simp [h]
  ·rw[if_neg h,Option.map_eq_none_iff,l9];simp [Ne.symm h]
theorem gZ (c:UInt8) (h:eR c=true):wrt c=[c]:=by
 have:=dF (fun c=>!eR c || decide (wrt c=[c])) (by decide) c
 simpa [h] using this
theorem pS (c:UInt8) (h:eR c=false):∃ w,wrt c=92 :: w:=by
 have:=dF (fun c=>eR c || decide ((wrt c).head?=some 92)) (by decide) c
 simp [h] at this;cases hw:wrt c with
 | nil=>rw[hw] at this;cases this
 | cons a w=>rw[hw] at this;simp at this;exact⟨w,by rw[this]⟩
theorem LM (c:UInt8):wrt c≠[]:=by
 cases h:eR c with
 | true=>rw[gZ c h];simp
 | false=>obtain⟨w,hw⟩:=pS c h;rw[hw];simp
theorem zW {h:UInt8} {a:Nat} (e:EX h=some a):a < 16/\kN a=h:=by
 have:=dF (fun c=>match EX c with
  | none=>true
  | some a=>decide (a < 16) && (kN a == c)) (by decide) h
 rw[e] at this;simpa using this
theorem sA (n:Fin 16):EX (kN n.1)=some n.1:=by revert n;decide
theorem E7 (c:UInt8) (h:c=13\/ctl c=true):wrt c=[92,120,kN (c.toNat / 16),kN (c.toNat % 16)]:=by
 have:=dF (fun c=>!(decide (c=13) || ctl c) || decide (wrt c=[92,120,kN (c.toNat / 16),kN (c.toNat % 16)])) (by decide) c
 rcases h with h | h
 ·simpa [h] using this
 ·simpa [h] using this
theorem ofN (a b:Nat) (ha:a < 16) (hb:b < 16):(UInt8.ofNat (a*16+b)).toNat=a*16+b:=by
 simp only[UInt8.toNat_ofNat'];omega
theorem DN {r:Bs} {c:UInt8} {m:Nat} (h:rdE r=some (c,m)):eR c=false/\(wrt c).length=m/\∃ rest,92 :: r=wrt c++rest:=by
 cases r with
 | nil=>cases h
 | cons d r =>
  simp only[rdE] at h
  split at h
  ·rename_i hd
   simp only[Option.some.injEq,Prod.mk.injEq] at h;obtain⟨rfl,rfl⟩:=h;rcases hd with rfl | rfl | rfl
   ·exact⟨by decide,by decide,r,rfl⟩
   ·exact⟨by decide,by decide,r,rfl⟩
   ·exact⟨by decide,by decide,r,rfl⟩
  split at h
  ·rename_i hd;subst hd
   simp only[Option.some.injEq,Prod.mk.injEq] at h;obtain⟨rfl,rfl⟩:=h;exact⟨by decide,by decide,r,rfl⟩
  split at h
  ·rename_i hd;subst hd
   simp only[Option.some.injEq,Prod.mk.injEq] at h;obtain⟨rfl,rfl⟩:=h;exact⟨by decide,by decide,r,rfl⟩
  split at h
  ·rename_i hd;subst hd
   split at h
   ·rename_i x l rest
    split at h
    ·rename_i a b ha hb
     split at h
     ·rename_i hc
      simp only[Option.some.injEq,Prod.mk.injEq] at h;obtain⟨rfl,rfl⟩:=h;obtain⟨a1,a2⟩:=zW ha;obtain⟨b1,b2⟩:=zW hb;have hw:=E7 _ hc;rw[ofN a b a1 b1,show (a*16+b) / 16=a by omega,show (a*16+b) % 16=b by omega,a2,b2] at hw;refine⟨?_,by rw[hw];rfl,rest,by rw[hw];rfl⟩;cases hp:eR (UInt8.ofNat (a*16+b)) with
      | false=>rfl
      | true=>rw[gZ _ hp] at hw;simp at hw
     ·cases h
    ·cases h
   ·cases h
  ·cases h
theorem IB {c:UInt8} {w:Bs} (hp:eR c=false) (hw:wrt c=92 :: w) (r:Bs):rdE (w++r)=some (c,(wrt c).length):=by
 by_cases h1:c=92\/c=60\/c=123
 ·have e:wrt c=[92,c]:=by unfold wrt;rw[if_pos h1]
  rw[e] at hw ⊢;simp only[List.cons.injEq,true_and] at hw;subst hw;show rdE (c :: r)=_;simp only[rdE];rw[if_pos h1];rfl
 by_cases h2:c=10
 ·subst h2
  have e:wrt 10=[92,110]:=by decide
  rw[e] at hw ⊢;simp only[List.cons.injEq,true_and] at hw;subst hw;rfl
 by_cases h3:c=9
 ·subst h3
  have e:wrt 9=[92,116]:=by decide
  rw[e] at hw ⊢;simp only[List.cons.injEq,true_and] at hw;subst hw;rfl
 ·have h4:c=13\/ctl c=true:=by
   have:=dF (fun c=>eR c || decide (c=92) || decide (c=60) || decide (c=123) || decide (c=10) || decide (c=9) || decide (c=13) || ctl c) (by decide) c
   simp only[hp,Bool.false_or,Bool.or_eq_true,decide_eq_true_eq] at this;rcases this with (((((h | h) | h) | h) | h) | h) | h
   ·exact absurd (.inl h) h1
   ·exact absurd (.inr (.inl h)) h1
   ·exact absurd (.inr (.inr h)) h1
   ·exact absurd h h2
   ·exact absurd h h3
   ·exact .inl h
   ·exact .inr h
  have e:=E7 c h4;rw[e] at hw ⊢;simp only[List.cons.injEq,true_and] at hw;subst hw;have hlt:=c.toNat_lt;have e1:=sA ⟨c.toNat / 16,by omega⟩;have e2:=sA ⟨c.toNat % 16,by omega⟩;simp only[] at e1 e2;have e3:UInt8.ofNat (c.toNat / 16*16+c.toNat % 16)=c:=by
   rw[show c.toNat / 16*16+c.toNat % 16=c.toNat by omega];simp
  show rdE (120 :: kN (c.toNat / 16) :: kN (c.toNat % 16) :: r)=_;simp only[rdE,e1,e2,e3];rw[if_neg (by decide),if_neg (by decide),if_neg (by decide),if_pos trivial,if_pos h4];rfl
theorem JN:∀ n:Fin 1000,1<=n.1->rdN (dec n.1)=some n.1:=by decide +kernel
theorem JM:∀ n:Fin 1000,(dec n.1).all vV=true:=by decide +kernel
theorem IA {n:Nat} (h1:1<=n) (h2:n<=999):rdN (dec n)=some n:=JN ⟨n,by omega⟩ h1
theorem qN {n:Nat} (h2:n<=999):∀ c∈dec n,vV c=true:=all_eq_true.1 (JM ⟨n,by omega⟩)
theorem nI {c:UInt8} (h:vV c=true):dig (c.toNat - 48)=c/\c.toNat - 48 < 10/\(c≠48->1<=c.toNat - 48):=by
 unfold vV at h;simp only[Bool.and_eq_true,decide_eq_true_eq] at h;refine⟨?_,by omega,fun hc=>?_⟩
 ·unfold dig
  rw[show 48+(c.toNat - 48)=c.toNat by omega];simp
 ·have:c.toNat≠48:=fun e=>hc (by rw[<- UInt8.toNat_inj,e];rfl)
  omega
theorem uP {s:Bs} {n:Nat} (h:rdN s=some n):s=dec n/\1<=n/\n<=999:=by
 unfold rdN at h
 split at h
 ·rename_i hc
  obtain⟨h1,h2,h3,h4⟩:=hc;simp only[Option.some.injEq] at h;subst h
  match s,h1,h2,h3,h4 with
  | [a],_,_,h3,h4 =>
   simp only[all_cons,all_nil,Bool.and_true] at h4;simp only[head?_cons,ne_eq,Option.some.injEq] at h3;obtain⟨a1,a2,a3⟩:=nI h4;have a3:=a3 h3;simp only[DZ,Nat.mul_zero,Nat.zero_add];unfold dec;rw[if_pos a2,a1];exact⟨rfl,a3,by omega⟩
  | [a,b],_,_,h3,h4 =>
   simp only[all_cons,all_nil,Bool.and_true,Bool.and_eq_true] at h4;simp only[head?_cons,ne_eq,Option.some.injEq] at h3;obtain⟨a1,a2,a3⟩:=nI h4.1;obtain⟨b1,b2,_⟩:=nI h4.2;have a3:=a3 h3;simp only[DZ,Nat.mul_zero,Nat.zero_add];unfold dec;rw[if_neg (by omega),if_pos (by omega),show (10*(a.toNat - 48)+(b.toNat - 48)) / 10=a.toNat - 48 by omega,show (10*(a.toNat - 48)+(b.toNat - 48)) % 10=b.toNat - 48 by omega,a1,b1];exact⟨rfl,by omega,by omega⟩
  | [a,b,c],_,_,h3,h4 =>
   simp only[all_cons,all_nil,Bool.and_true,Bool.and_eq_true] at h4;simp only[head?_cons,ne_eq,Option.some.injEq] at h3;obtain⟨a1,a2,a3⟩:=nI h4.1;obtain⟨b1,b2,_⟩:=nI h4.2.1;obtain⟨c1,c2,_⟩:=nI h4.2.2;have a3:=a3 h3;simp only[DZ,Nat.mul_zero,Nat.zero_add];unfold dec;rw[if_neg (by omega),if_neg (by omega),show (10*(10*(a.toNat - 48)+(b.toNat - 48))+(c.toNat - 48)) / 100=a.toNat - 48 by omega,show (10*(10*(a.toNat - 48)+(b.toNat - 48))+(c.toNat - 48)) / 10 % 10=b.toNat - 48 by omega,show (10*(10*(a.toNat - 48)+(b.toNat - 48))+(c.toNat - 48)) % 10=c.toNat - 48 by omega,a1,b1,c1];exact⟨rfl,by omega,by omega⟩
  | _ :: _ :: _ :: _ :: _,_,h2,_,_=>simp at h2
 ·cases h
theorem lW {s:Bs} (h:dS s=true):s≠[]/\s.length<=24/\∀ c∈s,nmB c=true:=by
 cases s with
 | nil=>cases h
 | cons a s =>
  simp only[dS,Bool.and_eq_true,decide_eq_true_eq,all_eq_true] at h;refine⟨by simp,by simp;omega,fun c hc=>?_⟩;rcases mem_cons.1 hc with rfl | hc
  ·unfold nmB;rw[h.1.2];rfl
  ·exact h.2 c hc
theorem D2 (c:UInt8) (h:nmB c=true):okB c=true/\c≠125/\c≠62/\c≠47:=by
 have:=dF (fun c=>!nmB c || (okB c && decide (c≠125) && decide (c≠62) && decide (c≠47))) (by decide) c
 simpa [h,and_assoc] using this
theorem MP (c:UInt8) (h:okB c=true):c≠62/\c≠125:=by
 have:=dF (fun c=>!okB c || (decide (c≠62) && decide (c≠125))) (by decide) c
 simpa [h] using this
theorem tU (c:UInt8) (h:vV c=true):c≠58/\c≠62/\c≠47:=by
 have:=dF (fun c=>!vV c || (decide (c≠58) && decide (c≠62) && decide (c≠47))) (by decide) c
 simpa [h,and_assoc] using this
theorem zU {s:Bs} (h:isC s=true):(∀ c∈s,okB c=true)/\s.getLast?≠some 47/\s≠[]:=by
 unfold isC at h;simp only[Bool.and_eq_true,all_eq_true,Bool.not_eq_true',beq_eq_false_iff_ne] at h;refine⟨h.1.1.1.2,h.2,?_⟩
 rintro rfl
 have:=h.1.1.2
 simp [bU,dS] at this
def wfX (x:It):Prop:=(x.1=1/\(∃ c,x.2.1=[c])/\x.2.2=0)\/(x.1=5/\dS x.2.1=true/\x.2.2=0)\/((x.1=2\/x.1=4)/\isC x.2.1=true/\1<=x.2.2/\x.2.2<=999)\/(x.1=3/\dS x.2.1=true/\1<=x.2.2/\x.2.2<=999)
def body (x:It):Bs:=if x.1=2 then dec x.2.2.toNat++58 :: x.2.1 else if x.1=3 then 47 :: (dec x.2.2.toNat++58 :: x.2.1) else dec x.2.2.toNat++58 :: (x.2.1++[47])
theorem DL {t:Bs} {x:It} (h:rdT t=some x):t=body x/\(((x.1=2\/x.1=4)/\isC x.2.1=true)\/(x.1=3/\dS x.2.1=true))/\1<=x.2.2/\x.2.2<=999:=by
 cases t with
 | nil=>cases h
 | cons c r =>
  simp only[rdT] at h
  split at h
  ·rename_i hc
   subst hc
   split at h
   ·rename_i a b hcut
    split at h
    ·rename_i n hn
     split at h
     ·rename_i hb
      cases h;obtain⟨e1,_⟩:=d6.1 hcut;obtain⟨e2,e3,e4⟩:=uP hn;refine⟨?_,.inr ⟨rfl,hb⟩,by simp only[];omega,by simp only[];omega⟩;simp only[body,Int.toNat_natCast];rw[if_neg (by decide),if_pos trivial,e1,e2]
     ·cases h
    ·cases h
   ·cases h
  ·split at h
   ·rename_i a b hcut
    split at h
    ·rename_i n hn
     obtain⟨e1,_⟩:=d6.1 hcut;obtain⟨e2,e3,e4⟩:=uP hn
     split at h
     ·rename_i hl
      split at h
      ·rename_i hb
       cases h;refine⟨?_,.inl ⟨.inr rfl,hb⟩,by simp only[];omega,by simp only[];omega⟩;simp only[body,Int.toNat_natCast];rw[if_neg (by decide),if_neg (by decide),e1,<- e2];have hne:b≠[]:=by rintro rfl;simp at hl
       have:=dropLast_concat_getLast hne
       rw[getLast?_eq_some_getLast hne] at hl;simp only[Option.some.injEq] at hl;rw[hl] at this;rw[this]
      ·cases h
     ·split at h
      ·rename_i hb
       cases h;refine⟨?_,.inl ⟨.inl rfl,hb⟩,by simp only[];omega,by simp only[];omega⟩;simp only[body,Int.toNat_natCast];rw[if_pos trivial,e1,<- e2]
      ·cases h
    ·cases h
   ·cases h
theorem FB {n:Nat} (h:n<=999):∃ d r,dec n=d :: r/\vV d=true:=by
 have h1:=qN h;cases hd:dec n with
 | nil =>
  exfalso;unfold dec at hd
  split at hd
  ·cases hd
  ·split at hd<;>cases hd
 | cons d r=>rw[hd] at h1;exact⟨d,r,rfl,h1 d (by simp)⟩
theorem DM {x:It} (hk:((x.1=2\/x.1=4)/\isC x.2.1=true)\/(x.1=3/\dS x.2.1=true)) (h1:1<=x.2.2) (h2:x.2.2<=999):rdT (body x)=some x:=by
 obtain⟨k,s,i⟩:=x;simp only[] at hk h1 h2;obtain⟨n,rfl⟩:=Int.eq_ofNat_of_zero_le (show 0<=i by omega);have hn:=IA (n:=n) (by omega) (by omega);have hd:(58:UInt8) ∉ dec n:=fun hm=>(tU _ (qN (by omega) _ hm)).1 rfl
 obtain⟨d,r,hr,hdd⟩:=FB (n:=n) (by omega);have h47:¬ d=47:=(tU d hdd).2.2;rcases hk with ⟨rfl | rfl,hc⟩ | ⟨rfl,hc⟩
 ·simp only[body,Int.toNat_natCast,if_pos]
  have hcut:cut 58 (d :: (r++58 :: s))=some (dec n,s):=by
   have:=mD hd s
   rw[hr] at this ⊢;exact this
  rw[hr];show rdT (d :: (r++58 :: s))=_;simp only[rdT];rw[if_neg h47,hcut];simp only[hn];rw[if_neg (zU hc).2.1,if_pos hc]
 ·simp only[body,Int.toNat_natCast]
  rw[if_neg (by decide),if_neg (by decide)];have hcut:cut 58 (d :: (r++58 :: (s++[47])))=some (dec n,s++[47]):=by
   have:=mD hd (s++[47])
   rw[hr] at this ⊢;exact this
  rw[hr];show rdT (d :: (r++58 :: (s++[47])))=_;simp only[rdT];rw[if_neg h47,hcut];simp only[hn,getLast?_concat,dropLast_concat,if_true];rw[if_pos hc]
 ·simp only[body,Int.toNat_natCast]
  rw[if_neg (by decide),if_pos trivial];simp only[rdT,if_true,mD hd s,hn];rw[if_pos hc]
theorem J1 {x:It} (hk:((x.1=2\/x.1=4)/\isC x.2.1=true)\/(x.1=3/\dS x.2.1=true)) (h1:1<=x.2.2) (h2:x.2.2<=999):(62:UInt8) ∉ body x:=by
 have hd:(62:UInt8) ∉ dec x.2.2.toNat:=fun hm=>(tU _ (qN (by omega) _ hm)).2.1 rfl
 have ht:(62:UInt8) ∉ x.2.1:=fun hm=>by
  rcases hk with ⟨_,hc⟩ | ⟨_,hc⟩
  ·exact (MP _ ((zU hc).1 _ hm)).1 rfl
  ·exact (D2 _ ((lW hc).2.2 _ hm)).2.2.1 rfl
 unfold body;split
 ·simp [hd,ht]
 ·split
  ·simp [hd,ht]
  ·simp [hd,ht]
theorem vS {x:It} (hk:x.1=2\/x.1=4\/x.1=3):elt x=60 :: (body x++[62]):=by
 obtain⟨k,s,i⟩:=x;simp only[] at hk;rcases hk with rfl | rfl | rfl<;>simp [elt,body]
theorem pK {x:It} (h:wfX x) (r:Bs):rd (elt x++r)=some (x,(elt x).length):=by
 obtain⟨k,s,i⟩:=x;rcases h with ⟨h1,⟨c,h2⟩,h3⟩ | ⟨h1,h2,h3⟩ | h
 ·simp only[] at h1 h2 h3
  subst h1 h2 h3;have e:elt (1,[c],0)=wrt c:=by simp [elt]
  rw[e];cases hp:eR c with
  | true =>
   rw[gZ c hp];have hne:c≠92/\c≠60/\c≠123:=by
    have:=dF (fun c=>!eR c || (decide (c≠92) && decide (c≠60) && decide (c≠123))) (by decide) c
    simpa [hp,and_assoc] using this
   show rd (c :: r)=_;simp only[rd];rw[if_neg hne.1,if_neg hne.2.1,if_neg hne.2.2,if_pos hp];rfl
  | false =>
   obtain⟨w,hw⟩:=pS c hp
   have:=IB hp hw r
   rw[hw];show rd (92 :: (w++r))=_;simp only[rd,if_true,this,hw,Option.map_some]
 ·simp only[] at h1 h2 h3
  subst h1 h3;have e:elt (5,s,0)=123 :: (s++[125]):=by simp [elt]
  have hn:(125:UInt8) ∉ s:=fun hm=>(D2 _ ((lW h2).2.2 _ hm)).2.1 rfl
  rw[e];show rd (123 :: (s++[125]++r))=_;rw[append_assoc];simp only[rd];rw[if_neg (by decide),if_neg (by decide),if_pos trivial]
  show (match cut 125 (s++125 :: r) with
   | some (t,_)=>if dS t=true then some (((5:Int),t,(0:Int)),t.length+2) else none
   | none=>none)=_
  rw[mD hn];simp only[h2,if_true,length_cons,length_append,length_nil]
 ·have hk:((k=2\/k=4)/\isC s=true)\/(k=3/\dS s=true):=by
   rcases h with ⟨a,b,_⟩ | ⟨a,b,_⟩
   ·exact .inl ⟨a,b⟩
   ·exact .inr ⟨a,b⟩
  have hi:1<=i/\i<=999:=by
   rcases h with ⟨_,_,a⟩ | ⟨_,_,a⟩
   ·exact a
   ·exact a
  have e:=vS (x:=(k,s,i)) (by rcases hk with ⟨a | a,_⟩ | ⟨a,_⟩<;>simp [a]);have hb:=DM (x:=(k,s,i)) hk hi.1 hi.2;have hn:=J1 (x:=(k,s,i)) hk hi.1 hi.2;rw[e];show rd (60 :: (body (k,s,i)++[62]++r))=_;rw[append_assoc];simp only[rd];rw[if_neg (by decide),if_pos trivial]
  show (match cut 62 (body (k,s,i)++62 :: r) with
   | some (t,_)=>(rdT t).map fun x=>(x,t.length+2)
   | none=>none)=_
  rw[mD hn];simp only[hb,Option.map_some,length_cons,length_append,length_nil]
theorem H9 {s:Bs} {x:It} {m:Nat} (h:rd s=some (x,m)):wfX x/\m=(elt x).length/\∃ r,s=elt x++r:=by
 cases s with
 | nil=>cases h
 | cons c r =>
  simp only[rd] at h
  split at h
  ·rename_i hc;subst hc
   obtain⟨⟨d,n⟩,h1,h2⟩:=Option.map_eq_some_iff.1 h;simp only[Prod.mk.injEq] at h2;obtain⟨rfl,rfl⟩:=h2;obtain⟨e1,e2,rest,e3⟩:=DN h1;have e:elt (1,[d],0)=wrt d:=by simp [elt]
   exact⟨.inl ⟨rfl,⟨d,rfl⟩,rfl⟩,by rw[e,e2],rest,by rw[e,e3]⟩
  split at h
  ·rename_i hc;subst hc
   split at h
   ·rename_i t q hcut
    obtain⟨y,h1,h2⟩:=Option.map_eq_some_iff.1 h;simp only[Prod.mk.injEq] at h2;obtain⟨rfl,rfl⟩:=h2;obtain⟨e1,e2,e3,e4⟩:=DL h1;obtain⟨e5,_⟩:=d6.1 hcut;have e:=vS (x:=y) (by rcases e2 with ⟨a | a,_⟩ | ⟨a,_⟩<;>simp [a]);refine⟨?_,by rw[e,e1];simp,q,by rw[e,e5,<- e1];simp⟩;rcases e2 with ⟨a,b⟩ | ⟨a,b⟩
    ·exact .inr (.inr (.inl ⟨a,b,e3,e4⟩))
    ·exact .inr (.inr (.inr ⟨a,b,e3,e4⟩))
   ·cases h
  split at h
  ·rename_i hc;subst hc
   split at h
   ·rename_i t q hcut
    split at h
    ·rename_i hn
     cases h;obtain⟨e5,_⟩:=d6.1 hcut;have e:elt (5,t,0)=123 :: (t++[125]):=by simp [elt]
     exact⟨.inr (.inl ⟨rfl,hn,rfl⟩),by rw[e];simp,q,by rw[e,e5];simp⟩
    ·cases h
   ·cases h
  split at h
  ·rename_i hp
   cases h;have e:elt (1,[c],0)=[c]:=by simp [elt,gZ c hp]
   exact⟨.inl ⟨rfl,⟨c,rfl⟩,rfl⟩,by rw[e];rfl,r,by rw[e];rfl⟩
  ·cases h
theorem yX {s:Bs} {x:It} {m:Nat} (h:rd s=some (x,m)):1<=m/\m<=s.length/\s=elt x++s.drop m/\∀ r,rd (elt x++r)=some (x,m):=by
 obtain⟨h1,h2,r,h3⟩:=H9 h;have hl:1<=(elt x).length:=by
  have:=pK h1 []
  rw[append_nil] at this;cases he:elt x with
  | nil=>rw[he] at this;cases this
  | cons a l=>simp
 refine⟨by omega,by rw[h3,length_append];omega,?_,fun r=>by rw[pK h1,h2]⟩;rw[h3,h2,drop_left]
end Go.Nt
namespace Go.Nt
theorem uU:∀ (k k':Nat) (f:List It) (a n:Nat) (s:Bs),s.length<=k->s.length<=k'->prs k f a n s=prs k' f a n s
 | 0,k',f,a,n,s,h1,h2=>by
  have:s=[]:=eq_nil_of_length_eq_zero (by omega)
  subst this;cases k'<;>rfl
 | k+1,0,f,a,n,s,h1,h2=>by
  have:s=[]:=eq_nil_of_length_eq_zero (by omega)
  subst this;rfl
 | k+1,k'+1,f,a,n,s,h1,h2=>by
  cases s with
  | nil=>rfl
  | cons c s =>
   simp only[prs];cases h:rd (c :: s) with
   | none=>rfl
   | some p =>
    obtain⟨x,m⟩:=p;obtain⟨m1,m2,_,_⟩:=yX h;simp only[];have hl:((c :: s).drop m).length<=k:=by rw[length_drop];simp only[length_cons] at h1 ⊢;omega
    have hl':((c :: s).drop m).length<=k':=by rw[length_drop];simp only[length_cons] at h2 ⊢;omega
    rw[uU k k' _ _ _ _ hl hl']
def prS (f:List It) (a n:Nat) (s:Bs):List It × Nat × Int:=prs s.length f a n s
theorem IE (f:List It) (a n:Nat):prS f a n []=(f,0,0):=rfl
theorem pM {f:List It} {a n m:Nat} {s:Bs} {x:It} (h:rd s=some (x,m)):prS f a n s=if x.1≠1/\chk f x≠0 then ([],a,chk f x) else if 512 < (put f x).length\/1024 < n+1 then ([],a,3) else prS (put f x) (a+m) (n+1) (s.drop m):=by
 cases s with
 | nil=>cases h
 | cons c s =>
  obtain⟨m1,m2,_,_⟩:=yX h;have e:prs s.length (put f x) (a+m) (n+1) ((c :: s).drop m)=prs ((c :: s).drop m).length (put f x) (a+m) (n+1) ((c :: s).drop m):=
   uU _ _ _ _ _ _ (by rw[length_drop];simp only[length_cons];omega) (Nat.le_refl _)
  simp only[prS,length_cons,prs,h,e]
theorem qO:∀ (A B C:List It),dI A (B++C)=if dI A B≠0 then dI A B else dI (A++B) C
 | A,[],C=>by simp [dI]
 | A,x :: B,C=>by
  have e1:dI A (x :: B++C)=if chk A x≠0 then chk A x else dI (A++[x]) (B++C):=rfl
  have e2:dI A (x :: B)=if chk A x≠0 then chk A x else dI (A++[x]) B:=rfl
  by_cases h:chk A x≠0
  ·rw[if_pos h] at e1 e2
   rw[e1,e2,if_pos h]
  ·rw[if_neg h] at e1 e2
   rw[e1,e2,qO (A++[x]) B C,append_assoc];rfl
theorem cU (f:List It) (x:It):dI [] (f++[x])=0↔dI [] f=0/\chk f x=0:=by
 rw[qO];by_cases h:dI [] f=0
 ·simp only[h,ne_eq,not_true_eq_false,if_false,nil_append,dI,true_and]
  by_cases h2:chk f x=0
  ·simp [h2]
  ·simp [h2]
 ·simp [h]
theorem e7 (f g:List It):len (f++g)=len f+len g:=by simp [len]
theorem gK (x:It):len [x]=wid x:=by simp [len]
theorem dM (f:List It) (x:It):f7 (f++[x])=x.1:=by simp [f7]
theorem JI (f g:List It):fmt (f++g)=fmt f++fmt g:=by simp [fmt]
theorem JF (x:It):fmt [x]=elt x:=by simp [fmt]
theorem fG {f:List It} {x:It} (h:x.1=1):chk f x=0↔x.2.1≠[]/\x.2.2=0/\f7 f≠1:=by
 unfold chk;rw[if_pos h];constructor
 ·intro h1
  split at h1
  ·cases h1
  ·rename_i hc
   refine⟨fun q=>hc (.inl q),Classical.byContradiction fun q=>hc (.inr (.inl q)),fun q=>hc (.inr (.inr q))⟩
 ·rintro ⟨a,b,c⟩
  rw[if_neg]
  rintro (q | q | q)
  ·exact a q
  ·exact q b
  ·exact c q
def VL (f:List It):Prop:=dI [] f=0
theorem eT (f:List It):f=[]\/∃ g y,f=g++[y]:=by
 rcases eq_nil_or_concat f with h | ⟨g,y,h⟩
 ·exact .inl h
 ·exact .inr ⟨g,y,by simpa using h⟩
theorem gY {f:List It} {x:It} (hx:x.1=1):(f7 f≠1/\put f x=f++[x])\/∃ g y,f=g++[y]/\y.1=1/\put f x=g++[(1,y.2.1++x.2.1,0)]:=by
 rcases eT f with rfl | ⟨g,y,rfl⟩
 ·left;simp [put,hx,f7]
 ·by_cases hy:y.1=1
  ·right;exact⟨g,y,rfl,hy,by simp [put,hx,hy]⟩
  ·left;simp [put,hx,hy,f7]
theorem IC {f:List It} {x:It} (hx:x.1≠1):put f x=f++[x]:=by simp [put,hx]
theorem eH (f:List It):vld f=0↔VL f/\f.length<=512/\len f<=1024:=by
 unfold vld VL;constructor
 ·intro h
  split at h
  ·cases h
  ·rename_i hc
   exact⟨h,by omega,by omega⟩
 ·rintro ⟨h1,h2,h3⟩
  rw[if_neg (by omega),h1]
theorem xY (c:UInt8):wfX (1,[c],0):=.inl ⟨rfl,⟨c,rfl⟩,rfl⟩
theorem vR (c:UInt8):elt (1,[c],0)=wrt c:=by simp [elt]
theorem rP:∀ (t p:Bs) (A:List It) (a n:Nat) (r:Bs),A.length+1<=512->n+t.length<=1024 ->
  ∃ a',prS (A++[(1,p,0)]) a n (t.flatMap wrt++r)=prS (A++[(1,p++t,0)]) a' (n+t.length) r
 | [],p,A,a,n,r,h1,h2=>⟨a,by simp⟩
 | c :: t,p,A,a,n,r,h1,h2=>by
  simp only[length_cons] at h2;obtain⟨a',ih⟩:=rP t (p++[c]) A (a+(wrt c).length) (n+1) r h1 (by omega);refine⟨a',?_⟩;have hrd:=pK (xY c) (t.flatMap wrt++r);rw[vR] at hrd;rw[flatMap_cons,append_assoc,pM hrd,if_neg (by simp)];have hp:put (A++[(1,p,0)]) (1,[c],0)=A++[(1,p++[c],0)]:=by simp [put]
  rw[hp,if_neg (by simp only[length_append,length_cons,length_nil];omega),drop_left,ih];simp only[append_assoc,cons_append,nil_append,length_cons];rw[show n+1+t.length=n+(t.length+1) by omega]
theorem FI {f:List It} {x:It} (h:chk f x=0) (hx:x.1≠1):wfX x:=by
 unfold chk at h;rw[if_neg hx] at h
 split at h
 ·rename_i h5
  split at h
  ·rename_i hc;exact .inr (.inl ⟨h5,hc⟩)
  ·cases h
 split at h
 ·rename_i h5
  split at h
  ·rename_i hc;exact .inr (.inr (.inl ⟨h5,hc⟩))
  ·cases h
 split at h
 ·rename_i h5
  split at h
  ·rename_i hc;exact .inr (.inr (.inr ⟨h5,hc⟩))
  ·cases h
 ·cases h
theorem s9:∀ (B A:List It) (a n:Nat),n=len A->dI A B=0->(A++B).length<=512->len (A++B)<=1024->prS A a n (fmt B)=(A++B,0,0)
 | [],A,a,n,_,_,_,_=>by simp [fmt,IE]
 | x :: B,A,a,n,hn,hc,hl,hL=>by
  simp only[dI] at hc;have h0:chk A x=0:=by
   by_cases h:chk A x=0
   ·exact h
   ·rw[if_pos h] at hc;exact absurd hc h
  rw[if_neg (by simp [h0])] at hc;have e1:A++x :: B=A++[x]++B:=by simp
  rw[e1] at hl hL ⊢;have ef:fmt (x :: B)=elt x++fmt B:=by simp [fmt]
  rw[ef];have hlx:(A++[x]).length<=512:=by rw[length_append] at hl;omega
  have hLx:len (A++[x])<=1024:=by rw[e7] at hL;omega
  by_cases hx:x.1=1
  ·obtain⟨b1,b2,b3⟩:=(fG hx).1 h0
   obtain⟨k,s,i⟩:=x;simp only[] at hx b1 b2;subst hx b2
   cases s with
   | nil=>exact absurd rfl b1
   | cons c t =>
    have hrd:=pK (xY c) (t.flatMap wrt++fmt B);rw[vR] at hrd;have ee:elt (1,c :: t,0)=wrt c++t.flatMap wrt:=by simp [elt]
    have hw:len (A++[(1,c :: t,0)])=len A+(t.length+1):=by rw[e7,gK];simp [wid]
    rw[hw] at hLx;have hp:put A (1,[c],0)=A++[(1,[c],0)]:=by
     rcases gY (f:=A) (x:=(1,[c],0)) rfl with ⟨_,h⟩ | ⟨g,y,rfl,hy,_⟩
     ·exact h
     ·rw[dM] at b3;exact absurd hy b3
    rw[ee,append_assoc,pM hrd,if_neg (by simp),hp,if_neg (by simp only[length_append,length_cons,length_nil] at hlx ⊢;omega),drop_left];obtain⟨a',hch⟩:=rP t [c] A (a+(wrt c).length) (n+1) (fmt B) (by simpa using hlx) (by omega);rw[hch]
    have:=s9 B (A++[(1,c :: t,0)]) a' (n+1+t.length) (by rw[hw];omega) hc hl hL
    exact this
  ·have hw:=FI h0 hx
   rw[pM (pK hw _),if_neg (fun q=>q.2 h0),IC hx,drop_left];have hw2:len (A++[x])=len A+1:=by rw[e7,gK,wid,if_neg hx]
   rw[if_neg (by omega)];exact s9 B (A++[x]) _ (n+1) (by omega) hc hl hL
theorem rQ {f:List It} (h:vld f=0):RD (fmt f)=(f,0,0):=by
 obtain⟨h1,h2,h3⟩:=(eH f).1 h;exact s9 f [] 0 0 rfl h1 (by simpa using h2) (by simpa using h3)
theorem JH {f g:List It} (hf:vld f=0) (hg:vld g=0) (h:fmt f=fmt g):f=g:=by
 have h1:=rQ hf;have h2:=rQ hg;rw[h,h2] at h1;cases h1;rfl
end Go.Nt
namespace Go.Nt
def pn (f:List It) (x:It):List It:=if x.1=1 then (if x.2.1=[] then f else put f (1,x.2.1,0)) else f++[x]
def nrm (f:List It):List It:=f.foldl pn []
theorem yY {f:List It} {x:It} (h:chk f x=0):pn f x=f++[x]:=by
 unfold pn;by_cases hx:x.1=1
 ·obtain⟨h1,h2,h3⟩:=(fG hx).1 h
  rw[if_pos hx,if_neg h1];obtain⟨k,s,i⟩:=x;simp only[] at hx h2;subst hx h2;rcases gY (f:=f) (x:=(1,s,0)) rfl with ⟨_,h⟩ | ⟨g,y,rfl,hy,_⟩
  ·exact h
  ·rw[dM] at h3;exact absurd hy h3
 ·rw[if_neg hx]
theorem tP:∀ (B A:List It),dI A B=0->B.foldl pn A=A++B
 | [],A,_=>by simp
 | x :: B,A,h=>by
  simp only[dI] at h;have h0:chk A x=0:=by
   by_cases h1:chk A x=0
   ·exact h1
   ·rw[if_pos h1] at h;exact absurd h h1
  rw[if_neg (by simp [h0])] at h;rw[foldl_cons,yY h0,tP B _ h];simp
theorem uZ {f:List It} (h:VL f) (x:It):nrm (f++[x])=pn f x:=by
 unfold nrm;rw[foldl_append,tP f [] h];rfl
theorem MR {f:List It} (h:VL f):nrm f=f:=tP f [] h
def tg (f:List It):List It:=f.filter aY
theorem eJ (f g:List It):tg (f++g)=tg f++tg g:=by simp [tg]
theorem rI {x:It} (h:aY x=false):tg [x]=[]:=by simp [tg,h]
theorem gO {x:It} (h:aY x=true):tg [x]=[x]:=by simp [tg,h]
theorem k7 {x:It} (h:x.1=1):aY x=false:=by simp [aY,h]
theorem kF {f:List It} {x:It} (h:x.1=1):tg (pn f x)=tg f:=by
 unfold pn;rw[if_pos h];split
 ·rfl
 ·rcases gY (f:=f) (x:=(1,x.2.1,0)) rfl with ⟨_,h⟩ | ⟨g,y,rfl,hy,h⟩
  ·rw[h,eJ,rI (k7 rfl),append_nil]
  ·rw[h,eJ,eJ,rI (k7 rfl),rI (k7 hy)]
theorem rA {f:List It} {x:It} (hf:VL f) (h:x.1=1):VL (pn f x):=by
 unfold pn;rw[if_pos h];split
 ·exact hf
 ·rename_i hs
  rcases gY (f:=f) (x:=(1,x.2.1,0)) rfl with ⟨h1,h2⟩ | ⟨g,y,rfl,hy,h2⟩
  ·rw[h2]
   exact (cU f _).2 ⟨hf,(fG rfl).2 ⟨hs,rfl,h1⟩⟩
  ·rw[h2]
   obtain⟨a1,a2⟩:=(cU g y).1 hf;obtain⟨b1,b2,b3⟩:=(fG hy).1 a2;exact (cU g _).2 ⟨a1,(fG rfl).2 ⟨by simp [b1],rfl,b3⟩⟩
theorem M6 (f:List It) (x:It):len (pn f x)<=len f+wid x/\(pn f x).length<=f.length+1:=by
 unfold pn;by_cases h:x.1=1
 ·rw[if_pos h]
  split
  ·exact⟨by omega,by omega⟩
  ·rcases gY (f:=f) (x:=(1,x.2.1,0)) rfl with ⟨_,h2⟩ | ⟨g,y,rfl,hy,h2⟩
   ·rw[h2,e7,gK]
    simp [wid,h]
   ·rw[h2,e7,e7,gK,gK]
    simp only[wid,hy,h,if_true,length_append,length_cons,length_nil];omega
 ·rw[if_neg h,e7,gK]
  simp
theorem uD {f:List It} {x:It}:wM f x=0↔∀ z∈tg f,z.2.2=x.2.2->x.1=3/\z.1=2/\bU z.2.1=x.2.1:=by
 unfold wM;constructor
 ·intro h z hz hi
  obtain⟨h1,h2⟩:=mem_filter.1 hz
  have:f.any (dC x)≠true:=by
   intro q;rw[if_pos q] at h;cases h
  have hc:dC x z≠true:=fun q=>this (any_eq_true.2 ⟨z,h1,q⟩)
  unfold dC at hc;simp only[h2,hi,decide_true,Bool.and_self,Bool.true_and,Bool.not_eq_true',ne_eq,Bool.not_eq_false,Bool.and_eq_true,decide_eq_true_eq,beq_iff_eq] at hc;exact⟨hc.1.1,hc.1.2,hc.2⟩
 ·intro h
  rw[if_neg];intro q;obtain⟨z,h1,h2⟩:=any_eq_true.1 q;unfold dC at h2;simp only[Bool.and_eq_true,decide_eq_true_eq,Bool.not_eq_true'] at h2;obtain⟨⟨a1,a2⟩,a3⟩:=h2;obtain⟨b1,b2,b3⟩:=h z (mem_filter.2 ⟨h1,a1⟩) a2;rw[b1,b2,b3] at a3;simp at a3
structure FV (f op:List It) (id:Int):Prop where
 vl:VL f
 i0:0<=id
 ids:∀ z∈tg f,z.2.2<=id
 nd:(op.map fun t=>t.2.2).Nodup
 opn:∀ t∈op,t.1=2/\isC t.2.1=true/\1<=t.2.2/\t.2.2<=id/\∀ z∈tg f,z.2.2=t.2.2->z=t
theorem NP:FV [] [] 0:=⟨rfl,by omega,by simp [tg],by simp,by simp⟩
theorem I8 {f op:List It} {id:Int} (h:FV f op id) {x:It} (hx:x.1=1):FV (pn f x) op id:=
 ⟨rA h.vl hx,h.i0,by rw[kF hx];exact h.ids,h.nd,by rw[kF hx];exact h.opn⟩
theorem I9 {f op:List It} {id:Int} (h:FV f op id) {s:Bs} (hs:dS s=true):FV (pn f (5,s,0)) op id:=by
 have e:pn f (5,s,0)=f++[(5,s,0)]:=rfl;have et:tg (f++[((5:Int),s,(0:Int))])=tg f:=by rw[eJ,rI (by rfl),append_nil]
 rw[e];exact⟨(cU f _).2 ⟨h.vl,by simp [chk,hs]⟩,h.i0,by rw[et];exact h.ids,h.nd,by rw[et];exact h.opn⟩
theorem EZ {f op:List It} {id:Int} (h:FV f op id) {k:Int} {s:Bs} (hk:((k=2\/k=4)/\isC s=true)\/(k=3/\dS s=true)) (hi:id < 999):chk f (k,s,id+1)=0:=by
 have ht:wM f (k,s,id+1)=0:=uD.2 fun z hz he=>by
  have:=h.ids z hz
  simp only[] at he;omega
 have h0:=h.i0;rcases hk with ⟨rfl | rfl,hc⟩ | ⟨rfl,hc⟩
 ·simp only[chk]
  rw[if_neg (by decide),if_neg (by decide),if_pos (.inl trivial),if_pos ⟨hc,by omega,by omega⟩,ht]
 ·simp only[chk]
  rw[if_neg (by decide),if_neg (by decide),if_pos (.inr trivial),if_pos ⟨hc,by omega,by omega⟩,ht]
 ·simp only[chk]
  rw[if_neg (by decide),if_neg (by decide),if_neg (by decide),if_pos trivial,if_pos ⟨hc,by omega,by omega⟩,ht]
theorem EY {f op:List It} {id:Int} (h:FV f op id) {k:Int} {s:Bs} (hk:(k=4/\isC s=true)\/(k=3/\dS s=true)) (hi:id < 999):FV (pn f (k,s,id+1)) op (id+1):=by
 have hc:=EZ h (k:=k) (s:=s) (by rcases hk with ⟨a,b⟩ | ⟨a,b⟩;exact .inl ⟨.inr a,b⟩;exact .inr ⟨a,b⟩) hi;have hty:aY (k,s,id+1)=true:=by rcases hk with ⟨rfl,_⟩ | ⟨rfl,_⟩<;>rfl
 rw[yY hc];refine⟨(cU f _).2 ⟨h.vl,hc⟩,by have:=h.i0;omega,?_,h.nd,?_⟩
 ·intro z hz
  rw[eJ,gO hty] at hz;rcases mem_append.1 hz with q | q
  ·have:=h.ids z q;omega
  ·simp only[mem_singleton] at q;subst q;simp
 ·intro t ht
  obtain⟨a1,a2,a3,a4,a5⟩:=h.opn t ht;refine⟨a1,a2,a3,by omega,fun z hz he=>?_⟩;rw[eJ,gO hty] at hz;rcases mem_append.1 hz with q | q
  ·exact a5 z q he
  ·simp only[mem_singleton] at q;subst q;simp only[] at he;omega
theorem JA {f op:List It} {id:Int} (h:FV f op id) {s:Bs} (hk:isC s=true) (hi:id < 999):FV (pn f (2,s,id+1)) (op++[(2,s,id+1)]) (id+1):=by
 have hc:=EZ h (k:=2) (s:=s) (.inl ⟨.inl rfl,hk⟩) hi;have hty:aY ((2:Int),s,id+1)=true:=rfl;have h0:=h.i0;rw[yY hc];refine⟨(cU f _).2 ⟨h.vl,hc⟩,by omega,?_,?_,?_⟩
 ·intro z hz
  rw[eJ,gO hty] at hz;rcases mem_append.1 hz with q | q
  ·have:=h.ids z q;omega
  ·simp only[mem_singleton] at q;subst q;simp
 ·rw[map_append,nodup_append]
  refine⟨h.nd,by simp,fun a ha b hb=>?_⟩;obtain⟨t,ht,rfl⟩:=mem_map.1 ha;obtain⟨_,_,_,a4,_⟩:=h.opn t ht;simp only[map_cons,map_nil,mem_singleton] at hb;omega
 ·intro t ht
  rcases mem_append.1 ht with q | q
  ·obtain⟨a1,a2,a3,a4,a5⟩:=h.opn t q
   refine⟨a1,a2,a3,by omega,fun z hz he=>?_⟩;rw[eJ,gO hty] at hz;rcases mem_append.1 hz with q | q
   ·exact a5 z q he
   ·simp only[mem_singleton] at q;subst q;simp only[] at he;omega
  ·simp only[mem_singleton] at q
   subst q;refine⟨rfl,hk,by simp only[];omega,by simp only[];omega,fun z hz he=>?_⟩;rw[eJ,gO hty] at hz;rcases mem_append.1 hz with q | q
   ·have:=h.ids z q;simp only[] at he;omega
   ·simpa using q
theorem ES {s:Bs} (h:isC s=true):dS (bU s)=true:=by
 unfold isC at h;simp only[Bool.and_eq_true] at h;exact h.1.1.2
theorem E1 {f op:List It} {id:Int} (h:FV f op id) (hi:id<=999) {a b:List It} {t:It} (he:op=a++t :: b):FV (pn f (3,bU t.2.1,t.2.2)) (a++b) id:=by
 obtain⟨t1,t2,t3,t4,t5⟩:=h.opn t (by rw[he];simp);have hty:aY ((3:Int),bU t.2.1,t.2.2)=true:=rfl;have ht:wM f (3,bU t.2.1,t.2.2)=0:=uD.2 fun z hz hzi=>by
  have:=t5 z hz hzi
  subst this;exact⟨rfl,t1,rfl⟩
 have hc:chk f (3,bU t.2.1,t.2.2)=0:=by
  simp only[chk];rw[if_neg (by decide),if_neg (by decide),if_neg (by decide),if_pos trivial,if_pos ⟨ES t2,t3,by omega⟩,ht]
 rw[yY hc];have hnd:=h.nd;rw[he,map_append,map_cons] at hnd;have hne:∀ s∈a++b,s.2.2≠t.2.2:=by
  intro s hs e;rw[nodup_append] at hnd;obtain⟨n1,n2,n3⟩:=hnd;rcases mem_append.1 hs with q | q
  ·exact n3 _ (mem_map_of_mem q) _ (by simp) e
  ·exact (nodup_cons.1 n2).1 (by rw[<- e];exact mem_map_of_mem q)
 refine⟨(cU f _).2 ⟨h.vl,hc⟩,h.i0,?_,?_,?_⟩
 ·intro z hz
  rw[eJ,gO hty] at hz;rcases mem_append.1 hz with q | q
  ·exact h.ids z q
  ·simp only[mem_singleton] at q;subst q;exact t4
 ·rw[map_append]
  rw[nodup_append] at hnd ⊢;exact⟨hnd.1,(nodup_cons.1 hnd.2.1).2,fun x hx y hy=>hnd.2.2 x hx y (by simp [hy])⟩
 ·intro s hs
  obtain⟨a1,a2,a3,a4,a5⟩:=h.opn s (by rw[he];rcases mem_append.1 hs with q | q<;>simp [q]);refine⟨a1,a2,a3,a4,fun z hz hzi=>?_⟩;rw[eJ,gO hty] at hz;rcases mem_append.1 hz with q | q
  ·exact a5 z q hzi
  ·simp only[mem_singleton] at q
   subst q;exact absurd hzi.symm (hne s hs)
end Go.Nt
namespace Go.Nt
def wfB (f:List It) (x:It):Bool:=
 if x.1=1 then !(decide (x.2.1=[]) || decide (x.2.2≠0) || decide (f7 f=1))
 else if x.1=5 then dS x.2.1 && decide (x.2.2=0)
 else if x.1=2\/x.1=4 then isC x.2.1 && (decide (1<=x.2.2) && decide (x.2.2<=999))
 else if x.1=3 then dS x.2.1 && (decide (1<=x.2.2) && decide (x.2.2<=999))
 else false
def jE (f:List It) (x:It):Bool:=!(f.any (dC x))
theorem mH (f:List It) (x:It):chk f x=if wfB f x=true then (if aY x=true then (if jE f x=true then 0 else 7) else 0) else 1:=by
 obtain⟨k,s,i⟩:=x;unfold chk wfB jE wM;simp only[];by_cases h1:k=1
 ·subst h1
  simp only[↓reduceIte];have e:aY ((1:Int),s,i)=false:=rfl;rw[e];by_cases a:s=[]<;>by_cases b:i=0<;>by_cases c:f7 f=1<;>simp [a,b,c]
 rw[if_neg h1,if_neg h1];by_cases h5:k=5
 ·subst h5
  simp only[↓reduceIte];have e:aY ((5:Int),s,i)=false:=rfl;rw[e]
  cases dS s<;>by_cases b:i=0<;>simp [b]
 rw[if_neg h5,if_neg h5];by_cases h2:k=2\/k=4
 ·rw[if_pos h2,if_pos h2]
  have e:aY (k,s,i)=true:=by rcases h2 with rfl | rfl<;>rfl
  rw[e]
  cases isC s<;>by_cases b:1<=i<;>by_cases c:i<=999<;>cases f.any (dC (k,s,i))<;>simp [b,c]
 rw[if_neg h2,if_neg h2];by_cases h3:k=3
 ·subst h3
  simp only[↓reduceIte];have e:aY ((3:Int),s,i)=true:=rfl;rw[e]
  cases dS s<;>by_cases b:1<=i<;>by_cases c:i<=999<;>cases f.any (dC ((3:Int),s,i))<;>simp [b,c]
 ·rw[if_neg h3,if_neg h3];rfl
def fin (f:List It) (t:Bs):List It:=if t=[] then f else f++[(1,t,0)]
end Go.Nt
namespace Go.Nt
end Go.Nt
namespace Go.Nt
def fL (l:List Int) (x:It):List Int:=if aY x=true/\x.2.2 ∉ l then l++[x.2.2] else l
def cL (f:List It):List Int:=f.foldl fL []
def lkz:List Int->List Int->Int->Option Int
 | a :: as,b :: bs,i=>if a=i then some b else lkz as bs i
 | _,_,_=>none
def iT (fr to1:List Int) (x:It):Option It:=if aY x=true then (lkz fr to1 x.2.2).map fun n=>(x.1,x.2.1,n) else some x
def fW (fr to1:List Int) (f:List It):List It:=f.filterMap (iT fr to1)
def fT (n:Nat):List Int:=(List.range n).map fun (i:Nat)=>(i:Int)+1
def rnm (f:List It):List It:=fW (cL f) (fT (cL f).length) f
theorem kY (n:Nat):(fT n).length=n:=by simp [fT]
theorem LN (n:Nat):fT (n+1)=fT n++[(n:Int)+1]:=by simp [fT,range_succ]
theorem FX (l:List Int) (x:It) (i:Int) (h:i∈l):i∈fL l x:=by
 unfold fL;split
 ·simp [h]
 ·exact h
theorem vM:∀ (f:List It) (l:List Int) (i:Int),i∈l->i∈f.foldl fL l
 | [],l,i,h=>h
 | x :: f,l,i,h=>vM f _ i (FX l x i h)
theorem vL:∀ (f:List It) (l:List Int) (x:It),x∈f->aY x=true->x.2.2∈f.foldl fL l
 | y :: f,l,x,h,ht=>by
  rw[foldl_cons];rcases mem_cons.1 h with rfl | h
  ·refine vM f _ _ ?_
   unfold fL;by_cases q:x.2.2∈l
   ·rw[if_neg (fun z=>z.2 q)];exact q
   ·rw[if_pos ⟨ht,q⟩];simp
  ·exact vL f _ x h ht
theorem fC {f:List It} {x:It} (h:x∈f) (ht:aY x=true):x.2.2∈cL f:=vL f [] x h ht
theorem vN:∀ (f:List It) (l:List Int),(f.foldl fL l).length<=l.length+f.length
 | [],l=>by simp
 | x :: f,l=>by
  have:=vN f (fL l x)
  have h2:(fL l x).length<=l.length+1:=by unfold fL;split<;>simp
  rw[foldl_cons,length_cons];omega
theorem pP (f:List It):(cL f).length<=f.length:=by have:=vN f [];simpa [cL] using this
theorem kJ:∀ (l to1:List Int) (i v:Int),lkz l to1 i=some v->∃ j:Nat,l[j]?=some i/\to1[j]?=some v
 | [],_,i,v,h=>by simp [lkz] at h
 | a :: as,[],i,v,h=>by simp [lkz] at h
 | a :: as,b :: bs,i,v,h=>by
  simp only[lkz] at h
  split at h
  ·rename_i e;cases h;exact⟨0,by simp [e],rfl⟩
  ·obtain⟨j,h1,h2⟩:=kJ as bs i v h
   exact⟨j+1,by simpa using h1,by simpa using h2⟩
theorem pX:∀ (l to1:List Int) (i:Int),l.length<=to1.length->i∈l->∃ v,lkz l to1 i=some v
 | [],_,i,_,h=>by cases h
 | a :: as,[],i,h,_=>by simp at h
 | a :: as,b :: bs,i,h,hm=>by
  simp only[lkz];by_cases e:a=i
  ·exact⟨b,by rw[if_pos e]⟩
  ·rw[if_neg e]
   refine pX as bs i (by simpa using h) ?_;rcases mem_cons.1 hm with q | q
   ·exact absurd q.symm e
   ·exact q
theorem sS {n j:Nat} {v:Int} (h:(fT n)[j]?=some v):v=(j:Int)+1/\j < n:=by
 unfold fT at h;rw[getElem?_map,Option.map_eq_some_iff] at h;obtain⟨a,h1,h2⟩:=h;rw[List.getElem?_eq_some_iff] at h1;obtain⟨h3,h4⟩:=h1;simp at h3 h4;omega
def sig (f:List It) (i:Int):Int:=(lkz (cL f) (fT (cL f).length) i).getD 0
theorem lD {f:List It} {i:Int} (h:i∈cL f):lkz (cL f) (fT (cL f).length) i=some (sig f i):=by
 obtain⟨v,hv⟩:=pX (cL f) (fT (cL f).length) i (by rw[kY];exact Nat.le_refl _) h;rw[hv];unfold sig;rw[hv];rfl
theorem L6 {f:List It} {i:Int} (h:i∈cL f):1<=sig f i/\sig f i<=((cL f).length:Int):=by
 obtain⟨j,h1,h2⟩:=kJ _ _ _ _ (lD h);obtain⟨h3,h4⟩:=sS h2;omega
theorem HX {f:List It} {i k:Int} (hi:i∈cL f) (hk:k∈cL f) (h:sig f i=sig f k):i=k:=by
 obtain⟨j,h1,h2⟩:=kJ _ _ _ _ (lD hi);obtain⟨j',h1',h2'⟩:=kJ _ _ _ _ (lD hk);obtain⟨h3,_⟩:=sS h2;obtain⟨h3',_⟩:=sS h2'
 have:j=j':=by omega
 subst this;rw[h1] at h1';cases h1';rfl
def phi (f:List It) (x:It):It:=if aY x=true then (x.1,x.2.1,sig f x.2.2) else x
theorem s7 (f:List It):rnm f=f.map (phi f):=by
 have key:∀ g:List It,(∀ x∈g,x∈f)->g.filterMap (iT (cL f) (fT (cL f).length))=g.map (phi f):=by
  intro g
  induction g with
  | nil=>intro _;rfl
  | cons x g ih =>
   intro h;rw[filterMap_cons,map_cons,<- ih (fun y hy=>h y (by simp [hy]))];have e:iT (cL f) (fT (cL f).length) x=some (phi f x):=by
    unfold iT phi;by_cases ht:aY x=true
    ·rw[if_pos ht,if_pos ht,lD (fC (h x (by simp)) ht)];rfl
    ·rw[if_neg ht,if_neg ht]
   rw[e]
 exact key f (fun x hx=>hx)
theorem iN (f:List It) (x:It):(phi f x).1=x.1/\(phi f x).2.1=x.2.1:=by unfold phi;split<;>simp
theorem yZ (f:List It) (x:It):aY (phi f x)=aY x:=by unfold aY;rw[(iN f x).1]
theorem IH (f:List It) (x:It):wid (phi f x)=wid x:=by unfold wid;rw[(iN f x).1,(iN f x).2]
theorem BM (f A:List It):f7 (A.map (phi f))=f7 A:=by
 rcases eT A with rfl | ⟨B,y,rfl⟩
 ·rfl
 ·rw[map_append,map_singleton,dM,dM,(iN f y).1]
theorem BN {f:List It} {x y:It} (hx:x∈f) (hy:y∈f) (ht:aY x=true):dC (phi f x) (phi f y)=dC x y:=by
 unfold dC;rw[yZ,(iN f x).1,(iN f x).2,(iN f y).1,(iN f y).2];cases hty:aY y with
 | false=>rfl
 | true =>
  have e:decide ((phi f y).2.2=(phi f x).2.2)=decide (y.2.2=x.2.2):=by
   unfold phi;rw[if_pos hty,if_pos ht,decide_eq_decide];exact⟨fun q=>HX (fC hy hty) (fC hx ht) q,fun q=>by simp only[];rw[q]⟩
  rw[e]
theorem II {f A:List It} {x:It} (hn:(cL f).length<=999) (hA:∀ y∈A,y∈f) (hx:x∈f) (h:chk A x=0):chk (A.map (phi f)) (phi f x)=0:=by
 rw[mH] at h ⊢;have hw:wfB A x=true:=by
  cases q:wfB A x with
  | true=>rfl
  | false=>rw[q] at h;simp at h
 rw[hw] at h;have hw2:wfB (A.map (phi f)) (phi f x)=true:=by
  by_cases ht:aY x=true
  ·have hb:=L6 (fC hx ht)
   have h1:¬ x.1=1:=fun q=>by rw[k7 q] at ht;cases ht
   have h5:¬ x.1=5:=fun q=>by unfold aY at ht;rw[q] at ht;simp at ht
   unfold wfB at hw ⊢;rw[(iN f x).1,(iN f x).2];rw[if_neg h1,if_neg h5] at hw ⊢;have e:(phi f x).2.2=sig f x.2.2:=by unfold phi;rw[if_pos ht]
   rw[e]
   split at hw
   ·rename_i q
    rw[if_pos q];simp only[Bool.and_eq_true,decide_eq_true_eq] at hw ⊢;exact⟨hw.1,by omega,by omega⟩
   ·rename_i q
    rw[if_neg q]
    split at hw
    ·rename_i q3
     rw[if_pos q3];simp only[Bool.and_eq_true,decide_eq_true_eq] at hw ⊢;exact⟨hw.1,by omega,by omega⟩
    ·cases hw
  ·have e:phi f x=x:=by unfold phi;rw[if_neg ht]
   rw[e];unfold wfB at hw ⊢;rw[BM];exact hw
 rw[hw2,yZ];simp only[if_true] at h ⊢;cases ht:aY x with
 | false=>rfl
 | true =>
  rw[ht] at h;simp only[if_true] at h ⊢;have e:jE (A.map (phi f)) (phi f x)=jE A x:=by
   unfold jE
   congr 1
   rw[any_map]
   have:∀ B:List It,(∀ y∈B,y∈f)->B.any (dC (phi f x) ∘ phi f)=B.any (dC x):=by
    intro B
    induction B with
    | nil=>intro _;rfl
    | cons y B ih =>
     intro hB;rw[any_cons,any_cons,ih (fun z hz=>hB z (by simp [hz]))];show (dC (phi f x) (phi f y) || _)=_;rw[BN hx (hB y (by simp)) ht]
   exact this A hA
  rw[e];exact h
theorem uV {f:List It} (hn:(cL f).length<=999):∀ (B A:List It),(∀ y∈A,y∈f)->(∀ y∈B,y∈f)->dI A B=0->dI (A.map (phi f)) (B.map (phi f))=0
 | [],A,_,_,_=>rfl
 | x :: B,A,hA,hB,h=>by
  simp only[dI] at h;have h0:chk A x=0:=by
   by_cases q:chk A x=0
   ·exact q
   ·rw[if_pos q] at h;exact absurd h q
  rw[if_neg (by simp [h0])] at h;have h1:=II hn hA (hB x (by simp)) h0
  have ih:=uV hn B (A++[x]) (fun y hy=>by
   rcases mem_append.1 hy with q | q
   ·exact hA y q
   ·simp only[mem_singleton] at q;subst q;exact hB y (by simp)) (fun y hy=>hB y (by simp [hy])) h
  rw[map_append,map_singleton] at ih;rw[map_cons];simp only[dI];rw[if_neg (by simp [h1])];exact ih
theorem H3 (f:List It):(rnm f).length=f.length/\len (rnm f)=len f:=by
 rw[s7];refine⟨by simp,?_⟩;unfold len;rw[map_map]
 congr 1
 refine map_congr_left fun x _=>?_
 exact IH f x
theorem oK {f:List It} (h:vld f=0):vld (rnm f)=0:=by
 obtain⟨h1,h2,h3⟩:=(eH f).1 h;obtain⟨l1,l2⟩:=H3 f;refine (eH _).2 ⟨?_,by omega,by omega⟩
 have:=pP f
 have:=uV (f:=f) (by omega) f [] (by simp) (fun y hy=>hy) h1
 unfold VL;rw[s7];exact this
def fM (f:List It):Bs:=if vld f=0 then fmt (rnm f) else []
theorem NE {f g:List It} (hf:vld f=0) (hg:vld g=0):fM f=fM g↔rnm f=rnm g:=by
 unfold fM;rw[if_pos hf,if_pos hg];exact⟨fun q=>JH (oK hf) (oK hg) q,fun q=>by rw[q]⟩
end Go.Nt
namespace Go.Nt
structure TVok (tv:List Int) (f:List It):Prop where
 hl:(cL f).length<=tv.length
 nd:tv.Nodup
 bd:∀ v∈tv,1<=v/\v<=999
def sgq (tv:List Int) (f:List It) (i:Int):Int:=(lkz (cL f) tv i).getD 0
theorem lE {tv:List Int} {f:List It} (H:TVok tv f) {i:Int} (h:i∈cL f):lkz (cL f) tv i=some (sgq tv f i):=by
 obtain⟨v,hv⟩:=pX (cL f) tv i H.hl h;rw[hv];unfold sgq;rw[hv];rfl
theorem L7 {tv:List Int} {f:List It} (H:TVok tv f) {i:Int} (h:i∈cL f):1<=sgq tv f i/\sgq tv f i<=999:=by
 obtain⟨j,h1,h2⟩:=kJ _ _ _ _ (lE H h);exact H.bd _ (mem_of_getElem? h2)
theorem HZ {tv:List Int} {f:List It} (H:TVok tv f) {i k:Int} (hi:i∈cL f) (hk:k∈cL f) (h:sgq tv f i=sgq tv f k):i=k:=by
 obtain⟨j,h1,h2⟩:=kJ _ _ _ _ (lE H hi);obtain⟨j',h1',h2'⟩:=kJ _ _ _ _ (lE H hk);rw[<- h] at h2';obtain⟨q1,q2⟩:=List.getElem?_eq_some_iff.1 h2;obtain⟨q3,q4⟩:=List.getElem?_eq_some_iff.1 h2'
 have:j=j':=(getElem_inj H.nd).1 (q2.trans q4.symm)
 subst this;rw[h1] at h1';cases h1';rfl
def psi (tv:List Int) (f:List It) (x:It):It:=if aY x=true then (x.1,x.2.1,sgq tv f x.2.2) else x
theorem H7 {tv:List Int} {f:List It} (H:TVok tv f):fW (cL f) tv f=f.map (psi tv f):=by
 have key:∀ g:List It,(∀ x∈g,x∈f)->g.filterMap (iT (cL f) tv)=g.map (psi tv f):=by
  intro g
  induction g with
  | nil=>intro _;rfl
  | cons x g ih =>
   intro h;rw[filterMap_cons,map_cons,<- ih (fun y hy=>h y (by simp [hy]))];have e:iT (cL f) tv x=some (psi tv f x):=by
    unfold iT psi;by_cases ht:aY x=true
    ·rw[if_pos ht,if_pos ht,lE H (fC (h x (by simp)) ht)];rfl
    ·rw[if_neg ht,if_neg ht]
   rw[e]
 exact key f (fun x hx=>hx)
theorem nQ (tv:List Int) (f:List It) (x:It):(psi tv f x).1=x.1/\(psi tv f x).2.1=x.2.1:=by unfold psi;split<;>simp
theorem oO (tv:List Int) (f:List It) (x:It):aY (psi tv f x)=aY x:=by unfold aY;rw[(nQ tv f x).1]
theorem BJ (tv:List Int) (f A:List It):f7 (A.map (psi tv f))=f7 A:=by
 rcases eT A with rfl | ⟨B,y,rfl⟩
 ·rfl
 ·rw[map_append,map_singleton,dM,dM,(nQ tv f y).1]
theorem BL {tv:List Int} {f:List It} {x y:It} (H:TVok tv f) (hx:x∈f) (hy:y∈f) (ht:aY x=true):dC (psi tv f x) (psi tv f y)=dC x y:=by
 unfold dC;rw[oO,(nQ tv f x).1,(nQ tv f x).2,(nQ tv f y).1,(nQ tv f y).2];cases hty:aY y with
 | false=>rfl
 | true =>
  have e:decide ((psi tv f y).2.2=(psi tv f x).2.2)=decide (y.2.2=x.2.2):=by
   unfold psi;rw[if_pos hty,if_pos ht,decide_eq_decide];exact⟨fun q=>HZ H (fC hy hty) (fC hx ht) q,fun q=>by simp only[];rw[q]⟩
  rw[e]
theorem ID {tv:List Int} {f A:List It} {x:It} (H:TVok tv f) (hA:∀ y∈A,y∈f) (hx:x∈f) (h:chk A x=0):chk (A.map (psi tv f)) (psi tv f x)=0:=by
 rw[mH] at h ⊢;have hw:wfB A x=true:=by
  cases q:wfB A x with
  | true=>rfl
  | false=>rw[q] at h;simp at h
 rw[hw] at h;have hw2:wfB (A.map (psi tv f)) (psi tv f x)=true:=by
  by_cases ht:aY x=true
  ·have hb:=L7 H (fC hx ht)
   have h1:¬ x.1=1:=fun q=>by rw[k7 q] at ht;cases ht
   have h5:¬ x.1=5:=fun q=>by unfold aY at ht;rw[q] at ht;simp at ht
   unfold wfB at hw ⊢;rw[(nQ tv f x).1,(nQ tv f x).2];rw[if_neg h1,if_neg h5] at hw ⊢;have e:(psi tv f x).2.2=sgq tv f x.2.2:=by unfold psi;rw[if_pos ht]
   rw[e]
   split at hw
   ·rename_i q
    rw[if_pos q];simp only[Bool.and_eq_true,decide_eq_true_eq] at hw ⊢;exact⟨hw.1,by omega,by omega⟩
   ·rename_i q
    rw[if_neg q]
    split at hw
    ·rename_i q3
     rw[if_pos q3];simp only[Bool.and_eq_true,decide_eq_true_eq] at hw ⊢;exact⟨hw.1,by omega,by omega⟩
    ·cases hw
  ·have e:psi tv f x=x:=by unfold psi;rw[if_neg ht]
   rw[e];unfold wfB at hw ⊢;rw[BJ];exact hw
 rw[hw2,oO];simp only[if_true] at h ⊢;cases ht:aY x with
 | false=>rfl
 | true =>
  rw[ht] at h;simp only[if_true] at h ⊢;have e:jE (A.map (psi tv f)) (psi tv f x)=jE A x:=by
   unfold jE
   congr 1
   rw[any_map]
   have:∀ B:List It,(∀ y∈B,y∈f)->B.any (dC (psi tv f x) ∘ psi tv f)=B.any (dC x):=by
    intro B
    induction B with
    | nil=>intro _;rfl
    | cons y B ih =>
     intro hB;rw[any_cons,any_cons,ih (fun z hz=>hB z (by simp [hz]))];show (dC (psi tv f x) (psi tv f y) || _)=_;rw[BL H hx (hB y (by simp)) ht]
   exact this A hA
  rw[e];exact h
theorem uT {tv:List Int} {f:List It} (H:TVok tv f):∀ (B A:List It),(∀ y∈A,y∈f)->(∀ y∈B,y∈f)->dI A B=0->dI (A.map (psi tv f)) (B.map (psi tv f))=0
 | [],A,_,_,_=>rfl
 | x :: B,A,hA,hB,h=>by
  simp only[dI] at h;have h0:chk A x=0:=by
   by_cases q:chk A x=0
   ·exact q
   ·rw[if_pos q] at h;exact absurd h q
  rw[if_neg (by simp [h0])] at h;have h1:=ID H hA (hB x (by simp)) h0
  have ih:=uT H B (A++[x]) (fun y hy=>by
   rcases mem_append.1 hy with q | q
   ·exact hA y q
   ·simp only[mem_singleton] at q;subst q;exact hB y (by simp)) (fun y hy=>hB y (by simp [hy])) h
  rw[map_append,map_singleton] at ih;rw[map_cons];simp only[dI];rw[if_neg (by simp [h1])];exact ih
theorem V2 {tv:List Int} {f:List It} (H:TVok tv f) (h:VL f):VL (f.map (psi tv f)):=uT H f [] (by simp) (fun y hy=>hy) h
theorem IL (f:List It):(cL f).length<=(tg f).length:=by
 have key:∀ (f:List It) (l:List Int),(f.foldl fL l).length<=l.length+(tg f).length:=by
  intro f
  induction f with
  | nil=>intro l;simp [tg]
  | cons x f ih =>
   intro l;have h:=ih (fL l x);rw[foldl_cons];have e:tg (x :: f)=tg [x]++tg f:=by rw[<- eJ];rfl
   rw[e,length_append];by_cases ht:aY x=true
   ·rw[gO ht]
    have:(fL l x).length<=l.length+1:=by unfold fL;split<;>simp
    simp only[length_singleton];omega
   ·have e2:fL l x=l:=by unfold fL;rw[if_neg (fun z=>ht z.1)]
    rw[e2] at h ⊢;omega
 simpa [cL] using key f []
theorem LP (tv:List Int) (f g:List It):(tg (g.map (psi tv f))).length=(tg g).length:=by
 induction g with
 | nil=>rfl
 | cons x g ih =>
  have e:tg (x :: g)=tg [x]++tg g:=by rw[<- eJ];rfl
  have e2:tg ((x :: g).map (psi tv f))=tg [psi tv f x]++tg (g.map (psi tv f)):=by rw[<- eJ];rfl
  rw[e,e2,length_append,length_append,ih]
  congr 1
  by_cases ht:aY x=true
  ·rw[gO ht,gO (by rw[oO];exact ht)];rfl
  ·have ht':aY x=false:=by simpa using ht
   rw[rI ht',rI (by rw[oO];exact ht')]
def GV (f:List It):Prop:=VL f/\(tg f).length<=4
theorem NJ {f:List It} (h:GV f):GV (nrm (fW (cL f) [9,4,6,2,8,3] f)):=by
 have hn:=IL f;have H:TVok [9,4,6,2,8,3] f:=⟨by have:=h.2;simp;omega,by decide,by decide⟩
 have hv:=V2 H h.1;rw[H7 H,MR hv];exact⟨hv,by rw[LP];exact h.2⟩
theorem NK {f:List It} (h:GV f) (x:It) (hx:x.1=1):GV (nrm (f++[x])):=by
 rw[uZ h.1];exact⟨rA h.1 hx,by rw[kF hx];exact h.2⟩
theorem SI {f:List It} (h:vld f=0) (hl:f.length<=4):GV f:=⟨((eH f).1 h).1,Nat.le_trans (length_filter_le _ _) hl⟩
def ktx (f:List It):List (Int × Bs):=f.map fun x=>(x.1,x.2.1)
theorem H4 {f g:List It} (h:rnm f=rnm g):ktx f=ktx g:=by
 have e:∀ f:List It,ktx (rnm f)=ktx f:=fun f=>by
  rw[s7];unfold ktx;rw[map_map];apply map_congr_left;intro x _;show ((phi f x).1,(phi f x).2.1)=_;rw[(iN f x).1,(iN f x).2]
 rw[<- e f,<- e g,h]
end Go.Nt

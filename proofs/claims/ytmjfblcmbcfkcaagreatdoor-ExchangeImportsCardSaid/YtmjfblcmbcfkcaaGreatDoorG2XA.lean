/- The notation of fragments as plain data: bytes, names, contents, numbers, items. The notation of fragments as plain data: an element that is read is one that is written. The notation of fragments as plain data: parsing inverts formatting, what is parsed is valid and formats to what was read, an error's offset. Fragments that are made of numbers are valid: what each step of their making keeps. The notation of fragments as plain data: the tags that were seen, the limits of a notation, what the parts of the programs test. The notation of fragments as plain data: how the reference reads a tag and a byte. Renumbering the tags of a fragment as plain data: valid fragments stay valid. -/
open List
set_option linter.unusedSimpArgs false
set_option linter.unusedVariables false
set_option linter.unusedSectionVars false
set_option maxRecDepth 100000
set_option maxHeartbeats 16000000
namespace Go.Nt
abbrev Bs:=List UInt8
abbrev It:=Int × Bs × Int
theorem eH (p:UInt8->Bool) (h:∀ n:Fin 256,p (UInt8.ofNat n.1)=true) (c:UInt8):p c=true:=by
 have:=h ⟨c.toNat,c.toNat_lt⟩
 simpa using this
def qC (c:UInt8):Bool:=decide (97<=c.toNat) && decide (c.toNat<=122)
def nmB (c:UInt8):Bool:=qC c || (decide (48<=c.toNat) && decide (c.toNat<=57)) || decide (c.toNat=45)
def cW:Bs->Bool
 | []=>false
 | c :: r=>decide (r.length < 24) && qC c && r.all nmB
def aT (s:Bs):Bs:=s.takeWhile fun c=>c != 32
def okB (c:UInt8):Bool:=decide (32<=c.toNat) && decide (c.toNat<=126) && c != 60 && c != 62 && c != 123 && c != 125
def isC (s:Bs):Bool:=
 decide (s.length<=64) && s.all okB && cW (aT s) && (decide ((aT s).length=s.length) || decide ((aT s).length+1 < s.length)) && !(s.getLast? == some 47)
def bD (x:It):Bool:=decide (x.1=2) || decide (x.1=3) || decide (x.1=4)
def dJ (x y:It):Bool:=bD y && decide (y.2.2=x.2.2) && !(decide (x.1=3) && decide (y.1=2) && (aT y.2.1 == x.2.1))
def iO (f:List It):Int:=match f.getLast? with
 | some y=>y.1
 | none=>0
def mM (f:List It) (x:It):Int:=if f.any (dJ x)=true then 7 else 0
def chk (f:List It) (x:It):Int:=
 if x.1=1 then (if x.2.1=[]\/x.2.2≠0\/iO f=1 then 1 else 0)
 else if x.1=5 then (if cW x.2.1=true/\x.2.2=0 then 0 else 1)
 else if x.1=2\/x.1=4 then (if isC x.2.1=true/\1<=x.2.2/\x.2.2<=999 then mM f x else 1)
 else if x.1=3 then (if cW x.2.1=true/\1<=x.2.2/\x.2.2<=999 then mM f x else 1)
 else 1
def wid (x:It):Nat:=if x.1=1 then x.2.1.length else 1
def len (f:List It):Nat:=(f.map wid).sum
def fK (f:List It):List It->Int
 | []=>0
 | x :: r=>if chk f x≠0 then chk f x else fK (f++[x]) r
def vld (f:List It):Int:=if 512 < f.length\/1024 < len f then 3 else fK [] f
def dig (n:Nat):UInt8:=UInt8.ofNat (48+n)
def dec (n:Nat):Bs:=if n < 10 then [dig n] else if n < 100 then [dig (n / 10),dig (n % 10)] else [dig (n / 100),dig (n / 10 % 10),dig (n % 10)]
def rA (n:Nat):UInt8:=if n < 10 then UInt8.ofNat (48+n) else UInt8.ofNat (87+n)
def ctl (c:UInt8):Bool:=(decide (c.toNat < 32) && c != 9 && c != 10 && c != 13) || c == 127
def gP (c:UInt8):Bool:=c != 92 && c != 60 && c != 123 && c != 9 && c != 10 && c != 13 && !ctl c
def wrt (c:UInt8):Bs:=
 if c=92\/c=60\/c=123 then [92,c]
 else if c=10 then [92,110]
 else if c=9 then [92,116]
 else if c=13\/ctl c=true then [92,120,rA (c.toNat / 16),rA (c.toNat % 16)]
 else [c]
def elt (x:It):Bs:=
 if x.1=1 then x.2.1.flatMap wrt
 else if x.1=2 then 60 :: (dec x.2.2.toNat++58 :: (x.2.1++[62]))
 else if x.1=3 then 60 :: 47 :: (dec x.2.2.toNat++58 :: (x.2.1++[62]))
 else if x.1=4 then 60 :: (dec x.2.2.toNat++58 :: (x.2.1++[47,62]))
 else 123 :: (x.2.1++[125])
def fmt (f:List It):Bs:=f.flatMap elt
def u6 (c:UInt8):Option Nat:=if 48<=c.toNat/\c.toNat<=57 then some (c.toNat - 48) else if 97<=c.toNat/\c.toNat<=102 then some (c.toNat - 87) else none
def rdE:Bs->Option (UInt8 × Nat)
 | []=>none
 | c :: r=>if c=92\/c=60\/c=123 then some (c,2) else if c=110 then some (10,2) else if c=116 then some (9,2) else if c=120 then (match r with
  | h :: l :: _=>match u6 h,u6 l with
   | some a,some b=>if UInt8.ofNat (a*16+b)=13\/ctl (UInt8.ofNat (a*16+b))=true then some (UInt8.ofNat (a*16+b),4) else none
   | _,_=>none
  | _=>none) else none
def dE (c:UInt8):Bool:=decide (48<=c.toNat) && decide (c.toNat<=57)
def cV:Bs->Nat->Nat
 | [],n=>n
 | c :: r,n=>cV r (10*n+(c.toNat - 48))
def rdN (s:Bs):Option Nat:=if 1<=s.length/\s.length<=3/\s.head?≠some 48/\s.all dE=true then some (cV s 0) else none
def cut (b:UInt8) (s:Bs):Option (Bs × Bs):=match s with
 | []=>none
 | c :: r=>if c=b then some ([],r) else (cut b r).map fun p=>(c :: p.1,p.2)
def rdT (t:Bs):Option It:=match t with
 | []=>none
 | c :: r=>if c=47 then (match cut 58 r with
   | some (a,b)=>match rdN a with
    | some n=>if cW b=true then some (3,b,(n:Int)) else none
    | none=>none
   | none=>none)
  else match cut 58 (c :: r) with
   | some (a,b)=>match rdN a with
    | some n=>if b.getLast?=some 47 then (if isC b.dropLast=true then some (4,b.dropLast,(n:Int)) else none) else (if isC b=true then some (2,b,(n:Int)) else none)
    | none=>none
   | none=>none
def rd (s:Bs):Option (It × Nat):=match s with
 | []=>none
 | c :: r =>
  if c=92 then (rdE r).map fun p=>((1,[p.1],0),p.2)
  else if c=60 then (match cut 62 r with
   | some (t,_)=>(rdT t).map fun x=>(x,t.length+2)
   | none=>none)
  else if c=123 then (match cut 125 r with
   | some (t,_)=>if cW t=true then some ((5,t,0),t.length+2) else none
   | none=>none)
  else if gP c=true then some ((1,[c],0),1) else none
def put (f:List It) (x:It):List It:=
 if x.1=1 then (match f.getLast? with
  | some y=>if y.1=1 then f.dropLast++[(1,y.2.1++x.2.1,0)] else f++[x]
  | none=>[x])
 else f++[x]
def prs:Nat->List It->Nat->Nat->Bs->List It × Nat × Int
 | 0,f,_,_,_=>(f,0,0)
 | k+1,f,at',n,s=>match s with
  | []=>(f,0,0)
  | _=>match rd s with
   | none=>([],at',2)
   | some (x,m)=>if x.1≠1/\chk f x≠0 then ([],at',chk f x) else if 512 < (put f x).length\/1024 < n+1 then ([],at',3) else prs k (put f x) (at'+m) (n+1) (s.drop m)
def aM (s:Bs):List It × Nat × Int:=prs s.length [] 0 0 s
end Go.Nt
namespace Go.Nt
theorem cN {b:UInt8}:∀ {s:Bs} {a r:Bs},cut b s=some (a,r)↔s=a++b :: r/\b ∉ a
 | [],a,r=>by simp [cut]
 | c :: s,a,r=>by
  simp only[cut];by_cases h:c=b
  ·subst h
   rw[if_pos rfl];constructor
   ·intro h;simp only[Option.some.injEq,Prod.mk.injEq] at h;obtain⟨rfl,rfl⟩:=h;simp
   ·rintro ⟨h1,h2⟩
    cases a with
    | nil=>simp at h1;simp [h1]
    | cons x a=>simp at h1;simp [h1.1] at h2
  ·rw[if_neg h]
   simp only[Option.map_eq_some_iff,Prod.exists,Prod.mk.injEq];constructor
   ·rintro ⟨p,q,h1,rfl,rfl⟩
    obtain⟨h2,h3⟩:=cN.1 h1;exact⟨by rw[h2];rfl,by simp [h3,Ne.symm h]⟩
   ·rintro ⟨h1,h2⟩
    cases a with
    | nil=>simp at h1;exact absurd h1.1 h
    | cons x a =>
     simp at h1 h2;obtain⟨rfl,h1⟩:=h1;exact⟨a,r,cN.2 ⟨h1,h2.2⟩,rfl,rfl⟩
theorem gU {b:UInt8} {a:Bs} (h:b ∉ a) (r:Bs):cut b (a++b :: r)=some (a,r):=cN.2 ⟨rfl,h⟩
theorem oW {b:UInt8}:∀ {s:Bs},cut b s=none↔b ∉ s
 | []=>by simp [cut]
 | c :: s=>by
  simp only[cut];by_cases h:c=b
  ·simp [h]
  ·rw[if_neg h,Option.map_eq_none_iff,oW];simp [Ne.symm h]
theorem lO (c:UInt8) (h:gP c=true):wrt c=[c]:=by
 have:=eH (fun c=>!gP c || decide (wrt c=[c])) (by decide) c
 simpa [h] using this
theorem wV (c:UInt8) (h:gP c=false):∃ w,wrt c=92 :: w:=by
 have:=eH (fun c=>gP c || decide ((wrt c).head?=some 92)) (by decide) c
 simp [h] at this;cases hw:wrt c with
 | nil=>rw[hw] at this;cases this
 | cons a w=>rw[hw] at this;simp at this;exact⟨w,by rw[this]⟩
theorem KF (c:UInt8):wrt c≠[]:=by
 cases h:gP c with
 | true=>rw[lO c h];simp
 | false=>obtain⟨w,hw⟩:=wV c h;rw[hw];simp
theorem vU {h:UInt8} {a:Nat} (e:u6 h=some a):a < 16/\rA a=h:=by
 have:=eH (fun c=>match u6 c with
  | none=>true
  | some a=>decide (a < 16) && (rA a == c)) (by decide) h
 rw[e] at this;simpa using this
theorem zI (n:Fin 16):u6 (rA n.1)=some n.1:=by revert n;decide
theorem H6 (c:UInt8) (h:c=13\/ctl c=true):wrt c=[92,120,rA (c.toNat / 16),rA (c.toNat % 16)]:=by
 have:=eH (fun c=>!(decide (c=13) || ctl c) || decide (wrt c=[92,120,rA (c.toNat / 16),rA (c.toNat % 16)])) (by decide) c
 rcases h with h | h
 ·simpa [h] using this
 ·simpa [h] using this
theorem ofN (a b:Nat) (ha:a < 16) (hb:b < 16):(UInt8.ofNat (a*16+b)).toNat=a*16+b:=by
 simp only[UInt8.toNat_ofNat'];omega
theorem LS {r:Bs} {c:UInt8} {m:Nat} (h:rdE r=some (c,m)):gP c=false/\(wrt c).length=m/\∃ rest,92 :: r=wrt c++rest:=by
 cases r with
 | nil=>cases h
 | cons d r =>
  simp only[rdE] at h
  split at h
  ·rename_i hd
   simp only[Option.some.injEq,Prod.mk.injEq] at h;obtain⟨rfl,rfl⟩:=h;rcases hd with rfl | rfl | rfl
   ·exact⟨by decide,by decide,r,rfl⟩
   ·exact⟨by decide,by decide,r,rfl⟩
   ·exact⟨by decide,by decide,r,rfl⟩
  split at h
  ·rename_i hd;subst hd
   simp only[Option.some.injEq,Prod.mk.injEq] at h;obtain⟨rfl,rfl⟩:=h;exact⟨by decide,by decide,r,rfl⟩
  split at h
  ·rename_i hd;subst hd
   simp only[Option.some.injEq,Prod.mk.injEq] at h;obtain⟨rfl,rfl⟩:=h;exact⟨by decide,by decide,r,rfl⟩
  split at h
  ·rename_i hd;subst hd
   split at h
   ·rename_i x l rest
    split at h
    ·rename_i a b ha hb
     split at h
     ·rename_i hc
      simp only[Option.some.injEq,Prod.mk.injEq] at h;obtain⟨rfl,rfl⟩:=h;obtain⟨a1,a2⟩:=vU ha;obtain⟨b1,b2⟩:=vU hb;have hw:=H6 _ hc;rw[ofN a b a1 b1,show (a*16+b) / 16=a by omega,show (a*16+b) % 16=b by omega,a2,b2] at hw;refine⟨?_,by rw[hw];rfl,rest,by rw[hw];rfl⟩;cases hp:gP (UInt8.ofNat (a*16+b)) with
      | false=>rfl
      | true=>rw[lO _ hp] at hw;simp at hw
     ·cases h
    ·cases h
   ·cases h
  ·cases h
theorem QQ {c:UInt8} {w:Bs} (hp:gP c=false) (hw:wrt c=92 :: w) (r:Bs):rdE (w++r)=some (c,(wrt c).length):=by
 by_cases h1:c=92\/c=60\/c=123
 ·have e:wrt c=[92,c]:=by unfold wrt;rw[if_pos h1]
  rw[e] at hw ⊢;simp only[List.cons.injEq,true_and] at hw;subst hw;show rdE (c :: r)=_;simp only[rdE];rw[if_pos h1];rfl
 by_cases h2:c=10
 ·subst h2
  have e:wrt 10=[92,110]:=by decide
  rw[e] at hw ⊢;simp only[List.cons.injEq,true_and] at hw;subst hw;rfl
 by_cases h3:c=9
 ·subst h3
  have e:wrt 9=[92,116]:=by decide
  rw[e] at hw ⊢;simp only[List.cons.injEq,true_and] at hw;subst hw;rfl
 ·have h4:c=13\/ctl c=true:=by
   have:=eH (fun c=>gP c || decide (c=92) || decide (c=60) || decide (c=123) || decide (c=10) || decide (c=9) || decide (c=13) || ctl c) (by decide) c
   simp only[hp,Bool.false_or,Bool.or_eq_true,decide_eq_true_eq] at this;rcases this with (((((h | h) | h) | h) | h) | h) | h
   ·exact absurd (.inl h) h1
   ·exact absurd (.inr (.inl h)) h1
   ·exact absurd (.inr (.inr h)) h1
   ·exact absurd h h2
   ·exact absurd h h3
   ·exact .inl h
   ·exact .inr h
  have e:=H6 c h4;rw[e] at hw ⊢;simp only[List.cons.injEq,true_and] at hw;subst hw;have hlt:=c.toNat_lt;have e1:=zI ⟨c.toNat / 16,by omega⟩;have e2:=zI ⟨c.toNat % 16,by omega⟩;simp only[] at e1 e2;have e3:UInt8.ofNat (c.toNat / 16*16+c.toNat % 16)=c:=by
   rw[show c.toNat / 16*16+c.toNat % 16=c.toNat by omega];simp
  show rdE (120 :: rA (c.toNat / 16) :: rA (c.toNat % 16) :: r)=_;simp only[rdE,e1,e2,e3];rw[if_neg (by decide),if_neg (by decide),if_neg (by decide),if_pos trivial,if_pos h4];rfl
theorem SJ:∀ n:Fin 1000,1<=n.1->rdN (dec n.1)=some n.1:=by decide +kernel
theorem SI:∀ n:Fin 1000,(dec n.1).all dE=true:=by decide +kernel
theorem QP {n:Nat} (h1:1<=n) (h2:n<=999):rdN (dec n)=some n:=SJ ⟨n,by omega⟩ h1
theorem sS {n:Nat} (h2:n<=999):∀ c∈dec n,dE c=true:=all_eq_true.1 (SI ⟨n,by omega⟩)
theorem lH {c:UInt8} (h:dE c=true):dig (c.toNat - 48)=c/\c.toNat - 48 < 10/\(c≠48->1<=c.toNat - 48):=by
 unfold dE at h;simp only[Bool.and_eq_true,decide_eq_true_eq] at h;refine⟨?_,by omega,fun hc=>?_⟩
 ·unfold dig
  rw[show 48+(c.toNat - 48)=c.toNat by omega];simp
 ·have:c.toNat≠48:=fun e=>hc (by rw[<- UInt8.toNat_inj,e];rfl)
  omega
theorem wO {s:Bs} {n:Nat} (h:rdN s=some n):s=dec n/\1<=n/\n<=999:=by
 unfold rdN at h
 split at h
 ·rename_i hc
  obtain⟨h1,h2,h3,h4⟩:=hc;simp only[Option.some.injEq] at h;subst h
  match s,h1,h2,h3,h4 with
  | [a],_,_,h3,h4 =>
   simp only[all_cons,all_nil,Bool.and_true] at h4;simp only[head?_cons,ne_eq,Option.some.injEq] at h3;obtain⟨a1,a2,a3⟩:=lH h4;have a3:=a3 h3;simp only[cV,Nat.mul_zero,Nat.zero_add];unfold dec;rw[if_pos a2,a1];exact⟨rfl,a3,by omega⟩
  | [a,b],_,_,h3,h4 =>
   simp only[all_cons,all_nil,Bool.and_true,Bool.and_eq_true] at h4;simp only[head?_cons,ne_eq,Option.some.injEq] at h3;obtain⟨a1,a2,a3⟩:=lH h4.1;obtain⟨b1,b2,_⟩:=lH h4.2;have a3:=a3 h3;simp only[cV,Nat.mul_zero,Nat.zero_add];unfold dec;rw[if_neg (by omega),if_pos (by omega),show (10*(a.toNat - 48)+(b.toNat - 48)) / 10=a.toNat - 48 by omega,show (10*(a.toNat - 48)+(b.toNat - 48)) % 10=b.toNat - 48 by omega,a1,b1];exact⟨rfl,by omega,by omega⟩
  | [a,b,c],_,_,h3,h4 =>
   simp only[all_cons,all_nil,Bool.and_true,Bool.and_eq_true] at h4;simp only[head?_cons,ne_eq,Option.some.injEq] at h3;obtain⟨a1,a2,a3⟩:=lH h4.1;obtain⟨b1,b2,_⟩:=lH h4.2.1;obtain⟨c1,c2,_⟩:=lH h4.2.2;have a3:=a3 h3;simp only[cV,Nat.mul_zero,Nat.zero_add];unfold dec;rw[if_neg (by omega),if_neg (by omega),show (10*(10*(a.toNat - 48)+(b.toNat - 48))+(c.toNat - 48)) / 100=a.toNat - 48 by omega,show (10*(10*(a.toNat - 48)+(b.toNat - 48))+(c.toNat - 48)) / 10 % 10=b.toNat - 48 by omega,show (10*(10*(a.toNat - 48)+(b.toNat - 48))+(c.toNat - 48)) % 10=c.toNat - 48 by omega,a1,b1,c1];exact⟨rfl,by omega,by omega⟩
  | _ :: _ :: _ :: _ :: _,_,h2,_,_=>simp at h2
 ·cases h
theorem iF {s:Bs} (h:cW s=true):s≠[]/\s.length<=24/\∀ c∈s,nmB c=true:=by
 cases s with
 | nil=>cases h
 | cons a s =>
  simp only[cW,Bool.and_eq_true,decide_eq_true_eq,all_eq_true] at h;refine⟨by simp,by simp;omega,fun c hc=>?_⟩;rcases mem_cons.1 hc with rfl | hc
  ·unfold nmB;rw[h.1.2];rfl
  ·exact h.2 c hc
theorem EU (c:UInt8) (h:nmB c=true):okB c=true/\c≠125/\c≠62/\c≠47:=by
 have:=eH (fun c=>!nmB c || (okB c && decide (c≠125) && decide (c≠62) && decide (c≠47))) (by decide) c
 simpa [h,and_assoc] using this
theorem WI (c:UInt8) (h:okB c=true):c≠62/\c≠125:=by
 have:=eH (fun c=>!okB c || (decide (c≠62) && decide (c≠125))) (by decide) c
 simpa [h] using this
theorem BG (c:UInt8) (h:dE c=true):c≠58/\c≠62/\c≠47:=by
 have:=eH (fun c=>!dE c || (decide (c≠58) && decide (c≠62) && decide (c≠47))) (by decide) c
 simpa [h,and_assoc] using this
theorem A6 {s:Bs} (h:isC s=true):(∀ c∈s,okB c=true)/\s.getLast?≠some 47/\s≠[]:=by
 unfold isC at h;simp only[Bool.and_eq_true,all_eq_true,Bool.not_eq_true',beq_eq_false_iff_ne] at h;refine⟨h.1.1.1.2,h.2,?_⟩
 rintro rfl
 have:=h.1.1.2
 simp [aT,cW] at this
def wfX (x:It):Prop:=(x.1=1/\(∃ c,x.2.1=[c])/\x.2.2=0)\/(x.1=5/\cW x.2.1=true/\x.2.2=0)\/((x.1=2\/x.1=4)/\isC x.2.1=true/\1<=x.2.2/\x.2.2<=999)\/(x.1=3/\cW x.2.1=true/\1<=x.2.2/\x.2.2<=999)
def body (x:It):Bs:=if x.1=2 then dec x.2.2.toNat++58 :: x.2.1 else if x.1=3 then 47 :: (dec x.2.2.toNat++58 :: x.2.1) else dec x.2.2.toNat++58 :: (x.2.1++[47])
theorem LP {t:Bs} {x:It} (h:rdT t=some x):t=body x/\(((x.1=2\/x.1=4)/\isC x.2.1=true)\/(x.1=3/\cW x.2.1=true))/\1<=x.2.2/\x.2.2<=999:=by
 cases t with
 | nil=>cases h
 | cons c r =>
  simp only[rdT] at h
  split at h
  ·rename_i hc
   subst hc
   split at h
   ·rename_i a b hcut
    split at h
    ·rename_i n hn
     split at h
     ·rename_i hb
      cases h;obtain⟨e1,_⟩:=cN.1 hcut;obtain⟨e2,e3,e4⟩:=wO hn;refine⟨?_,.inr ⟨rfl,hb⟩,by simp only[];omega,by simp only[];omega⟩;simp only[body,Int.toNat_natCast];rw[if_neg (by decide),if_pos trivial,e1,e2]
     ·cases h
    ·cases h
   ·cases h
  ·split at h
   ·rename_i a b hcut
    split at h
    ·rename_i n hn
     obtain⟨e1,_⟩:=cN.1 hcut;obtain⟨e2,e3,e4⟩:=wO hn
     split at h
     ·rename_i hl
      split at h
      ·rename_i hb
       cases h;refine⟨?_,.inl ⟨.inr rfl,hb⟩,by simp only[];omega,by simp only[];omega⟩;simp only[body,Int.toNat_natCast];rw[if_neg (by decide),if_neg (by decide),e1,<- e2];have hne:b≠[]:=by rintro rfl;simp at hl
       have:=dropLast_concat_getLast hne
       rw[getLast?_eq_some_getLast hne] at hl;simp only[Option.some.injEq] at hl;rw[hl] at this;rw[this]
      ·cases h
     ·split at h
      ·rename_i hb
       cases h;refine⟨?_,.inl ⟨.inl rfl,hb⟩,by simp only[];omega,by simp only[];omega⟩;simp only[body,Int.toNat_natCast];rw[if_pos trivial,e1,<- e2]
      ·cases h
    ·cases h
   ·cases h
theorem NW {n:Nat} (h:n<=999):∃ d r,dec n=d :: r/\dE d=true:=by
 have h1:=sS h;cases hd:dec n with
 | nil =>
  exfalso;unfold dec at hd
  split at hd
  ·cases hd
  ·split at hd<;>cases hd
 | cons d r=>rw[hd] at h1;exact⟨d,r,rfl,h1 d (by simp)⟩
theorem LR {x:It} (hk:((x.1=2\/x.1=4)/\isC x.2.1=true)\/(x.1=3/\cW x.2.1=true)) (h1:1<=x.2.2) (h2:x.2.2<=999):rdT (body x)=some x:=by
 obtain⟨k,s,i⟩:=x;simp only[] at hk h1 h2;obtain⟨n,rfl⟩:=Int.eq_ofNat_of_zero_le (show 0<=i by omega);have hn:=QP (n:=n) (by omega) (by omega);have hd:(58:UInt8) ∉ dec n:=fun hm=>(BG _ (sS (by omega) _ hm)).1 rfl
 obtain⟨d,r,hr,hdd⟩:=NW (n:=n) (by omega);have h47:¬ d=47:=(BG d hdd).2.2;rcases hk with ⟨rfl | rfl,hc⟩ | ⟨rfl,hc⟩
 ·simp only[body,Int.toNat_natCast,if_pos]
  have hcut:cut 58 (d :: (r++58 :: s))=some (dec n,s):=by
   have:=gU hd s
   rw[hr] at this ⊢;exact this
  rw[hr];show rdT (d :: (r++58 :: s))=_;simp only[rdT];rw[if_neg h47,hcut];simp only[hn];rw[if_neg (A6 hc).2.1,if_pos hc]
 ·simp only[body,Int.toNat_natCast]
  rw[if_neg (by decide),if_neg (by decide)];have hcut:cut 58 (d :: (r++58 :: (s++[47])))=some (dec n,s++[47]):=by
   have:=gU hd (s++[47])
   rw[hr] at this ⊢;exact this
  rw[hr];show rdT (d :: (r++58 :: (s++[47])))=_;simp only[rdT];rw[if_neg h47,hcut];simp only[hn,getLast?_concat,dropLast_concat,if_true];rw[if_pos hc]
 ·simp only[body,Int.toNat_natCast]
  rw[if_neg (by decide),if_pos trivial];simp only[rdT,if_true,gU hd s,hn];rw[if_pos hc]
theorem S5 {x:It} (hk:((x.1=2\/x.1=4)/\isC x.2.1=true)\/(x.1=3/\cW x.2.1=true)) (h1:1<=x.2.2) (h2:x.2.2<=999):(62:UInt8) ∉ body x:=by
 have hd:(62:UInt8) ∉ dec x.2.2.toNat:=fun hm=>(BG _ (sS (by omega) _ hm)).2.1 rfl
 have ht:(62:UInt8) ∉ x.2.1:=fun hm=>by
  rcases hk with ⟨_,hc⟩ | ⟨_,hc⟩
  ·exact (WI _ ((A6 hc).1 _ hm)).1 rfl
  ·exact (EU _ ((iF hc).2.2 _ hm)).2.2.1 rfl
 unfold body;split
 ·simp [hd,ht]
 ·split
  ·simp [hd,ht]
  ·simp [hd,ht]
theorem DM {x:It} (hk:x.1=2\/x.1=4\/x.1=3):elt x=60 :: (body x++[62]):=by
 obtain⟨k,s,i⟩:=x;simp only[] at hk;rcases hk with rfl | rfl | rfl<;>simp [elt,body]
theorem qW {x:It} (h:wfX x) (r:Bs):rd (elt x++r)=some (x,(elt x).length):=by
 obtain⟨k,s,i⟩:=x;rcases h with ⟨h1,⟨c,h2⟩,h3⟩ | ⟨h1,h2,h3⟩ | h
 ·simp only[] at h1 h2 h3
  subst h1 h2 h3;have e:elt (1,[c],0)=wrt c:=by simp [elt]
  rw[e];cases hp:gP c with
  | true =>
   rw[lO c hp];have hne:c≠92/\c≠60/\c≠123:=by
    have:=eH (fun c=>!gP c || (decide (c≠92) && decide (c≠60) && decide (c≠123))) (by decide) c
    simpa [hp,and_assoc] using this
   show rd (c :: r)=_;simp only[rd];rw[if_neg hne.1,if_neg hne.2.1,if_neg hne.2.2,if_pos hp];rfl
  | false =>
   obtain⟨w,hw⟩:=wV c hp
   have:=QQ hp hw r
   rw[hw];show rd (92 :: (w++r))=_;simp only[rd,if_true,this,hw,Option.map_some]
 ·simp only[] at h1 h2 h3
  subst h1 h3;have e:elt (5,s,0)=123 :: (s++[125]):=by simp [elt]
  have hn:(125:UInt8) ∉ s:=fun hm=>(EU _ ((iF h2).2.2 _ hm)).2.1 rfl
  rw[e];show rd (123 :: (s++[125]++r))=_;rw[append_assoc];simp only[rd];rw[if_neg (by decide),if_neg (by decide),if_pos trivial]
  show (match cut 125 (s++125 :: r) with
   | some (t,_)=>if cW t=true then some (((5:Int),t,(0:Int)),t.length+2) else none
   | none=>none)=_
  rw[gU hn];simp only[h2,if_true,length_cons,length_append,length_nil]
 ·have hk:((k=2\/k=4)/\isC s=true)\/(k=3/\cW s=true):=by
   rcases h with ⟨a,b,_⟩ | ⟨a,b,_⟩
   ·exact .inl ⟨a,b⟩
   ·exact .inr ⟨a,b⟩
  have hi:1<=i/\i<=999:=by
   rcases h with ⟨_,_,a⟩ | ⟨_,_,a⟩
   ·exact a
   ·exact a
  have e:=DM (x:=(k,s,i)) (by rcases hk with ⟨a | a,_⟩ | ⟨a,_⟩<;>simp [a]);have hb:=LR (x:=(k,s,i)) hk hi.1 hi.2;have hn:=S5 (x:=(k,s,i)) hk hi.1 hi.2;rw[e];show rd (60 :: (body (k,s,i)++[62]++r))=_;rw[append_assoc];simp only[rd];rw[if_neg (by decide),if_pos trivial]
  show (match cut 62 (body (k,s,i)++62 :: r) with
   | some (t,_)=>(rdT t).map fun x=>(x,t.length+2)
   | none=>none)=_
  rw[gU hn];simp only[hb,Option.map_some,length_cons,length_append,length_nil]
theorem kL {s:Bs} {x:It} {m:Nat} (h:rd s=some (x,m)):wfX x/\m=(elt x).length/\∃ r,s=elt x++r:=by
 cases s with
 | nil=>cases h
 | cons c r =>
  simp only[rd] at h
  split at h
  ·rename_i hc;subst hc
   obtain⟨⟨d,n⟩,h1,h2⟩:=Option.map_eq_some_iff.1 h;simp only[Prod.mk.injEq] at h2;obtain⟨rfl,rfl⟩:=h2;obtain⟨e1,e2,rest,e3⟩:=LS h1;have e:elt (1,[d],0)=wrt d:=by simp [elt]
   exact⟨.inl ⟨rfl,⟨d,rfl⟩,rfl⟩,by rw[e,e2],rest,by rw[e,e3]⟩
  split at h
  ·rename_i hc;subst hc
   split at h
   ·rename_i t q hcut
    obtain⟨y,h1,h2⟩:=Option.map_eq_some_iff.1 h;simp only[Prod.mk.injEq] at h2;obtain⟨rfl,rfl⟩:=h2;obtain⟨e1,e2,e3,e4⟩:=LP h1;obtain⟨e5,_⟩:=cN.1 hcut;have e:=DM (x:=y) (by rcases e2 with ⟨a | a,_⟩ | ⟨a,_⟩<;>simp [a]);refine⟨?_,by rw[e,e1];simp,q,by rw[e,e5,<- e1];simp⟩;rcases e2 with ⟨a,b⟩ | ⟨a,b⟩
    ·exact .inr (.inr (.inl ⟨a,b,e3,e4⟩))
    ·exact .inr (.inr (.inr ⟨a,b,e3,e4⟩))
   ·cases h
  split at h
  ·rename_i hc;subst hc
   split at h
   ·rename_i t q hcut
    split at h
    ·rename_i hn
     cases h;obtain⟨e5,_⟩:=cN.1 hcut;have e:elt (5,t,0)=123 :: (t++[125]):=by simp [elt]
     exact⟨.inr (.inl ⟨rfl,hn,rfl⟩),by rw[e];simp,q,by rw[e,e5];simp⟩
    ·cases h
   ·cases h
  split at h
  ·rename_i hp
   cases h;have e:elt (1,[c],0)=[c]:=by simp [elt,lO c hp]
   exact⟨.inl ⟨rfl,⟨c,rfl⟩,rfl⟩,by rw[e];rfl,r,by rw[e];rfl⟩
  ·cases h
theorem pN {s:Bs} {x:It} {m:Nat} (h:rd s=some (x,m)):1<=m/\m<=s.length/\s=elt x++s.drop m/\∀ r,rd (elt x++r)=some (x,m):=by
 obtain⟨h1,h2,r,h3⟩:=kL h;have hl:1<=(elt x).length:=by
  have:=qW h1 []
  rw[append_nil] at this;cases he:elt x with
  | nil=>rw[he] at this;cases this
  | cons a l=>simp
 refine⟨by omega,by rw[h3,length_append];omega,?_,fun r=>by rw[qW h1,h2]⟩;rw[h3,h2,drop_left]
end Go.Nt
namespace Go.Nt
theorem CG:∀ (k k':Nat) (f:List It) (a n:Nat) (s:Bs),s.length<=k->s.length<=k'->prs k f a n s=prs k' f a n s
 | 0,k',f,a,n,s,h1,h2=>by
  have:s=[]:=eq_nil_of_length_eq_zero (by omega)
  subst this;cases k'<;>rfl
 | k+1,0,f,a,n,s,h1,h2=>by
  have:s=[]:=eq_nil_of_length_eq_zero (by omega)
  subst this;rfl
 | k+1,k'+1,f,a,n,s,h1,h2=>by
  cases s with
  | nil=>rfl
  | cons c s =>
   simp only[prs];cases h:rd (c :: s) with
   | none=>rfl
   | some p =>
    obtain⟨x,m⟩:=p;obtain⟨m1,m2,_,_⟩:=pN h;simp only[];have hl:((c :: s).drop m).length<=k:=by rw[length_drop];simp only[length_cons] at h1 ⊢;omega
    have hl':((c :: s).drop m).length<=k':=by rw[length_drop];simp only[length_cons] at h2 ⊢;omega
    rw[CG k k' _ _ _ _ hl hl']
def prS (f:List It) (a n:Nat) (s:Bs):List It × Nat × Int:=prs s.length f a n s
theorem yX (s:Bs):aM s=prS [] 0 0 s:=rfl
theorem rX (f:List It) (a n:Nat):prS f a n []=(f,0,0):=rfl
theorem rW {f:List It} {a n:Nat} {s:Bs} (hs:s≠[]) (h:rd s=none):prS f a n s=([],a,2):=by
 cases s with
 | nil=>exact absurd rfl hs
 | cons c s=>simp only[prS,length_cons,prs,h]
theorem iZ {f:List It} {a n m:Nat} {s:Bs} {x:It} (h:rd s=some (x,m)):prS f a n s=if x.1≠1/\chk f x≠0 then ([],a,chk f x) else if 512 < (put f x).length\/1024 < n+1 then ([],a,3) else prS (put f x) (a+m) (n+1) (s.drop m):=by
 cases s with
 | nil=>cases h
 | cons c s =>
  obtain⟨m1,m2,_,_⟩:=pN h;have e:prs s.length (put f x) (a+m) (n+1) ((c :: s).drop m)=prs ((c :: s).drop m).length (put f x) (a+m) (n+1) ((c :: s).drop m):=
   CG _ _ _ _ _ _ (by rw[length_drop];simp only[length_cons];omega) (Nat.le_refl _)
  simp only[prS,length_cons,prs,h,e]
theorem sV:∀ (A B C:List It),fK A (B++C)=if fK A B≠0 then fK A B else fK (A++B) C
 | A,[],C=>by simp [fK]
 | A,x :: B,C=>by
  have e1:fK A (x :: B++C)=if chk A x≠0 then chk A x else fK (A++[x]) (B++C):=rfl
  have e2:fK A (x :: B)=if chk A x≠0 then chk A x else fK (A++[x]) B:=rfl
  by_cases h:chk A x≠0
  ·rw[if_pos h] at e1 e2
   rw[e1,e2,if_pos h]
  ·rw[if_neg h] at e1 e2
   rw[e1,e2,sV (A++[x]) B C,append_assoc];rfl
theorem cJ (f:List It) (x:It):fK [] (f++[x])=0↔fK [] f=0/\chk f x=0:=by
 rw[sV];by_cases h:fK [] f=0
 ·simp only[h,ne_eq,not_true_eq_false,if_false,nil_append,fK,true_and]
  by_cases h2:chk f x=0
  ·simp [h2]
  ·simp [h2]
 ·simp [h]
theorem eN (f g:List It):len (f++g)=len f+len g:=by simp [len]
theorem gG (x:It):len [x]=wid x:=by simp [len]
theorem fB (f:List It) (x:It):iO (f++[x])=x.1:=by simp [iO]
theorem pV (f g:List It):fmt (f++g)=fmt f++fmt g:=by simp [fmt]
theorem pU (x:It):fmt [x]=elt x:=by simp [fmt]
theorem fZ {f:List It} {x:It} (h:x.1=1):chk f x=0↔x.2.1≠[]/\x.2.2=0/\iO f≠1:=by
 unfold chk;rw[if_pos h];constructor
 ·intro h1
  split at h1
  ·cases h1
  ·rename_i hc
   refine⟨fun q=>hc (.inl q),Classical.byContradiction fun q=>hc (.inr (.inl q)),fun q=>hc (.inr (.inr q))⟩
 ·rintro ⟨a,b,c⟩
  rw[if_neg]
  rintro (q | q | q)
  ·exact a q
  ·exact q b
  ·exact c q
def VL (f:List It):Prop:=fK [] f=0
theorem fQ (f:List It):f=[]\/∃ g y,f=g++[y]:=by
 rcases eq_nil_or_concat f with h | ⟨g,y,h⟩
 ·exact .inl h
 ·exact .inr ⟨g,y,by simpa using h⟩
theorem iY {f:List It} {x:It} (hx:x.1=1):(iO f≠1/\put f x=f++[x])\/∃ g y,f=g++[y]/\y.1=1/\put f x=g++[(1,y.2.1++x.2.1,0)]:=by
 rcases fQ f with rfl | ⟨g,y,rfl⟩
 ·left;simp [put,hx,iO]
 ·by_cases hy:y.1=1
  ·right;exact⟨g,y,rfl,hy,by simp [put,hx,hy]⟩
  ·left;simp [put,hx,hy,iO]
theorem rV {f:List It} {x:It} (hx:x.1≠1):put f x=f++[x]:=by simp [put,hx]
theorem AP {f:List It} {x:It} {n:Nat} (hf:VL f) (hw:wfX x) (hc:¬ (x.1≠1/\chk f x≠0)) (hn:n=len f):VL (put f x)/\len (put f x)=n+1/\fmt (put f x)=fmt f++elt x:=by
 by_cases hx:x.1=1
 ·rcases hw with ⟨_,⟨c,h2⟩,h3⟩ | ⟨h1,_⟩ | ⟨h1,_⟩ | ⟨h1,_⟩
  ·rcases iY (f:=f) hx with ⟨h4,h5⟩ | ⟨g,y,rfl,h4,h5⟩
   ·rw[h5]
    refine⟨(cJ f x).2 ⟨hf,(fZ hx).2 ⟨by simp [h2],h3,h4⟩⟩,?_,by rw[pV,pU]⟩;rw[eN,gG,hn,wid,if_pos hx,h2];rfl
   ·rw[h5]
    obtain⟨a1,a2⟩:=(cJ g y).1 hf;obtain⟨b1,b2,b3⟩:=(fZ h4).1 a2;refine⟨(cJ g _).2 ⟨a1,(fZ rfl).2 ⟨by simp [h2],rfl,b3⟩⟩,?_,?_⟩
    ·rw[hn,eN,eN,gG,gG]
     simp only[wid,h4,if_true,h2,length_append,length_cons,length_nil];omega
    ·rw[pV,pV,pU,pU,append_assoc]
     congr 1
     simp [elt,h4,hx]
  ·omega
  ·omega
  ·omega
 ·have h0:chk f x=0:=Classical.byContradiction fun q=>hc ⟨hx,q⟩
  rw[rV hx];refine⟨(cJ f x).2 ⟨hf,h0⟩,?_,by rw[pV,pU]⟩;rw[eN,gG,hn,wid,if_neg hx]
theorem yW:∀ (k:Nat) (f:List It) (a n:Nat) (s:Bs) (g:List It) (b:Nat),s.length<=k->VL f->n=len f->f.length<=512->n<=1024->prS f a n s=(g,b,0)->VL g/\g.length<=512/\len g<=1024/\fmt g=fmt f++s/\b=0
 | k,f,a,n,[],g,b,_,hf,hn,h5,h6,h=>by
  rw[rX] at h;cases h;exact⟨hf,h5,by omega,by simp,rfl⟩
 | 0,f,a,n,c :: s,g,b,hk,_,_,_,_,_=>by simp at hk
 | k+1,f,a,n,c :: s,g,b,hk,hf,hn,h5,h6,h=>by
  cases hr:rd (c :: s) with
  | none =>
   rw[rW (by simp) hr] at h;simp at h
  | some p =>
   obtain⟨x,m⟩:=p;obtain⟨m1,m2,m3,_⟩:=pN hr;obtain⟨w1,_,_⟩:=kL hr;rw[iZ hr] at h
   split at h
   ·rename_i hc
    simp only[Prod.mk.injEq] at h;exact absurd h.2.2 hc.2
   ·rename_i hc
    split at h
    ·simp at h
    ·rename_i hl
     obtain⟨p1,p2,p3⟩:=AP hf w1 hc hn;obtain⟨q1,q2,q3,q4,q5⟩:=yW k _ _ _ _ g b (by rw[length_drop];simp only[length_cons] at hk m2 ⊢;omega) p1 p2.symm (by omega) (by omega) h;exact⟨q1,q2,q3,by rw[q4,p3,append_assoc,<- m3],q5⟩
theorem cX (f:List It):vld f=0↔VL f/\f.length<=512/\len f<=1024:=by
 unfold vld VL;constructor
 ·intro h
  split at h
  ·cases h
  ·rename_i hc
   exact⟨h,by omega,by omega⟩
 ·rintro ⟨h1,h2,h3⟩
  rw[if_neg (by omega),h1]
theorem eV {s:Bs} {g:List It} {b:Nat} (h:aM s=(g,b,0)):vld g=0/\fmt g=s/\b=0:=by
 rw[yX] at h;obtain⟨h1,h2,h3,h4,h5⟩:=yW _ [] 0 0 s g b (Nat.le_refl _) rfl rfl (by simp) (by simp) h;exact⟨(cX g).2 ⟨h1,h2,h3⟩,by simpa [fmt] using h4,h5⟩
theorem vA (c:UInt8):wfX (1,[c],0):=.inl ⟨rfl,⟨c,rfl⟩,rfl⟩
theorem oT (c:UInt8):elt (1,[c],0)=wrt c:=by simp [elt]
theorem yV:∀ (t p:Bs) (A:List It) (a n:Nat) (r:Bs),A.length+1<=512->n+t.length<=1024 ->
  ∃ a',prS (A++[(1,p,0)]) a n (t.flatMap wrt++r)=prS (A++[(1,p++t,0)]) a' (n+t.length) r
 | [],p,A,a,n,r,h1,h2=>⟨a,by simp⟩
 | c :: t,p,A,a,n,r,h1,h2=>by
  simp only[length_cons] at h2;obtain⟨a',ih⟩:=yV t (p++[c]) A (a+(wrt c).length) (n+1) r h1 (by omega);refine⟨a',?_⟩;have hrd:=qW (vA c) (t.flatMap wrt++r);rw[oT] at hrd;rw[flatMap_cons,append_assoc,iZ hrd,if_neg (by simp)];have hp:put (A++[(1,p,0)]) (1,[c],0)=A++[(1,p++[c],0)]:=by simp [put]
  rw[hp,if_neg (by simp only[length_append,length_cons,length_nil];omega),drop_left,ih];simp only[append_assoc,cons_append,nil_append,length_cons];rw[show n+1+t.length=n+(t.length+1) by omega]
theorem BL {f:List It} {x:It} (h:chk f x=0) (hx:x.1≠1):wfX x:=by
 unfold chk at h;rw[if_neg hx] at h
 split at h
 ·rename_i h5
  split at h
  ·rename_i hc;exact .inr (.inl ⟨h5,hc⟩)
  ·cases h
 split at h
 ·rename_i h5
  split at h
  ·rename_i hc;exact .inr (.inr (.inl ⟨h5,hc⟩))
  ·cases h
 split at h
 ·rename_i h5
  split at h
  ·rename_i hc;exact .inr (.inr (.inr ⟨h5,hc⟩))
  ·cases h
 ·cases h
theorem AQ:∀ (B A:List It) (a n:Nat),n=len A->fK A B=0->(A++B).length<=512->len (A++B)<=1024->prS A a n (fmt B)=(A++B,0,0)
 | [],A,a,n,_,_,_,_=>by simp [fmt,rX]
 | x :: B,A,a,n,hn,hc,hl,hL=>by
  simp only[fK] at hc;have h0:chk A x=0:=by
   by_cases h:chk A x=0
   ·exact h
   ·rw[if_pos h] at hc;exact absurd hc h
  rw[if_neg (by simp [h0])] at hc;have e1:A++x :: B=A++[x]++B:=by simp
  rw[e1] at hl hL ⊢;have ef:fmt (x :: B)=elt x++fmt B:=by simp [fmt]
  rw[ef];have hlx:(A++[x]).length<=512:=by rw[length_append] at hl;omega
  have hLx:len (A++[x])<=1024:=by rw[eN] at hL;omega
  by_cases hx:x.1=1
  ·obtain⟨b1,b2,b3⟩:=(fZ hx).1 h0
   obtain⟨k,s,i⟩:=x;simp only[] at hx b1 b2;subst hx b2
   cases s with
   | nil=>exact absurd rfl b1
   | cons c t =>
    have hrd:=qW (vA c) (t.flatMap wrt++fmt B);rw[oT] at hrd;have ee:elt (1,c :: t,0)=wrt c++t.flatMap wrt:=by simp [elt]
    have hw:len (A++[(1,c :: t,0)])=len A+(t.length+1):=by rw[eN,gG];simp [wid]
    rw[hw] at hLx;have hp:put A (1,[c],0)=A++[(1,[c],0)]:=by
     rcases iY (f:=A) (x:=(1,[c],0)) rfl with ⟨_,h⟩ | ⟨g,y,rfl,hy,_⟩
     ·exact h
     ·rw[fB] at b3;exact absurd hy b3
    rw[ee,append_assoc,iZ hrd,if_neg (by simp),hp,if_neg (by simp only[length_append,length_cons,length_nil] at hlx ⊢;omega),drop_left];obtain⟨a',hch⟩:=yV t [c] A (a+(wrt c).length) (n+1) (fmt B) (by simpa using hlx) (by omega);rw[hch]
    have:=AQ B (A++[(1,c :: t,0)]) a' (n+1+t.length) (by rw[hw];omega) hc hl hL
    exact this
  ·have hw:=BL h0 hx
   rw[iZ (qW hw _),if_neg (fun q=>q.2 h0),rV hx,drop_left];have hw2:len (A++[x])=len A+1:=by rw[eN,gG,wid,if_neg hx]
   rw[if_neg (by omega)];exact AQ B (A++[x]) _ (n+1) (by omega) hc hl hL
theorem pP {f:List It} (h:vld f=0):aM (fmt f)=(f,0,0):=by
 obtain⟨h1,h2,h3⟩:=(cX f).1 h;exact AQ f [] 0 0 rfl h1 (by simpa using h2) (by simpa using h3)
theorem H2 {f g:List It} (hf:vld f=0) (hg:vld g=0) (h:fmt f=fmt g):f=g:=by
 have h1:=pP hf;have h2:=pP hg;rw[h,h2] at h1;cases h1;rfl
theorem GP:∀ (k:Nat) (f:List It) (a n:Nat) (s:Bs) (g:List It) (b:Nat) (e:Int),s.length<=k->prS f a n s=(g,b,e)->e≠0->∃ m,b=a+m/\m < s.length/\g=[]/\(prS f a n (s.take m)).2.2=0
 | k,f,a,n,[],g,b,e,_,h,he=>by
  rw[rX] at h;cases h;exact absurd rfl he
 | 0,f,a,n,c :: s,g,b,e,hk,_,_=>by simp at hk
 | k+1,f,a,n,c :: s,g,b,e,hk,h,he=>by
  cases hr:rd (c :: s) with
  | none =>
   rw[rW (by simp) hr] at h;cases h;exact⟨0,rfl,by simp,rfl,rfl⟩
  | some p =>
   obtain⟨x,m⟩:=p;obtain⟨m1,m2,m3,m4⟩:=pN hr;obtain⟨w1,w2,_,_⟩:=kL hr;rw[iZ hr] at h;by_cases hc:x.1≠1/\chk f x≠0
   ·rw[if_pos hc] at h
    cases h;exact⟨0,rfl,by simp,rfl,rfl⟩
   ·rw[if_neg hc] at h
    by_cases hl:512 < (put f x).length\/1024 < n+1
    ·rw[if_pos hl] at h
     cases h;exact⟨0,rfl,by simp,rfl,rfl⟩
    ·rw[if_neg hl] at h
     obtain⟨m',q1,q2,q3,q4⟩:=GP k _ _ _ _ g b e (by rw[length_drop];simp only[length_cons] at hk m2 ⊢;omega) h he;rw[length_drop] at q2;refine⟨m+m',by omega,by omega,q3,?_⟩;have ht:(c :: s).take (m+m')=elt x++((c :: s).drop m).take m':=by
      conv=>lhs;rw[m3]
      rw[take_append,w2,take_of_length_le (by omega)]
      congr 1
      congr 1
      omega
     rw[ht,iZ (m4 _),if_neg hc,if_neg hl,w2,drop_left];rw[w2] at q4;exact q4
theorem yY {s:Bs} {g:List It} {b:Nat} {e:Int} (h:aM s=(g,b,e)) (he:e≠0):b < s.length/\g=[]/\(aM (s.take b)).2.2=0:=by
 rw[yX] at h;obtain⟨m,h1,h2,h3,h4⟩:=GP _ _ _ _ _ _ _ _ (Nat.le_refl _) h he
 have:b=m:=by omega
 subst this;exact⟨h2,h3,h4⟩
end Go.Nt
namespace Go.Nt
def pn (f:List It) (x:It):List It:=if x.1=1 then (if x.2.1=[] then f else put f (1,x.2.1,0)) else f++[x]
def nrm (f:List It):List It:=f.foldl pn []
theorem GQ {f:List It} {x:It} (h:chk f x=0):pn f x=f++[x]:=by
 unfold pn;by_cases hx:x.1=1
 ·obtain⟨h1,h2,h3⟩:=(fZ hx).1 h
  rw[if_pos hx,if_neg h1];obtain⟨k,s,i⟩:=x;simp only[] at hx h2;subst hx h2;rcases iY (f:=f) (x:=(1,s,0)) rfl with ⟨_,h⟩ | ⟨g,y,rfl,hy,_⟩
  ·exact h
  ·rw[fB] at h3;exact absurd hy h3
 ·rw[if_neg hx]
theorem A9:∀ (B A:List It),fK A B=0->B.foldl pn A=A++B
 | [],A,_=>by simp
 | x :: B,A,h=>by
  simp only[fK] at h;have h0:chk A x=0:=by
   by_cases h1:chk A x=0
   ·exact h1
   ·rw[if_pos h1] at h;exact absurd h h1
  rw[if_neg (by simp [h0])] at h;rw[foldl_cons,GQ h0,A9 B _ h];simp
theorem CN {f:List It} (h:VL f) (x:It):nrm (f++[x])=pn f x:=by
 unfold nrm;rw[foldl_append,A9 f [] h];rfl
theorem MH {f:List It} (h:VL f):nrm f=f:=A9 f [] h
def tg (f:List It):List It:=f.filter bD
theorem fP (f g:List It):tg (f++g)=tg f++tg g:=by simp [tg]
theorem wC {x:It} (h:bD x=false):tg [x]=[]:=by simp [tg,h]
theorem nZ {x:It} (h:bD x=true):tg [x]=[x]:=by simp [tg,h]
theorem rN {x:It} (h:x.1=1):bD x=false:=by simp [bD,h]
theorem mL {f:List It} {x:It} (h:x.1=1):tg (pn f x)=tg f:=by
 unfold pn;rw[if_pos h];split
 ·rfl
 ·rcases iY (f:=f) (x:=(1,x.2.1,0)) rfl with ⟨_,h⟩ | ⟨g,y,rfl,hy,h⟩
  ·rw[h,fP,wC (rN rfl),append_nil]
  ·rw[h,fP,fP,wC (rN rfl),wC (rN hy)]
theorem rH {f:List It} {x:It} (hf:VL f) (h:x.1=1):VL (pn f x):=by
 unfold pn;rw[if_pos h];split
 ·exact hf
 ·rename_i hs
  rcases iY (f:=f) (x:=(1,x.2.1,0)) rfl with ⟨h1,h2⟩ | ⟨g,y,rfl,hy,h2⟩
  ·rw[h2]
   exact (cJ f _).2 ⟨hf,(fZ rfl).2 ⟨hs,rfl,h1⟩⟩
  ·rw[h2]
   obtain⟨a1,a2⟩:=(cJ g y).1 hf;obtain⟨b1,b2,b3⟩:=(fZ hy).1 a2;exact (cJ g _).2 ⟨a1,(fZ rfl).2 ⟨by simp [b1],rfl,b3⟩⟩
theorem WT (f:List It) (x:It):len (pn f x)<=len f+wid x/\(pn f x).length<=f.length+1:=by
 unfold pn;by_cases h:x.1=1
 ·rw[if_pos h]
  split
  ·exact⟨by omega,by omega⟩
  ·rcases iY (f:=f) (x:=(1,x.2.1,0)) rfl with ⟨_,h2⟩ | ⟨g,y,rfl,hy,h2⟩
   ·rw[h2,eN,gG]
    simp [wid,h]
   ·rw[h2,eN,eN,gG,gG]
    simp only[wid,hy,h,if_true,length_append,length_cons,length_nil];omega
 ·rw[if_neg h,eN,gG]
  simp
theorem rO {f:List It} {x:It}:mM f x=0↔∀ z∈tg f,z.2.2=x.2.2->x.1=3/\z.1=2/\aT z.2.1=x.2.1:=by
 unfold mM;constructor
 ·intro h z hz hi
  obtain⟨h1,h2⟩:=mem_filter.1 hz
  have:f.any (dJ x)≠true:=by
   intro q;rw[if_pos q] at h;cases h
  have hc:dJ x z≠true:=fun q=>this (any_eq_true.2 ⟨z,h1,q⟩)
  unfold dJ at hc;simp only[h2,hi,decide_true,Bool.and_self,Bool.true_and,Bool.not_eq_true',ne_eq,Bool.not_eq_false,Bool.and_eq_true,decide_eq_true_eq,beq_iff_eq] at hc;exact⟨hc.1.1,hc.1.2,hc.2⟩
 ·intro h
  rw[if_neg];intro q;obtain⟨z,h1,h2⟩:=any_eq_true.1 q;unfold dJ at h2;simp only[Bool.and_eq_true,decide_eq_true_eq,Bool.not_eq_true'] at h2;obtain⟨⟨a1,a2⟩,a3⟩:=h2;obtain⟨b1,b2,b3⟩:=h z (mem_filter.2 ⟨h1,a1⟩) a2;rw[b1,b2,b3] at a3;simp at a3
structure FV (f op:List It) (id:Int):Prop where
 vl:VL f
 i0:0<=id
 ids:∀ z∈tg f,z.2.2<=id
 nd:(op.map fun t=>t.2.2).Nodup
 opn:∀ t∈op,t.1=2/\isC t.2.1=true/\1<=t.2.2/\t.2.2<=id/\∀ z∈tg f,z.2.2=t.2.2->z=t
theorem XV:FV [] [] 0:=⟨rfl,by omega,by simp [tg],by simp,by simp⟩
theorem HZ {f op:List It} {id:Int} (h:FV f op id) {x:It} (hx:x.1=1):FV (pn f x) op id:=
 ⟨rH h.vl hx,h.i0,by rw[mL hx];exact h.ids,h.nd,by rw[mL hx];exact h.opn⟩
theorem R4 {f op:List It} {id:Int} (h:FV f op id) {s:Bs} (hs:cW s=true):FV (pn f (5,s,0)) op id:=by
 have e:pn f (5,s,0)=f++[(5,s,0)]:=rfl;have et:tg (f++[((5:Int),s,(0:Int))])=tg f:=by rw[fP,wC (by rfl),append_nil]
 rw[e];exact⟨(cJ f _).2 ⟨h.vl,by simp [chk,hs]⟩,h.i0,by rw[et];exact h.ids,h.nd,by rw[et];exact h.opn⟩
theorem NE {f op:List It} {id:Int} (h:FV f op id) {k:Int} {s:Bs} (hk:((k=2\/k=4)/\isC s=true)\/(k=3/\cW s=true)) (hi:id < 999):chk f (k,s,id+1)=0:=by
 have ht:mM f (k,s,id+1)=0:=rO.2 fun z hz he=>by
  have:=h.ids z hz
  simp only[] at he;omega
 have h0:=h.i0;rcases hk with ⟨rfl | rfl,hc⟩ | ⟨rfl,hc⟩
 ·simp only[chk]
  rw[if_neg (by decide),if_neg (by decide),if_pos (.inl trivial),if_pos ⟨hc,by omega,by omega⟩,ht]
 ·simp only[chk]
  rw[if_neg (by decide),if_neg (by decide),if_pos (.inr trivial),if_pos ⟨hc,by omega,by omega⟩,ht]
 ·simp only[chk]
  rw[if_neg (by decide),if_neg (by decide),if_neg (by decide),if_pos trivial,if_pos ⟨hc,by omega,by omega⟩,ht]
theorem XU {f op:List It} {id:Int} (h:FV f op id) {k:Int} {s:Bs} (hk:(k=4/\isC s=true)\/(k=3/\cW s=true)) (hi:id < 999):FV (pn f (k,s,id+1)) op (id+1):=by
 have hc:=NE h (k:=k) (s:=s) (by rcases hk with ⟨a,b⟩ | ⟨a,b⟩;exact .inl ⟨.inr a,b⟩;exact .inr ⟨a,b⟩) hi;have hty:bD (k,s,id+1)=true:=by rcases hk with ⟨rfl,_⟩ | ⟨rfl,_⟩<;>rfl
 rw[GQ hc];refine⟨(cJ f _).2 ⟨h.vl,hc⟩,by have:=h.i0;omega,?_,h.nd,?_⟩
 ·intro z hz
  rw[fP,nZ hty] at hz;rcases mem_append.1 hz with q | q
  ·have:=h.ids z q;omega
  ·simp only[mem_singleton] at q;subst q;simp
 ·intro t ht
  obtain⟨a1,a2,a3,a4,a5⟩:=h.opn t ht;refine⟨a1,a2,a3,by omega,fun z hz he=>?_⟩;rw[fP,nZ hty] at hz;rcases mem_append.1 hz with q | q
  ·exact a5 z q he
  ·simp only[mem_singleton] at q;subst q;simp only[] at he;omega
theorem R5 {f op:List It} {id:Int} (h:FV f op id) {s:Bs} (hk:isC s=true) (hi:id < 999):FV (pn f (2,s,id+1)) (op++[(2,s,id+1)]) (id+1):=by
 have hc:=NE h (k:=2) (s:=s) (.inl ⟨.inl rfl,hk⟩) hi;have hty:bD ((2:Int),s,id+1)=true:=rfl;have h0:=h.i0;rw[GQ hc];refine⟨(cJ f _).2 ⟨h.vl,hc⟩,by omega,?_,?_,?_⟩
 ·intro z hz
  rw[fP,nZ hty] at hz;rcases mem_append.1 hz with q | q
  ·have:=h.ids z q;omega
  ·simp only[mem_singleton] at q;subst q;simp
 ·rw[map_append,nodup_append]
  refine⟨h.nd,by simp,fun a ha b hb=>?_⟩;obtain⟨t,ht,rfl⟩:=List.mem_map.1 ha;obtain⟨_,_,_,a4,_⟩:=h.opn t ht;simp only[map_cons,map_nil,mem_singleton] at hb;omega
 ·intro t ht
  rcases mem_append.1 ht with q | q
  ·obtain⟨a1,a2,a3,a4,a5⟩:=h.opn t q
   refine⟨a1,a2,a3,by omega,fun z hz he=>?_⟩;rw[fP,nZ hty] at hz;rcases mem_append.1 hz with q | q
   ·exact a5 z q he
   ·simp only[mem_singleton] at q;subst q;simp only[] at he;omega
  ·simp only[mem_singleton] at q
   subst q;refine⟨rfl,hk,by simp only[];omega,by simp only[];omega,fun z hz he=>?_⟩;rw[fP,nZ hty] at hz;rcases mem_append.1 hz with q | q
   ·have:=h.ids z q;simp only[] at he;omega
   ·simpa using q
theorem M6 {s:Bs} (h:isC s=true):cW (aT s)=true:=by
 unfold isC at h;simp only[Bool.and_eq_true] at h;exact h.1.1.2
theorem DB {f op:List It} {id:Int} (h:FV f op id) (hi:id<=999) {a b:List It} {t:It} (he:op=a++t :: b):FV (pn f (3,aT t.2.1,t.2.2)) (a++b) id:=by
 obtain⟨t1,t2,t3,t4,t5⟩:=h.opn t (by rw[he];simp);have hty:bD ((3:Int),aT t.2.1,t.2.2)=true:=rfl;have ht:mM f (3,aT t.2.1,t.2.2)=0:=rO.2 fun z hz hzi=>by
  have:=t5 z hz hzi
  subst this;exact⟨rfl,t1,rfl⟩
 have hc:chk f (3,aT t.2.1,t.2.2)=0:=by
  simp only[chk];rw[if_neg (by decide),if_neg (by decide),if_neg (by decide),if_pos trivial,if_pos ⟨M6 t2,t3,by omega⟩,ht]
 rw[GQ hc];have hnd:=h.nd;rw[he,map_append,map_cons] at hnd;have hne:∀ s∈a++b,s.2.2≠t.2.2:=by
  intro s hs e;rw[nodup_append] at hnd;obtain⟨n1,n2,n3⟩:=hnd;rcases mem_append.1 hs with q | q
  ·exact n3 _ (mem_map_of_mem q) _ (by simp) e
  ·exact (nodup_cons.1 n2).1 (by rw[<- e];exact mem_map_of_mem q)
 refine⟨(cJ f _).2 ⟨h.vl,hc⟩,h.i0,?_,?_,?_⟩
 ·intro z hz
  rw[fP,nZ hty] at hz;rcases mem_append.1 hz with q | q
  ·exact h.ids z q
  ·simp only[mem_singleton] at q;subst q;exact t4
 ·rw[map_append]
  rw[nodup_append] at hnd ⊢;exact⟨hnd.1,(nodup_cons.1 hnd.2.1).2,fun x hx y hy=>hnd.2.2 x hx y (by simp [hy])⟩
 ·intro s hs
  obtain⟨a1,a2,a3,a4,a5⟩:=h.opn s (by rw[he];rcases mem_append.1 hs with q | q<;>simp [q]);refine⟨a1,a2,a3,a4,fun z hz hzi=>?_⟩;rw[fP,nZ hty] at hz;rcases mem_append.1 hz with q | q
  ·exact a5 z q hzi
  ·simp only[mem_singleton] at q
   subst q;exact absurd hzi.symm (hne s hs)
end Go.Nt
namespace Go.Nt
def wfB (f:List It) (x:It):Bool:=
 if x.1=1 then !(decide (x.2.1=[]) || decide (x.2.2≠0) || decide (iO f=1))
 else if x.1=5 then cW x.2.1 && decide (x.2.2=0)
 else if x.1=2\/x.1=4 then isC x.2.1 && (decide (1<=x.2.2) && decide (x.2.2<=999))
 else if x.1=3 then cW x.2.1 && (decide (1<=x.2.2) && decide (x.2.2<=999))
 else false
def sO (f:List It) (x:It):Bool:=!(f.any (dJ x))
theorem pZ (f:List It) (x:It):chk f x=if wfB f x=true then (if bD x=true then (if sO f x=true then 0 else 7) else 0) else 1:=by
 obtain⟨k,s,i⟩:=x;unfold chk wfB sO mM;simp only[];by_cases h1:k=1
 ·subst h1
  simp only[↓reduceIte];have e:bD ((1:Int),s,i)=false:=rfl;rw[e];by_cases a:s=[]<;>by_cases b:i=0<;>by_cases c:iO f=1<;>simp [a,b,c]
 rw[if_neg h1,if_neg h1];by_cases h5:k=5
 ·subst h5
  simp only[↓reduceIte];have e:bD ((5:Int),s,i)=false:=rfl;rw[e]
  cases cW s<;>by_cases b:i=0<;>simp [b]
 rw[if_neg h5,if_neg h5];by_cases h2:k=2\/k=4
 ·rw[if_pos h2,if_pos h2]
  have e:bD (k,s,i)=true:=by rcases h2 with rfl | rfl<;>rfl
  rw[e]
  cases isC s<;>by_cases b:1<=i<;>by_cases c:i<=999<;>cases f.any (dJ (k,s,i))<;>simp [b,c]
 rw[if_neg h2,if_neg h2];by_cases h3:k=3
 ·subst h3
  simp only[↓reduceIte];have e:bD ((3:Int),s,i)=true:=rfl;rw[e]
  cases cW s<;>by_cases b:1<=i<;>by_cases c:i<=999<;>cases f.any (dJ ((3:Int),s,i))<;>simp [b,c]
 ·rw[if_neg h3,if_neg h3];rfl
abbrev Tm:=List (Int × It)
def lE:Tm->Int->Option It
 | [],_=>none
 | (k,y) :: r,i=>if i=k then some y else lE r i
def qB:Tm->Int->It->Tm
 | [],i,x=>[(i,x)]
 | (k,y) :: r,i,x=>if i=k then (i,x) :: r else (k,y) :: qB r i x
theorem tV:∀ (m:Tm) (i:Int) (x:It) (j:Int),lE (qB m i x) j=if j=i then some x else lE m j
 | [],i,x,j=>by simp [qB,lE]
 | (k,y) :: r,i,x,j=>by
  have ih:=tV r i x j;by_cases h:i=k
  ·subst h
   simp only[qB,if_true,lE];by_cases h2:j=i<;>simp [h2]
  ·simp only[qB,if_neg h,lE]
   by_cases h2:j=k
   ·subst h2;simp [Ne.symm h]
   ·simp only[h2,if_false,ih]
structure TM (f:List It) (m:Tm):Prop where
 no:∀ i,lE m i=none->∀ z∈tg f,z.2.2≠i
 yes:∀ i y,lE m i=some y->y∈tg f/\y.2.2=i/\(y.1=2->∀ z∈tg f,z.2.2=i->z=y)
theorem VF:TM [] []:=⟨fun i _ z hz=>(by simp [tg] at hz),fun i y h=>(by simp [lE] at h)⟩
def B3 (m:Tm) (x:It):Bool:=match lE m x.2.2 with
 | none=>false
 | some y=>!(decide (x.1=3) && decide (y.1=2) && (aT y.2.1 == x.2.1))
theorem VD {f:List It} {m:Tm} (h:TM f m) (x:It):mM f x=if B3 m x=true then 7 else 0:=by
 have key:mM f x=0↔B3 m x=false:=by
  rw[rO];unfold B3;cases hm:lE m x.2.2 with
  | none=>exact⟨fun _=>rfl,fun _ z hz he=>absurd he (h.no _ hm z hz)⟩
  | some y =>
   obtain⟨a,b,c⟩:=h.yes _ y hm;constructor
   ·intro q
    obtain⟨q1,q2,q3⟩:=q y a b;simp [q1,q2,q3]
   ·intro q z hz he
    simp only[Bool.not_eq_false',Bool.and_eq_true,decide_eq_true_eq,beq_iff_eq] at q
    have:=c q.1.2 z hz he
    subst this;exact⟨q.1.1,q.1.2,q.2⟩
 have hv:mM f x=7\/mM f x=0:=by unfold mM;split<;>simp
 cases hb:B3 m x with
 | false=>rw[key.2 hb];rfl
 | true =>
  rcases hv with h | h
  ·rw[h];rfl
  ·rw[key.1 h] at hb;cases hb
theorem VG {f:List It} {m:Tm} (h:TM f m) {x:It} (hx:bD x=true) (ht:mM f x=0):TM (f++[x]) (qB m x.2.2 x):=by
 have et:tg (f++[x])=tg f++[x]:=by rw[fP,nZ hx]
 have hq:=rO.1 ht;constructor
 ·intro i hi z hz
  rw[tV] at hi
  split at hi
  ·cases hi
  ·rename_i hne
   rw[et] at hz;rcases mem_append.1 hz with q | q
   ·exact h.no i hi z q
   ·simp only[mem_singleton] at q;subst q;exact Ne.symm hne
 ·intro i y hy
  rw[tV] at hy
  split at hy
  ·rename_i he
   cases hy;refine⟨by rw[et];simp,he.symm,fun h2 z hz hzi=>?_⟩;rw[et] at hz;rcases mem_append.1 hz with q | q
   ·have:=(hq z q (by omega)).1;omega
   ·simpa using q
  ·rename_i hne
   obtain⟨a,b,c⟩:=h.yes i y hy;refine⟨by rw[et];simp [a],b,fun h2 z hz hzi=>?_⟩;rw[et] at hz;rcases mem_append.1 hz with q | q
   ·exact c h2 z q hzi
   ·simp only[mem_singleton] at q;subst q;exact absurd hzi.symm hne
theorem TV {f g:List It} {m:Tm} (h:TM f m) (e:tg g=tg f):TM g m:=⟨by rw[e];exact h.no,by rw[e];exact h.yes⟩
def fin (f:List It) (t:Bs):List It:=if t=[] then f else f++[(1,t,0)]
theorem mZ (f:List It):fin f []=f:=by simp [fin]
theorem H4 {f:List It} {t:Bs} {c:Bs} (hl:iO f≠1) (hc:c≠[]):put (fin f t) (1,c,0)=fin f (t++c):=by
 unfold fin
 have:t++c≠[]:=by simp [hc]
 rw[if_neg this];by_cases h:t=[]
 ·subst h
  rw[if_pos rfl];rcases iY (f:=f) (x:=(1,c,0)) rfl with ⟨_,h2⟩ | ⟨g,y,rfl,hy,h2⟩
  ·rw[h2];rfl
  ·rw[fB] at hl;exact absurd hy hl
 ·rw[if_neg h]
  simp [put]
theorem pW (f:List It) (t:Bs):(fin f t).length=f.length+(if 0 < t.length then 1 else 0):=by
 unfold fin;by_cases h:t=[]
 ·subst h;simp
 ·have:0 < t.length:=by cases t with | nil=>exact absurd rfl h | cons=>simp
  rw[if_neg h,if_pos this];simp
theorem DJ {f:List It} {t c:Bs} (hl:iO f≠1) (hc:c≠[]):(put (fin f t) (1,c,0)).length=f.length+1:=by
 rw[H4 hl hc,pW,if_pos (by cases c with | nil=>exact absurd rfl hc | cons=>simp only[length_append,length_cons];omega)]
end Go.Nt
namespace Go.Nt
def dgs (t:Bs):Bs:=(t.take 4).takeWhile dE
theorem JZ (t:Bs):∃ r,t=dgs t++r:=by
 refine⟨(t.take 4).dropWhile dE++t.drop 4,?_⟩;unfold dgs;rw[<- append_assoc,takeWhile_append_dropWhile,take_append_drop]
theorem SG {t:Bs}:∀ c∈dgs t,dE c=true:=fun c hc=>all_eq_true.1 (all_takeWhile (l:=t.take 4) (p:=dE)) c hc
theorem SH (t:Bs):(dgs t).length<=4:=by
 unfold dgs;have h1:=(takeWhile_prefix dE (l:=t.take 4)).length_le;rw[length_take] at h1;omega
theorem YD {a b:Bs} {n:Nat} (h:rdN a=some n):dgs (a++58 :: b)=a:=by
 unfold rdN at h
 split at h
 ·rename_i hc
  obtain⟨h1,h2,h3,h4⟩:=hc;have h5:dE 58=false:=by decide
  unfold dgs;have e:(a++58 :: b).take 4=a++(58 :: b).take (4 - a.length):=by
   rw[take_append,take_of_length_le (by omega)]
  rw[e,takeWhile_append_of_pos (all_eq_true.1 h4)];obtain⟨k,hk⟩:∃ k,4 - a.length=k+1:=⟨3 - a.length,by omega⟩
  rw[hk,take_succ_cons,takeWhile_cons,h5];simp
 ·cases h
theorem EK {t a b:Bs} {n:Nat} (hc:cut 58 t=some (a,b)) (h:rdN a=some n):dgs t=a/\cV a 0=n/\1<=a.length/\a.length < t.length/\t[a.length]?=some 58/\(∃ c,t[0]?=some c/\c≠48)/\t.drop (a.length+1)=b/\n<=999:=by
 obtain⟨rfl,_⟩:=cN.1 hc;have h0:=h;unfold rdN at h
 split at h
 ·rename_i hq
  obtain⟨h1,h2,h3,h4⟩:=hq;refine⟨YD h0,by simpa using h,h1,by simp,by simp,?_,?_,(wO h0).2.2⟩
  ·cases a with
   | nil=>simp at h1
   | cons c a=>exact⟨c,by simp,by simpa using h3⟩
  ·rw[show a++58 :: b=(a++[58])++b by simp,drop_left' (by simp)]
 ·cases h
theorem WK {s:Bs} (h:s.length=4) (hd:∀ c∈s,dE c=true) {c:UInt8} (hc:s[0]?=some c) (h48:c≠48):1000<=cV s 0:=by
 match s,h with
 | [a,b,d,e],_ =>
  simp at hc;subst hc;have ha:=(lH (hd a (by simp))).2.2 h48;simp only[cV];omega
theorem LI {t:Bs} {c:UInt8} (h1:1<=(dgs t).length) (h2:t[(dgs t).length]?=some 58) (h3:t[0]?=some c) (h4:c≠48) (h5:cV (dgs t) 0<=999) :
  cut 58 t=some (dgs t,t.drop ((dgs t).length+1))/\rdN (dgs t)=some (cV (dgs t) 0):=by
 obtain⟨r,hr⟩:=JZ t;have hm:=SG (t:=t);have hl:=SH t;generalize dgs t=a at *;subst hr;have e0:(a++r)[0]?=a[0]?:=by rw[getElem?_append_left (by omega)]
 rw[e0] at h3;have hr:∃ b,r=58 :: b:=by
  rw[getElem?_append_right (by omega),Nat.sub_self] at h2
  cases r with
  | nil=>simp at h2
  | cons d b=>simp at h2;exact⟨b,by rw[h2]⟩
 obtain⟨b,rfl⟩:=hr;have hn:(58:UInt8) ∉ a:=fun q=>absurd (hm 58 q) (by decide)
 constructor
 ·rw[gU hn,show a++58 :: b=(a++[58])++b by simp,drop_left' (by simp)]
 ·unfold rdN
  rw[if_pos];refine⟨h1,?_,?_,all_eq_true.2 hm⟩
  ·by_cases q:a.length=4
   ·have:=WK q hm h3 h4;omega
   ·omega
  ·rw[head?_eq_getElem?,h3];simpa using h4
theorem DP {t:Bs} {k:Nat} (h:k < 4) {c:UInt8} (hc:t[k]?=some c) (hd:dE c=true):(t.drop k).take (4 - k)=c :: (t.drop (k+1)).take (4 - (k+1)):=by
 have hk:k < t.length:=by
  by_cases q:k < t.length
  ·exact q
  ·rw[getElem?_eq_none (by omega)] at hc;cases hc
 rw[drop_eq_getElem_cons hk];rw[getElem?_eq_getElem hk] at hc;simp only[Option.some.injEq] at hc;rw[hc,show 4 - k=(4 - (k+1))+1 by omega,take_succ_cons]
def rtK (t:Bs):Int × Bs:=if t.head?=some 47 then (3,t.drop 1) else if t.getLast?=some 47 then (4,t.dropLast) else (2,t)
def rtV (k:Int) (b:Bs):Bool:=if k=3 then cW b else isC b
theorem DQ {b c:UInt8} (h:c≠b):∀ s:Bs,cut b (s++[c])=(cut b s).map fun p=>(p.1,p.2++[c])
 | []=>by simp [cut,h]
 | d :: s=>by
  simp only[cons_append,cut];by_cases hd:d=b
  ·simp [hd]
  ·simp only[hd,if_false,DQ h s,Option.map_map];rfl
theorem LQ (t:Bs):rdT t=match cut 58 (rtK t).2 with
  | some (a,b)=>match rdN a with
   | some n=>if rtV (rtK t).1 b=true then some ((rtK t).1,b,(n:Int)) else none
   | none=>none
  | none=>none:=by
 cases t with
 | nil=>rfl
 | cons c r =>
  simp only[rdT,rtK,head?_cons,Option.some.injEq];by_cases h1:c=47
  ·rw[if_pos h1,if_pos h1]
   simp only[drop_succ_cons,drop_zero];rfl
  ·rw[if_neg h1,if_neg h1]
   by_cases h2:(c :: r).getLast?=some 47
   ·rw[if_pos h2]
    have hs:∃ u,c :: r=u++[47]:=by
     have hne:c :: r≠[]:=by simp
     refine⟨(c :: r).dropLast,?_⟩
     have:=dropLast_concat_getLast hne
     rw[getLast?_eq_some_getLast hne] at h2;simp only[Option.some.injEq] at h2;rw[h2] at this;exact this.symm
    obtain⟨u,hu⟩:=hs;rw[hu,DQ (by decide),dropLast_concat]
    cases cut 58 u with
    | none=>rfl
    | some p =>
     obtain⟨a,b⟩:=p;simp only[Option.map_some]
     cases rdN a with
     | none=>rfl
     | some n =>
      simp only[getLast?_concat,dropLast_concat,if_true];rw[show rtV 4 b=isC b from rfl]
   ·rw[if_neg h2]
    cases hc:cut 58 (c :: r) with
    | none=>rfl
    | some p =>
     obtain⟨a,b⟩:=p;simp only[]
     cases rdN a with
     | none=>rfl
     | some n =>
      obtain⟨he,_⟩:=cN.1 hc;have hb:b.getLast?≠some 47:=by
       intro q;have hne:b≠[]:=by rintro rfl;simp at q
       have q2:(58 :: b).getLast?=some 47:=by rw[getLast?_cons,q];rfl
       rw[he,getLast?_append,q2] at h2;simp at h2
      simp only[];rw[if_neg hb,show rtV 2 b=isC b from rfl]
theorem QO {c:UInt8} {s r:Bs} (h:s=wrt c++r):rd s=some ((1,[c],0),(wrt c).length):=by
 have:=qW (vA c) r
 rw[oT] at this;rw[h,this]
theorem JI {d:UInt8} {s:Bs} (h1:d≠60) (h2:d≠123) (h:∀ c:UInt8,¬ wrt c <+: d :: s):rd (d :: s)=none:=by
 cases hr:rd (d :: s) with
 | none=>rfl
 | some p =>
  exfalso;obtain⟨x,m⟩:=p;obtain⟨w,_,r,hr⟩:=kL hr;obtain⟨k,t,i⟩:=x;rcases w with ⟨rfl,⟨c,rfl⟩,rfl⟩ | ⟨rfl,_⟩ | ⟨rfl | rfl,_⟩ | ⟨rfl,_⟩
  ·rw[oT] at hr
   exact h c ⟨r,hr.symm⟩
  ·simp [elt] at hr;exact h2 hr.1
  ·simp [elt] at hr;exact h1 hr.1
  ·simp [elt] at hr;exact h1 hr.1
  ·simp [elt] at hr;exact h1 hr.1
theorem CD {t r:Bs} (h:cW t=true):rd (123 :: (t++125 :: r))=some ((5,t,0),t.length+2):=by
 have hn:(125:UInt8) ∉ t:=fun hm=>(EU _ ((iF h).2.2 _ hm)).2.1 rfl
 simp only[rd];rw[if_neg (by decide),if_neg (by decide),if_pos trivial];simp only[gU hn,h,if_true]
theorem EO {s:Bs} (h:∀ k,1<=k->k<=25->(123 :: s)[k]?=some 125->cW (((123 :: s).take k).drop 1)=true->False):rd (123 :: s)=none:=by
 simp only[rd];rw[if_neg (by decide),if_neg (by decide),if_pos trivial];cases hc:cut 125 s with
 | none=>rfl
 | some p =>
  obtain⟨t,r⟩:=p;obtain⟨rfl,_⟩:=cN.1 hc;simp only[];cases hn:cW t with
  | false=>rfl
  | true =>
   exfalso;have hl:=(iF hn).2.1;refine h (t.length+1) (by omega) (by omega) (by simp) ?_;rw[take_succ_cons,drop_succ_cons,drop_zero,take_left];exact hn
end Go.Nt
namespace Go.Nt
def gA (l:List Int) (x:It):List Int:=if bD x=true/\x.2.2 ∉ l then l++[x.2.2] else l
def cB (f:List It):List Int:=f.foldl gA []
def lkz:List Int->List Int->Int->Option Int
 | a :: as,b :: bs,i=>if a=i then some b else lkz as bs i
 | _,_,_=>none
def rU (fr to:List Int) (x:It):Option It:=if bD x=true then (lkz fr to x.2.2).map fun n=>(x.1,x.2.1,n) else some x
def jX (fr to:List Int) (f:List It):List It:=f.filterMap (rU fr to)
def dU (n:Nat):List Int:=(List.range n).map fun (i:Nat)=>(i:Int)+1
theorem fO (n:Nat):(dU n).length=n:=by simp [dU]
theorem D8 (n:Nat):dU (n+1)=dU n++[(n:Int)+1]:=by simp [dU,range_succ]
theorem OL (l:List Int) (x:It) (i:Int) (h:i∈l):i∈gA l x:=by
 unfold gA;split
 ·simp [h]
 ·exact h
theorem DE:∀ (f:List It) (l:List Int) (i:Int),i∈l->i∈f.foldl gA l
 | [],l,i,h=>h
 | x :: f,l,i,h=>DE f _ i (OL l x i h)
theorem DD:∀ (f:List It) (l:List Int) (x:It),x∈f->bD x=true->x.2.2∈f.foldl gA l
 | y :: f,l,x,h,ht=>by
  rw[foldl_cons];rcases mem_cons.1 h with rfl | h
  ·refine DE f _ _ ?_
   unfold gA;by_cases q:x.2.2∈l
   ·rw[if_neg (fun z=>z.2 q)];exact q
   ·rw[if_pos ⟨ht,q⟩];simp
  ·exact DD f _ x h ht
theorem oJ {f:List It} {x:It} (h:x∈f) (ht:bD x=true):x.2.2∈cB f:=DD f [] x h ht
theorem DF:∀ (f:List It) (l:List Int),(f.foldl gA l).length<=l.length+f.length
 | [],l=>by simp
 | x :: f,l=>by
  have:=DF f (gA l x)
  have h2:(gA l x).length<=l.length+1:=by unfold gA;split<;>simp
  rw[foldl_cons,length_cons];omega
theorem wT (f:List It):(cB f).length<=f.length:=by have:=DF f [];simpa [cB] using this
theorem xA:∀ (l to:List Int) (i v:Int),lkz l to i=some v->∃ j:Nat,l[j]?=some i/\to[j]?=some v
 | [],_,i,v,h=>by simp [lkz] at h
 | a :: as,[],i,v,h=>by simp [lkz] at h
 | a :: as,b :: bs,i,v,h=>by
  simp only[lkz] at h
  split at h
  ·rename_i e;cases h;exact⟨0,by simp [e],rfl⟩
  ·obtain⟨j,h1,h2⟩:=xA as bs i v h
   exact⟨j+1,by simpa using h1,by simpa using h2⟩
theorem CX:∀ (l to:List Int) (i:Int),l.length<=to.length->i∈l->∃ v,lkz l to i=some v
 | [],_,i,_,h=>by cases h
 | a :: as,[],i,h,_=>by simp at h
 | a :: as,b :: bs,i,h,hm=>by
  simp only[lkz];by_cases e:a=i
  ·exact⟨b,by rw[if_pos e]⟩
  ·rw[if_neg e]
   refine CX as bs i (by simpa using h) ?_;rcases mem_cons.1 hm with q | q
   ·exact absurd q.symm e
   ·exact q
theorem vB {n j:Nat} {v:Int} (h:(dU n)[j]?=some v):v=(j:Int)+1/\j < n:=by
 unfold dU at h;rw[getElem?_map,Option.map_eq_some_iff] at h;obtain⟨a,h1,h2⟩:=h;rw[List.getElem?_eq_some_iff] at h1;obtain⟨h3,h4⟩:=h1;simp at h3 h4;omega
def sig (f:List It) (i:Int):Int:=(lkz (cB f) (dU (cB f).length) i).getD 0
theorem n8 {f:List It} {i:Int} (h:i∈cB f):lkz (cB f) (dU (cB f).length) i=some (sig f i):=by
 obtain⟨v,hv⟩:=CX (cB f) (dU (cB f).length) i (by rw[fO];exact Nat.le_refl _) h;rw[hv];unfold sig;rw[hv];rfl
theorem LC {f:List It} {i:Int} (h:i∈cB f):1<=sig f i/\sig f i<=((cB f).length:Int):=by
 obtain⟨j,h1,h2⟩:=xA _ _ _ _ (n8 h);obtain⟨h3,h4⟩:=vB h2;omega
theorem QD {f:List It} {i k:Int} (hi:i∈cB f) (hk:k∈cB f) (h:sig f i=sig f k):i=k:=by
 obtain⟨j,h1,h2⟩:=xA _ _ _ _ (n8 hi);obtain⟨j',h1',h2'⟩:=xA _ _ _ _ (n8 hk);obtain⟨h3,_⟩:=vB h2;obtain⟨h3',_⟩:=vB h2'
 have:j=j':=by omega
 subst this;rw[h1] at h1';cases h1';rfl
def phi (f:List It) (x:It):It:=if bD x=true then (x.1,x.2.1,sig f x.2.2) else x
theorem qL (f:List It) (x:It):(phi f x).1=x.1/\(phi f x).2.1=x.2.1:=by unfold phi;split<;>simp
theorem vG (f:List It) (x:It):bD (phi f x)=bD x:=by unfold bD;rw[(qL f x).1]
theorem QU (f:List It) (x:It):wid (phi f x)=wid x:=by unfold wid;rw[(qL f x).1,(qL f x).2]
theorem JJ (f A:List It):iO (A.map (phi f))=iO A:=by
 rcases fQ A with rfl | ⟨B,y,rfl⟩
 ·rfl
 ·rw[map_append,map_singleton,fB,fB,(qL f y).1]
theorem JK {f:List It} {x y:It} (hx:x∈f) (hy:y∈f) (ht:bD x=true):dJ (phi f x) (phi f y)=dJ x y:=by
 unfold dJ;rw[vG,(qL f x).1,(qL f x).2,(qL f y).1,(qL f y).2];cases hty:bD y with
 | false=>rfl
 | true =>
  have e:decide ((phi f y).2.2=(phi f x).2.2)=decide (y.2.2=x.2.2):=by
   unfold phi;rw[if_pos hty,if_pos ht,decide_eq_decide];exact⟨fun q=>QD (oJ hy hty) (oJ hx ht) q,fun q=>by simp only[];rw[q]⟩
  rw[e]
theorem QV {f A:List It} {x:It} (hn:(cB f).length<=999) (hA:∀ y∈A,y∈f) (hx:x∈f) (h:chk A x=0):chk (A.map (phi f)) (phi f x)=0:=by
 rw[pZ] at h ⊢;have hw:wfB A x=true:=by
  cases q:wfB A x with
  | true=>rfl
  | false=>rw[q] at h;simp at h
 rw[hw] at h;have hw2:wfB (A.map (phi f)) (phi f x)=true:=by
  by_cases ht:bD x=true
  ·have hb:=LC (oJ hx ht)
   have h1:¬ x.1=1:=fun q=>by rw[rN q] at ht;cases ht
   have h5:¬ x.1=5:=fun q=>by unfold bD at ht;rw[q] at ht;simp at ht
   unfold wfB at hw ⊢;rw[(qL f x).1,(qL f x).2];rw[if_neg h1,if_neg h5] at hw ⊢;have e:(phi f x).2.2=sig f x.2.2:=by unfold phi;rw[if_pos ht]
   rw[e]
   split at hw
   ·rename_i q
    rw[if_pos q];simp only[Bool.and_eq_true,decide_eq_true_eq] at hw ⊢;exact⟨hw.1,by omega,by omega⟩
   ·rename_i q
    rw[if_neg q]
    split at hw
    ·rename_i q3
     rw[if_pos q3];simp only[Bool.and_eq_true,decide_eq_true_eq] at hw ⊢;exact⟨hw.1,by omega,by omega⟩
    ·cases hw
  ·have e:phi f x=x:=by unfold phi;rw[if_neg ht]
   rw[e];unfold wfB at hw ⊢;rw[JJ];exact hw
 rw[hw2,vG];simp only[if_true] at h ⊢;cases ht:bD x with
 | false=>rfl
 | true =>
  rw[ht] at h;simp only[if_true] at h ⊢;have e:sO (A.map (phi f)) (phi f x)=sO A x:=by
   unfold sO
   congr 1
   rw[any_map]
   have:∀ B:List It,(∀ y∈B,y∈f)->B.any (dJ (phi f x) ∘ phi f)=B.any (dJ x):=by
    intro B
    induction B with
    | nil=>intro _;rfl
    | cons y B ih =>
     intro hB;rw[any_cons,any_cons,ih (fun z hz=>hB z (by simp [hz]))];show (dJ (phi f x) (phi f y) || _)=_;rw[JK hx (hB y (by simp)) ht]
   exact this A hA
  rw[e];exact h
theorem CJ {f:List It} (hn:(cB f).length<=999):∀ (B A:List It),(∀ y∈A,y∈f)->(∀ y∈B,y∈f)->fK A B=0->fK (A.map (phi f)) (B.map (phi f))=0
 | [],A,_,_,_=>rfl
 | x :: B,A,hA,hB,h=>by
  simp only[fK] at h;have h0:chk A x=0:=by
   by_cases q:chk A x=0
   ·exact q
   ·rw[if_pos q] at h;exact absurd h q
  rw[if_neg (by simp [h0])] at h;have h1:=QV hn hA (hB x (by simp)) h0
  have ih:=CJ hn B (A++[x]) (fun y hy=>by
   rcases mem_append.1 hy with q | q
   ·exact hA y q
   ·simp only[mem_singleton] at q;subst q;exact hB y (by simp)) (fun y hy=>hB y (by simp [hy])) h
  rw[map_append,map_singleton] at ih;rw[map_cons];simp only[fK];rw[if_neg (by simp [h1])];exact ih
end Go.Nt

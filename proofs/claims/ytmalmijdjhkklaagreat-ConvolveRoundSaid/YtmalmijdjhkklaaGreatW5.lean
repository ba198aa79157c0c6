/- Residues: Fin p as numbers modulo p; whole numbers taken to it; powers; sums. -/
set_option linter.unusedVariables false
set_option linter.unusedSimpArgs false
set_option linter.unusedSectionVars false
section
namespace Go.Proofs.YtmalmijdjhkklaaGreat.Alg
section
variable {p:Nat} [NeZero p]
theorem p_pos:(0:Int)<(p:Int):=by have:=Nat.pos_of_ne_zero (NeZero.ne p);omega
def zt (p:Nat) [NeZero p] (a:Int):Fin p:=⟨(a%(p:Int)).toNat,by
 have h0:(0:Int)<p:=p_pos
 have h1:=Int.emod_nonneg a (show (p:Int)≠0 by omega)
 have h2:=Int.emod_lt_of_pos a h0
 omega⟩
theorem zt_val (a:Int):((zt p a).val:Int)=a%(p:Int):=by
 have h1:=Int.emod_nonneg a (show (p:Int)≠0 by have:= @p_pos p _;omega)
 show (((a%(p:Int)).toNat:Nat):Int)=_
 omega
theorem zt_eq {a b:Int}:zt p a=zt p b↔a%(p:Int)=b%(p:Int):=by
 constructor
 ·intro h
  rw [←zt_val,←zt_val,h]
 ·intro h
  apply Fin.ext
  have:=zt_val (p:=p) a
  have:=zt_val (p:=p) b
  omega
theorem zt_of_val (x:Fin p):zt p (x.val:Int)=x:=by
 apply Fin.ext
 have h:=zt_val (p:=p) (x.val:Int)
 rw [Int.emod_eq_of_lt (by omega) (by have:=x.isLt;omega)] at h
 omega
theorem zt_emod (a:Int):zt p (a%(p:Int))=zt p a:=zt_eq.2 (Int.emod_emod_of_dvd a ⟨1,by simp⟩)
theorem zt_add (a b:Int):zt p (a+b)=zt p a+zt p b:=by
 apply Fin.ext
 have h:=zt_val (p:=p) (a+b)
 have ha:=zt_val (p:=p) a
 have hb:=zt_val (p:=p) b
 have e:(((zt p a+zt p b).val:Nat):Int)=((zt p a).val+(zt p b).val)%(p:Int):=by
  rw [Fin.val_add];simp
 have:(((zt p (a+b)).val:Nat):Int)=((zt p a+zt p b).val:Nat):=by
  rw [e,h,ha,hb,←Int.add_emod]
 omega
theorem zt_mul (a b:Int):zt p (a*b)=zt p a*zt p b:=by
 apply Fin.ext
 have h:=zt_val (p:=p) (a*b)
 have ha:=zt_val (p:=p) a
 have hb:=zt_val (p:=p) b
 have e:(((zt p a*zt p b).val:Nat):Int)=((zt p a).val*(zt p b).val)%(p:Int):=by
  rw [Fin.val_mul];simp
 have:(((zt p (a*b)).val:Nat):Int)=((zt p a*zt p b).val:Nat):=by
  rw [e,h,ha,hb,←Int.mul_emod]
 omega
theorem zt_zero:zt p 0=0:=by
 apply Fin.ext
 have h:=zt_val (p:=p) 0
 simp at h
 simp [h]
theorem zt_one:zt p 1=1:=by
 apply Fin.ext
 have h:=zt_val (p:=p) 1
 have:((1:Fin p).val:Int)=1%(p:Int):=by
  show (((1%p:Nat)):Int)=_
  simp
 omega
theorem zt_neg (a:Int):zt p (-a)= - zt p a:=by
 have h:zt p (-a)+zt p a=0:=by rw [←zt_add,←zt_zero];congr 1;omega
 grind
theorem zt_sub (a b:Int):zt p (a-b)=zt p a-zt p b:=by
 rw [Int.sub_eq_add_neg,zt_add,zt_neg];grind
def pw (a:Fin p):Nat→Fin p
 | 0=>1
 | n+1=>pw a n*a
theorem pw_zero (a:Fin p):pw a 0=1:=rfl
theorem pw_succ (a:Fin p) (n:Nat):pw a (n+1)=pw a n*a:=rfl
theorem pw_one (a:Fin p):pw a 1=a:=by rw [pw_succ,pw_zero];grind
theorem one_pw (n:Nat):pw (1:Fin p) n=1:=by
 induction n with
 | zero=>rfl
 | succ n ih=>rw [pw_succ,ih];grind
theorem pw_add (a:Fin p) (m n:Nat):pw a (m+n)=pw a m*pw a n:=by
 induction n with
 | zero=>rw [Nat.add_zero,pw_zero];grind
 | succ n ih=>rw [←Nat.add_assoc,pw_succ,pw_succ,ih];grind
theorem pw_mul (a:Fin p) (m n:Nat):pw a (m*n)=pw (pw a m) n:=by
 induction n with
 | zero=>rfl
 | succ n ih=>rw [Nat.mul_succ,pw_add,ih,pw_succ]
theorem mul_pw (a b:Fin p) (n:Nat):pw (a*b) n=pw a n*pw b n:=by
 induction n with
 | zero=>rw [pw_zero,pw_zero,pw_zero];grind
 | succ n ih=>rw [pw_succ,pw_succ,pw_succ,ih];grind
theorem zt_pow (a:Int) (n:Nat):zt p (a^n)=pw (zt p a) n:=by
 induction n with
 | zero=>rw [Int.pow_zero,zt_one,pw_zero]
 | succ n ih=>rw [Int.pow_succ,zt_mul,ih,pw_succ]
def sm (n:Nat) (f:Nat→Fin p):Fin p:=
 match n with
 | 0=>0
 | n+1=>sm n f+f n
theorem sm_zero (f:Nat→Fin p):sm 0 f=0:=rfl
theorem sm_succ (n:Nat) (f:Nat→Fin p):sm (n+1) f=sm n f+f n:=rfl
theorem sm_congr {n:Nat} {f g:Nat→Fin p} (h: ∀i,i<n→f i=g i):sm n f=sm n g:=by
 induction n with
 | zero=>rfl
 | succ n ih=>rw [sm_succ,sm_succ,ih (fun i hi=>h i (by omega)),h n (by omega)]
theorem sm_add (n:Nat) (f g:Nat→Fin p):sm n (fun i=>f i+g i)=sm n f+sm n g:=by
 induction n with
 | zero=>rw [sm_zero,sm_zero,sm_zero];grind
 | succ n ih=>rw [sm_succ,sm_succ,sm_succ,ih];grind
theorem sm_mul (n:Nat) (c:Fin p) (f:Nat→Fin p):sm n (fun i=>c*f i)=c*sm n f:=by
 induction n with
 | zero=>rw [sm_zero,sm_zero];grind
 | succ n ih=>rw [sm_succ,sm_succ,ih];grind
theorem sm_const0 (n:Nat):sm n (fun _=>(0:Fin p))=0:=by
 induction n with
 | zero=>rfl
 | succ n ih=>rw [sm_succ,ih];grind
theorem sm_swap (n m:Nat) (f:Nat→Nat→Fin p):sm n (fun i=>sm m (fun j=>f i j))=sm m (fun j=>sm n (fun i=>f i j)):=by
 induction n with
 | zero=>simp only [sm_zero];rw [sm_const0]
 | succ n ih=>rw [sm_succ,ih,←sm_add];rfl
theorem sm_split (n m:Nat) (f:Nat→Fin p):sm (n+m) f=sm n f+sm m (fun i=>f (n+i)):=by
 induction m with
 | zero=>rw [Nat.add_zero,sm_zero];grind
 | succ m ih=>rw [←Nat.add_assoc,sm_succ,ih,sm_succ];grind
theorem sm_one {n:Nat} {f:Nat→Fin p} (k:Nat) (hk:k<n) (h: ∀i,i<n→i≠k→f i=0):sm n f=f k:=by
 induction n with
 | zero=>omega
 | succ n ih=>
  rw [sm_succ]
  by_cases e:k=n
  ·subst e
   rw [sm_congr (g:=fun _=>0) (fun i hi=>h i (by omega) (by omega)),sm_const0];grind
  ·rw [ih (by omega) (fun i hi=>h i (by omega)),h n (by omega) (by omega)];grind
end
end Go.Proofs.YtmalmijdjhkklaaGreat.Alg
end

section
namespace Go.Proofs.YtmalmijdjhkklaaGreat.Alg
section
variable {α:Type} (op:α→α→α) (e:α)
def fd (n:Nat) (f:Nat→α):α:=
 match n with
 | 0=>e
 | n+1=>op (fd n f) (f n)
theorem fd_congr {n:Nat} {f g:Nat→α} (h: ∀i,i<n→f i=g i):fd op e n f=fd op e n g:=by
 induction n with
 | zero=>rfl
 | succ n ih=>rw [fd,fd,ih (fun i hi=>h i (by omega)),h n (by omega)]
variable (ha: ∀a b c,op (op a b) c=op a (op b c)) (hc: ∀a b,op a b=op b a)
include ha hc
theorem fd_swap1 {n:Nat} {f g:Nat→α} (k:Nat) (hk:k<n) (h: ∀i,i<n→i≠k→f i=g i):op (fd op e n f) (g k)=op (fd op e n g) (f k):=by
 induction n with
 | zero=>omega
 | succ n ih=>
  rw [fd,fd]
  by_cases hkn:k=n
  ·subst hkn
   rw [fd_congr op e (g:=g) (fun i hi=>h i (by omega) (by omega)),ha,hc (f k),←ha]
  ·rw [h n (by omega) (by omega),ha,hc (g n),←ha,ih (by omega) (fun i hi=>h i (by omega)),ha,hc (f k),←ha]
end
theorem onto_of_inj (n:Nat): ∀f:Nat→Nat,(∀i,i<n→f i<n)→(∀i j,i<n→j<n→f i=f j→i=j)→ ∀y,y<n→ ∃i,i<n∧f i=y:=by
 induction n with
 | zero=>intro f _ _ y hy;omega
 | succ n ih=>
  intro f hf hi y hy
  have hv:=hf n (by omega)
  have key:=ih (fun i=>if f i=n then f n else f i) (by
   intro i hin
   try dsimp only
   have h1:=hf i (by omega)
   split
   ·rename_i h
    have:f n≠n:=fun h2=>by have:=hi i n (by omega) (by omega) (by omega);omega
    omega
   ·omega) (by
   intro i j hin hjn h
   try dsimp only at h
   split at h <;> split at h
   ·exact hi i j (by omega) (by omega) (by omega)
   ·have:=hi n j (by omega) (by omega) h;omega
   ·have:=hi i n (by omega) (by omega) h;omega
   ·exact hi i j (by omega) (by omega) h)
  by_cases hyv:y=f n
  ·exact ⟨n,by omega,hyv.symm⟩
  ·by_cases hyn:y=n
   ·obtain ⟨i,hin,h⟩:=key (f n) (by omega)
    try dsimp only at h
    split at h
    ·exact ⟨i,by omega,by omega⟩
    ·have:=hi i n (by omega) (by omega) h;omega
   ·obtain ⟨i,hin,h⟩:=key y (by omega)
    try dsimp only at h
    split at h
    ·omega
    ·exact ⟨i,by omega,h⟩
section
variable {α:Type} (op:α→α→α) (e:α)
variable (ha: ∀a b c,op (op a b) c=op a (op b c)) (hc: ∀a b,op a b=op b a)
include ha hc
theorem fd_perm (n:Nat): ∀(f:Nat→Nat) (F:Nat→α),(∀i,i<n→f i<n)→(∀i j,i<n→j<n→f i=f j→i=j)→fd op e n (fun i=>F (f i))=fd op e n F:=by
 induction n with
 | zero=>intro f F _ _;rfl
 | succ n ih=>
  intro f F hf hi
  by_cases hv:f n=n
  ·rw [fd,fd,hv,ih f F (fun i hin=>by
    have h1:=hf i (by omega)
    have:f i≠n:=fun h=>by have:=hi i n (by omega) (by omega) (by omega);omega
    omega) (fun i j hin hjn=>hi i j (by omega) (by omega))]
  ·obtain ⟨k,hk,hfk⟩:=onto_of_inj (n+1) f hf hi n (by omega)
   have hkn:k<n:=by
    rcases Nat.lt_or_ge k n with h|h
    ·exact h
    ·have:k=n:=by omega
     subst this;exact absurd hfk hv
   have hv':f n<n:=by have:=hf n (by omega);omega
   have key:=ih (fun i=>if f i=n then f n else f i) F (by
    intro i hin
    try dsimp only
    have h1:=hf i (by omega)
    split <;> omega) (by
    intro i j hin hjn h
    try dsimp only at h
    split at h <;> split at h
    ·exact hi i j (by omega) (by omega) (by omega)
    ·have:=hi n j (by omega) (by omega) h;omega
    ·have:=hi i n (by omega) (by omega) h;omega
    ·exact hi i j (by omega) (by omega) h)
   have sw:=fd_swap1 op e ha hc (f:=fun i=>F (f i)) (g:=fun i=>F (if f i=n then f n else f i)) k hkn (fun i hin hne=>by
    have:f i≠n:=fun h=>hne (hi i k (by omega) (by omega) (by omega))
    simp [this])
   simp only [hfk,if_true] at sw
   rw [fd,fd,sw,key]
end
theorem sm_eq_fd {p:Nat} [NeZero p] (n:Nat) (f:Nat→Fin p):sm n f=fd (· + ·) 0 n f:=by
 induction n with
 | zero=>rfl
 | succ n ih=>rw [sm_succ,ih];rfl
theorem sm_perm {p:Nat} [NeZero p] (n:Nat) (f:Nat→Nat) (F:Nat→Fin p) (hf: ∀i,i<n→f i<n) (hi: ∀i j,i<n→j<n→f i=f j→i=j):sm n (fun i=>F (f i))=sm n F:=by
 rw [sm_eq_fd,sm_eq_fd]
 exact fd_perm _ _ (fun a b c=>by grind) (fun a b=>by grind) n f F hf hi
def Prime (p:Nat):Prop:=2≤p∧ ∀d,d∣p→d=1∨d=p
theorem prime_factor (n:Nat) (h:2≤n): ∃q,Prime q∧q∣n:=by
 induction n using Nat.strongRecOn with
 | _ n ih=>
  by_cases hp:Prime n
  ·exact ⟨n,hp,Nat.dvd_refl n⟩
  ·have: ∃d,d∣n∧d≠1∧d≠n:=by
    apply Classical.byContradiction
    intro hno
    exact hp ⟨h,fun d hd=>Classical.byContradiction fun hh=>hno ⟨d,hd,fun e=>hh (.inl e),fun e=>hh (.inr e)⟩⟩
   obtain ⟨d,hd,h1,h2⟩:=this
   have hle:=Nat.le_of_dvd (by omega) hd
   have h0:d≠0:=fun e=>by subst e;have:=Nat.eq_zero_of_zero_dvd hd;omega
   obtain ⟨q,hq,hqd⟩:=ih d (by omega) (by omega)
   exact ⟨q,hq,Nat.dvd_trans hqd hd⟩
theorem Prime.coprime {q a:Nat} (hq:Prime q) (h: ¬q∣a):Nat.Coprime q a:=by
 rcases hq.2 (Nat.gcd q a) (Nat.gcd_dvd_left q a) with h1|h1
 ·exact h1
 ·exact absurd (h1 ▸ Nat.gcd_dvd_right q a) h
theorem Prime.dvd_mul {q a b:Nat} (hq:Prime q) (h:q∣a*b):q∣a∨q∣b:=by
 by_cases ha:q∣a
 ·exact .inl ha
 ·exact .inr ((hq.coprime ha).dvd_of_dvd_mul_left h)
theorem Prime.dvd_pow {q a n:Nat} (hq:Prime q) (h:q∣a^n):q∣a:=by
 induction n with
 | zero=>rw [Nat.pow_zero] at h;have:=Nat.le_of_dvd (by omega) h;have:=hq.1;omega
 | succ n ih=>
  rw [Nat.pow_succ] at h
  rcases hq.dvd_mul h with h|h
  ·exact ih h
  ·exact h
theorem Prime.eq_of_dvd {q r:Nat} (hq:Prime q) (hr:Prime r) (h:q∣r):q=r:=by
 rcases hr.2 q h with h|h
 ·have:=hq.1;omega
 ·exact h
section
variable {p:Nat} [NeZero p]
def Ord (a:Fin p) (n:Nat):Prop:=0<n∧pw a n=1∧ ∀m,0<m→m<n→pw a m≠1
theorem pw_mod {a:Fin p} {n:Nat} (h:pw a n=1) (m:Nat):pw a m=pw a (m%n):=by
 have e:m=n*(m/n)+m%n:=(Nat.div_add_mod m n).symm
 conv=>lhs;rw [e]
 rw [pw_add,pw_mul,h,one_pw];grind
theorem Ord.dvd {a:Fin p} {n m:Nat} (h:Ord a n):pw a m=1↔n∣m:=by
 constructor
 ·intro hm
  apply Classical.byContradiction
  intro hnd
  have hlt:=Nat.mod_lt m h.1
  have hne:0<m%n:=Nat.pos_of_ne_zero fun h0=>hnd (Nat.dvd_of_mod_eq_zero h0)
  exact h.2.2 _ hne hlt (by rw [←pw_mod h.2.1];exact hm)
 ·rintro ⟨k,rfl⟩
  rw [pw_mul,h.2.1,one_pw]
theorem ord_exists {a:Fin p} {N:Nat} (hN:0<N) (h:pw a N=1): ∃d,Ord a d∧d∣N:=by
 have: ∃d,Ord a d:=by
  induction N using Nat.strongRecOn with
  | _ N ih=>
   by_cases hm: ∃m,0<m∧m<N∧pw a m=1
   ·obtain ⟨m,h0,h1,h2⟩:=hm
    exact ih m h1 h0 h2
   ·exact ⟨N,hN,h,fun m h0 h1 h2=>hm ⟨m,h0,h1,h2⟩⟩
 obtain ⟨d,hd⟩:=this
 exact ⟨d,hd,hd.dvd.1 h⟩
theorem lucas {a:Fin p} {N:Nat} (hN:0<N) (h:pw a N=1) (hq: ∀q,Prime q→q∣N→pw a (N/q)≠1):Ord a N:=by
 obtain ⟨d,hd,k,rfl⟩:=ord_exists hN h
 by_cases hk:k=1
 ·subst hk;simpa using hd
 ·have hk2:2≤k:=by
   rcases Nat.eq_zero_or_pos k with h0|h0
   ·subst h0;simp at hN
   ·omega
  obtain ⟨q,hqp,c,rfl⟩:=prime_factor k hk2
  have hq0:0<q:=by have:=hqp.1;omega
  refine absurd ?_ (hq q hqp ⟨d*c,by rw [Nat.mul_left_comm]⟩)
  rw [show d*(q*c)/q=d*c by rw [Nat.mul_left_comm,Nat.mul_div_cancel_left _ hq0],pw_mul,hd.2.1,one_pw]
theorem Ord.inj {a:Fin p} {n i j:Nat} (h:Ord a n) (hi:i<n) (hj:j<n) (e:pw a i=pw a j):i=j:=by
 have key: ∀i j,i<j→j<n→pw a i=pw a j→False:=by
  intro i j hij hjn e
  have hu:pw a i*pw a (n-i)=1:=by rw [←pw_add,show i+(n-i)=n by omega,h.2.1]
  have:pw a (j-i)=1:=by
   have e2:pw a j=pw a i*pw a (j-i):=by rw [←pw_add,show i+(j-i)=j by omega]
   rw [e2] at e
   have:pw a (j-i)=pw a i*pw a (n-i)*pw a (j-i):=by rw [hu];grind
   rw [this]
   grind
  exact h.2.2 (j-i) (by omega) (by omega) this
 rcases Nat.lt_trichotomy i j with h1|h1|h1
 ·exact (key i j h1 hj e).elim
 ·exact h1
 ·exact (key j i h1 hi e.symm).elim
theorem one_ne_zero (hp:2≤p):(1:Fin p)≠0:=by
 intro h
 have h2:((1:Fin p).val)=((0:Fin p).val):=by rw [h]
 have:(1:Fin p).val=1%p:=rfl
 rw [this,Nat.mod_eq_of_lt (by omega)] at h2
 simp at h2
theorem unit_ne_zero (hp:2≤p) {a b:Fin p} (h:a*b=1):a≠0:=by
 intro h0
 subst h0
 exact one_ne_zero hp (by rw [←h];grind)
theorem Ord.all (hp:2≤p) {g:Fin p} (h:Ord g (p-1)) (x:Fin p) (hx:x≠0): ∃i,i<p-1∧pw g i=x:=by
 have hne: ∀i,pw g i≠0:=fun i=>by
  have h1:pw g i*pw g ((p-1)*i-i)=1:=by
   rw [←pw_add]
   have:i+((p-1)*i-i)=(p-1)*i:=by
    have:i≤(p-1)*i:=Nat.le_mul_of_pos_left i (by omega)
    omega
   rw [this,pw_mul,h.2.1,one_pw]
  exact unit_ne_zero hp h1
 have hv: ∀y:Fin p,y≠0→0<y.val:=fun y hy=>Nat.pos_of_ne_zero fun h0=>hy (Fin.ext (by simpa using h0))
 have hx0:=hv x hx
 obtain ⟨i,hi,he⟩:=onto_of_inj (p-1) (fun i=>(pw g i).val-1) (fun i hi=>by
  have:=hv _ (hne i);have:=(pw g i).isLt;try dsimp only
  omega) (fun i j hi hj he=>by
  try dsimp only at he
  have h1:=hv _ (hne i);have h2:=hv _ (hne j)
  exact h.inj hi hj (Fin.ext (by omega))) (x.val-1) (by have:=x.isLt;omega)
 try dsimp only at he
 exact ⟨i,hi,Fin.ext (by have:=hv _ (hne i);omega)⟩
theorem prime_of_ord (hp:2≤p) {g:Fin p} (h:Ord g (p-1)):Prime p:=by
 refine ⟨hp,fun d hd=>?_⟩
 obtain ⟨c,hc⟩:=hd
 by_cases hd1:d=1
 ·exact .inl hd1
 ·by_cases hdp:d=p
  ·exact .inr hdp
  ·exfalso
   have hd0:d≠0:=fun e=>by subst e;omega
   have hdlt:d<p:=by have:=Nat.le_of_dvd (by omega) (show d∣p from ⟨c,hc⟩);omega
   have hc0:c≠0:=fun e=>by subst e;omega
   have hclt:c<p:=by
    have:c*2≤c*d:=Nat.mul_le_mul_left c (by omega)
    rw [Nat.mul_comm c d] at this
    omega
   have e0:(⟨d,hdlt⟩:Fin p)*⟨c,hclt⟩=0:=by
    apply Fin.ext
    rw [Fin.val_mul]
    show d*c%p=0
    rw [←hc,Nat.mod_self]
   obtain ⟨i,hi,hdi⟩:=h.all hp ⟨d,hdlt⟩ (fun e=>hd0 (by simpa using congrArg Fin.val e))
   have hu:pw g (p-1-i)*pw g i=1:=by rw [←pw_add,show p-1-i+i=p-1 by omega,h.2.1]
   have:(⟨c,hclt⟩:Fin p)=0:=by
    have e1:(⟨c,hclt⟩:Fin p)=pw g (p-1-i)*(pw g i*⟨c,hclt⟩):=by
     have:pw g (p-1-i)*(pw g i*⟨c,hclt⟩)=(pw g (p-1-i)*pw g i)*⟨c,hclt⟩:=by grind
     rw [this,hu];grind
    rw [e1,hdi,e0];grind
   exact hc0 (by simpa using congrArg Fin.val this)
end
section
variable {p:Nat} [NeZero p]
theorem inv_aux (hp:Prime p) (n:Nat): ∀a:Nat,0<a→a<p→a≤n→ ∃b:Fin p,zt p (a:Int)*b=1:=by
 induction n with
 | zero=>intro a h0 _ h;omega
 | succ n ih=>
  intro a h0 h1 h2
  by_cases ha1:a=1
  ·subst ha1
   exact ⟨1,by rw [show ((1:Nat):Int)=1 from rfl,zt_one];grind⟩
  ·have hr:p%a≠0:=fun h=>by
    rcases hp.2 a (Nat.dvd_of_mod_eq_zero h) with h3|h3 <;> omega
   have hlt:=Nat.mod_lt p h0
   obtain ⟨s,hs⟩:=ih (p%a) (by omega) (by omega) (by omega)
   refine ⟨-(zt p ((p/a:Nat):Int))*s,?_⟩
   have e:zt p (a:Int)*zt p ((p/a:Nat):Int)+zt p ((p%a:Nat):Int)=0:=by
    rw [←zt_mul,←zt_add]
    have:(a:Int)*((p/a:Nat):Int)+((p%a:Nat):Int)=(p:Int):=by
     rw [←Int.natCast_mul,←Int.natCast_add,Nat.div_add_mod]
    rw [this,←zt_emod,Int.emod_self,zt_zero]
   grind
theorem inv_exists (hp:Prime p) (x:Fin p) (hx:x≠0): ∃b:Fin p,x*b=1:=by
 have h0:0<x.val:=Nat.pos_of_ne_zero fun h=>hx (Fin.ext (by simpa using h))
 obtain ⟨b,hb⟩:=inv_aux hp x.val x.val h0 x.isLt (Nat.le_refl _)
 exact ⟨b,by rw [←zt_of_val x];exact hb⟩
theorem mul_cancel (hp:Prime p) {x a b:Fin p} (hx:x≠0) (h:x*a=x*b):a=b:=by
 obtain ⟨y,hy⟩:=inv_exists hp x hx
 have: ∀c,c=y*(x*c):=fun c=>by
  have:y*(x*c)=(x*y)*c:=by grind
  rw [this,hy];grind
 rw [this a,h,←this b]
theorem mul_zero_of (hp:Prime p) {a b:Fin p} (h:a*b=0):a=0∨b=0:=by
 by_cases ha:a=0
 ·exact .inl ha
 ·exact .inr (mul_cancel hp ha (by rw [h];grind))
theorem pw_ne_zero (hp:Prime p) {a:Fin p} (ha:a≠0) (n:Nat):pw a n≠0:=by
 induction n with
 | zero=>rw [pw_zero];exact one_ne_zero hp.1
 | succ n ih=>
  rw [pw_succ];intro h
  rcases mul_zero_of hp h with h|h
  ·exact ih h
  ·exact ha h
theorem fd_pw (x:Fin p) (n:Nat) (F:Nat→Fin p):fd (· * ·) 1 n (fun i=>x*F i)=pw x n*fd (· * ·) 1 n F:=by
 induction n with
 | zero=>simp only [fd,pw_zero];grind
 | succ n ih=>simp only [fd,pw_succ];rw [ih];grind
theorem fd_ne_zero (hp:Prime p) (n:Nat) (F:Nat→Fin p) (h: ∀i,i<n→F i≠0):fd (· * ·) 1 n F≠0:=by
 induction n with
 | zero=>exact one_ne_zero hp.1
 | succ n ih=>
  simp only [fd];intro h0
  rcases mul_zero_of hp h0 with h1|h1
  ·exact ih (fun i hi=>h i (by omega)) h1
  ·exact h n (by omega) h1
theorem fermat (hp:Prime p) (x:Fin p) (hx:x≠0):pw x (p-1)=1:=by
 have h2:=hp.1
 have hv: ∀y:Fin p,y≠0→0<y.val:=fun y hy=>Nat.pos_of_ne_zero fun h0=>hy (Fin.ext (by simpa using h0))
 have hF: ∀i,i<p-1→zt p ((i+1:Nat):Int)≠0:=fun i hi h=>by
  have h1:=zt_val (p:=p) ((i+1:Nat):Int)
  rw [h,Int.emod_eq_of_lt (by omega) (by omega)] at h1
  simp at h1
  omega
 have hne: ∀i,i<p-1→x*zt p ((i+1:Nat):Int)≠0:=fun i hi h=>by
  rcases mul_zero_of hp h with h|h
  ·exact hx h
  ·exact hF i hi h
 have hz: ∀i,i<p-1→(zt p ((i+1:Nat):Int)).val=i+1:=fun i hi=>by
  have h1:=zt_val (p:=p) ((i+1:Nat):Int)
  rw [Int.emod_eq_of_lt (by omega) (by omega)] at h1
  omega
 have key:=fd_perm (· * ·) (1:Fin p) (fun a b c=>by grind) (fun a b=>by grind) (p-1) (fun i=>(x*zt p ((i+1:Nat):Int)).val-1) (fun i=>zt p ((i+1:Nat):Int))
  (fun i hi=>by have:=hv _ (hne i hi);have:=(x*zt p ((i+1:Nat):Int)).isLt;omega)
  (fun i j hi hj h=>by
   try dsimp only at h
   have h1:=hv _ (hne i hi);have h3:=hv _ (hne j hj)
   have:x*zt p ((i+1:Nat):Int)=x*zt p ((j+1:Nat):Int):=Fin.ext (by omega)
   have h4:=congrArg Fin.val (mul_cancel hp hx this)
   rw [hz i hi,hz j hj] at h4
   omega)
 rw [fd_congr _ _ (g:=fun i=>x*zt p ((i+1:Nat):Int)) (fun i hi=>by
  have:=hv _ (hne i hi)
  try dsimp only
  rw [show ((x*zt p ((i+1:Nat):Int)).val-1+1)=(x*zt p ((i+1:Nat):Int)).val by omega,zt_of_val]),fd_pw] at key
 have hnz:=fd_ne_zero hp (p-1) (fun i=>zt p ((i+1:Nat):Int)) hF
 refine mul_cancel hp hnz ?_
 rw [←key]
 grind
def ev:List (Fin p)→Fin p→Fin p
 | [],_=>0
 | c :: t,x=>c+x*ev t x
def qd:List (Fin p)→Fin p→List (Fin p)
 | [],_=> []
 | [_],_=> []
 | _ :: c :: t,r=>ev (c :: t) r :: qd (c :: t) r
theorem qd_length (cs:List (Fin p)) (r:Fin p):(qd cs r).length=cs.length-1:=by
 induction cs with
 | nil=>rfl
 | cons c t ih=>cases t with
  | nil=>rfl
  | cons d t=>simp only [qd,List.length_cons,ih];omega
theorem ev_qd (cs:List (Fin p)) (r x:Fin p):ev cs x-ev cs r=(x-r)*ev (qd cs r) x:=by
 induction cs with
 | nil=>simp only [ev,qd];grind
 | cons c t ih=>cases t with
  | nil=>simp only [ev,qd];grind
  | cons d t=>
   have e1:ev (c :: d :: t) x=c+x*ev (d :: t) x:=rfl
   have e2:ev (c :: d :: t) r=c+r*ev (d :: t) r:=rfl
   have e3:ev (qd (c :: d :: t) r) x=ev (d :: t) r+x*ev (qd (d :: t) r) x:=rfl
   rw [e1,e2,e3]
   grind
theorem qd_zero (cs:List (Fin p)) (r:Fin p) (h: ∀c ∈ qd cs r,c=0) (hr:ev cs r=0): ∀c ∈ cs,c=0:=by
 induction cs with
 | nil=>intro c hc;cases hc
 | cons a t ih=>cases t with
  | nil=>
   intro c hc
   simp only [List.mem_singleton] at hc
   subst hc
   simp only [ev] at hr;grind
  | cons d t=>
   have h1:ev (d :: t) r=0:=h _ (by simp [qd])
   have ht:=ih (fun c hc=>h c (by simp only [qd,List.mem_cons];exact .inr hc)) h1
   intro c hc
   rcases List.mem_cons.1 hc with rfl|hc
   ·have e2:ev (c :: d :: t) r=c+r*ev (d :: t) r:=rfl
    rw [e2,h1] at hr;grind
   ·exact ht c hc
theorem roots_few (hp:Prime p) (rs:List (Fin p)): ∀cs:List (Fin p),rs.Nodup→(∀r ∈ rs,ev cs r=0)→cs.length≤rs.length→ ∀c ∈ cs,c=0:=by
 induction rs with
 | nil=>intro cs _ _ h c hc;have:cs= []:=List.eq_nil_of_length_eq_zero (by simpa using h);subst this;cases hc
 | cons r rs ih=>
  intro cs hnd hr hl
  have hr0:=hr r (by simp)
  refine qd_zero cs r (ih (qd cs r) (List.nodup_cons.1 hnd).2 (fun s hs=>?_) (by rw [qd_length];simp at hl;omega)) hr0
  have hne:s-r≠0:=fun h=>(List.nodup_cons.1 hnd).1 (by
   have:s=r:=by grind
   rw [←this];exact hs)
  have e:=ev_qd cs r s
  rw [hr s (by simp [hs]),hr0] at e
  rcases mul_zero_of hp (show (s-r)*ev (qd cs r) s=0 by rw [←e];grind) with h|h
  ·exact absurd h hne
  ·exact h
theorem ev_append (l:List (Fin p)) (m:List (Fin p)) (x:Fin p):ev (l ++ m) x=ev l x+pw x l.length*ev m x:=by
 induction l with
 | nil=>simp only [List.nil_append,ev,List.length_nil,pw_zero];grind
 | cons c t ih=>simp only [List.cons_append,ev,List.length_cons,pw_succ];rw [ih];grind
theorem ev_zeros (n:Nat) (x:Fin p):ev (List.replicate n 0) x=0:=by
 induction n with
 | zero=>rfl
 | succ n ih=>rw [List.replicate_succ,ev,ih];grind
theorem few_unit_roots (hp:Prime p) (d:Nat) (hd:0<d) (rs:List (Fin p)) (hnd:rs.Nodup) (h: ∀r ∈ rs,pw r d=1):rs.length≤d:=by
 apply Classical.byContradiction
 intro hlt
 have:=roots_few hp rs ((-1:Fin p) :: (List.replicate (d-1) 0 ++ [1])) hnd (fun r hr=>by
  rw [ev,ev_append,ev_zeros,List.length_replicate]
  simp only [ev]
  have e:pw r d=pw r (d-1)*r:=by rw [←pw_succ,Nat.sub_add_cancel hd]
  have:=h r hr
  grind) (by simp;omega) 1 (by simp)
 exact one_ne_zero hp.1 this
theorem non_root (hp:Prime p) (d:Nat) (h0:0<d) (hd:d<p-1): ∃x:Fin p,x≠0∧pw x d≠1:=by
 apply Classical.byContradiction
 intro hno
 have hall: ∀x:Fin p,x≠0→pw x d=1:=fun x hx=>Classical.byContradiction fun h=>hno ⟨x,hx,h⟩
 have hmem: ∀r ∈ (List.range (p-1)).map (fun i=>zt p ((i+1:Nat):Int)),r≠0:=by
  intro r hr
  obtain ⟨i,hi,rfl⟩:=List.mem_map.1 hr
  have hi':=List.mem_range.1 hi
  intro h
  have h1:=zt_val (p:=p) ((i+1:Nat):Int)
  rw [h,Int.emod_eq_of_lt (by omega) (by omega)] at h1
  simp at h1
  omega
 have:=few_unit_roots hp d h0 ((List.range (p-1)).map (fun i=>zt p ((i+1:Nat):Int))) (by
  rw [List.Nodup,List.pairwise_map]
  refine List.Pairwise.imp_of_mem ?_ (List.nodup_range (n:=p-1))
  intro a b ha hb hab h
  have h1:=congrArg (fun z:Fin p=>((z.val:Nat):Int)) h
  try dsimp only at h1
  have ha':=List.mem_range.1 ha
  have hb':=List.mem_range.1 hb
  rw [zt_val,zt_val,Int.emod_eq_of_lt (by omega) (by omega),Int.emod_eq_of_lt (by omega) (by omega)] at h1
  omega) (fun r hr=>hall r (hmem r hr))
 simp at this
 omega
theorem ord_primepow (hp:Prime p) {q e:Nat} (hq:Prime q) (he:0<e) (hd:q^e∣p-1): ∃y:Fin p,Ord y (q^e):=by
 have h2:=hp.1
 have hq2:=hq.1
 obtain ⟨k,hk⟩:=hd
 have hk0:0<k:=Nat.pos_of_ne_zero fun h=>by subst h;omega
 have hqe:0<q^e:=Nat.pow_pos (by omega)
 have hsplit:q^e=q^(e-1)*q:=by rw [←Nat.pow_succ,Nat.succ_eq_add_one,Nat.sub_add_cancel he]
 have hqe1:0<q^(e-1):=Nat.pow_pos (by omega)
 obtain ⟨x,hx,hxn⟩:=non_root hp (q^(e-1)*k) (Nat.mul_pos hqe1 hk0) (by
  rw [hk,hsplit,Nat.mul_assoc]
  refine Nat.mul_lt_mul_of_pos_left ?_ hqe1
  have:2*k≤q*k:=Nat.mul_le_mul_right k hq2
  omega)
 refine ⟨pw x k,lucas hqe ?_ fun r hr hrd=>?_⟩
 ·rw [←pw_mul,Nat.mul_comm,←hk];exact fermat hp x hx
 ·have:r=q:=hr.eq_of_dvd hq (hr.dvd_pow hrd)
  subst this
  rw [hsplit,Nat.mul_div_cancel _ (by omega),←pw_mul,Nat.mul_comm]
  exact hxn
theorem exists_ord (hp:Prime p) (N:Nat):N∣p-1→0<N→ ∃z:Fin p,Ord z N:=by
 induction N using Nat.strongRecOn with
 | _ N ih=>
  intro hd h0
  by_cases h1:N=1
  ·subst h1
   exact ⟨1,by omega,one_pw 1,fun m h0 h1=>by omega⟩
  ·obtain ⟨q,hq,hqN⟩:=prime_factor N (by omega)
   have hq2:=hq.1
   have: ∃e M,N=q^e*M∧ ¬q∣M∧0<e:=by
    have aux: ∀n,0<n→ ∃e M,n=q^e*M∧ ¬q∣M:=by
     intro n
     induction n using Nat.strongRecOn with
     | _ n ihn=>
      intro hn
      by_cases hqn:q∣n
      ·obtain ⟨c,rfl⟩:=hqn
       have hc:0<c:=Nat.pos_of_ne_zero fun h=>by subst h;omega
       obtain ⟨e,M,hM,hnd⟩:=ihn c (by have:2*c≤q*c:=Nat.mul_le_mul_right c hq2;omega) hc
       exact ⟨e+1,M,by rw [hM,Nat.pow_succ];rw [Nat.mul_comm (q^e) q,Nat.mul_assoc],hnd⟩
      ·exact ⟨0,n,by simp,hqn⟩
    obtain ⟨e,M,hM,hnd⟩:=aux N h0
    refine ⟨e,M,hM,hnd,Nat.pos_of_ne_zero fun he=>?_⟩
    subst he
    simp at hM
    exact hnd (hM ▸ hqN)
   obtain ⟨e,M,rfl,hnd,he⟩:=this
   have hqe:0<q^e:=Nat.pow_pos (by omega)
   have hM0:0<M:=Nat.pos_of_ne_zero fun h=>by subst h;simp at h0
   have hsplit:q^e=q^(e-1)*q:=by rw [←Nat.pow_succ,Nat.succ_eq_add_one,Nat.sub_add_cancel he]
   have hqe1:0<q^(e-1):=Nat.pow_pos (by omega)
   have hqe2:2≤q^e:=by rw [hsplit];have:1*2≤q^(e-1)*q:=Nat.mul_le_mul hqe1 hq2;omega
   obtain ⟨z,hz⟩:=ih M (by have:2*M≤q^e*M:=Nat.mul_le_mul_right M hqe2;omega) (Nat.dvd_trans (Nat.dvd_mul_left M _) hd) hM0
   obtain ⟨y,hy⟩:=ord_primepow hp hq he (Nat.dvd_trans (Nat.dvd_mul_right _ M) hd)
   refine ⟨z*y,lucas h0 ?_ fun r hr hrd=>?_⟩
   ·rw [mul_pw,Nat.mul_comm,pw_mul,hz.2.1,one_pw,Nat.mul_comm,pw_mul,hy.2.1,one_pw];grind
   ·have hr2:=hr.1
    rcases hr.dvd_mul hrd with h|h
    ·have:r=q:=hr.eq_of_dvd hq (hr.dvd_pow h)
     subst this
     have e1:r^e*M/r=M*r^(e-1):=by
      rw [hsplit,show r^(e-1)*r*M=r*(M*r^(e-1)) by rw [Nat.mul_comm (r^(e-1)) r,Nat.mul_assoc,Nat.mul_comm (r^(e-1)) M],Nat.mul_div_cancel_left _ (by omega)]
     rw [e1,mul_pw,pw_mul z,hz.2.1,one_pw]
     intro hone
     have:pw y (M*r^(e-1))=1:=by rw [←hone];grind
     have hdv:=hy.dvd.1 this
     rw [hsplit,Nat.mul_comm M] at hdv
     exact hnd (Nat.dvd_of_mul_dvd_mul_left hqe1 hdv)
    ·obtain ⟨c,rfl⟩:=h
     have hc0:0<c:=Nat.pos_of_ne_zero fun h=>by subst h;omega
     have e1:q^e*(r*c)/r=q^e*c:=by rw [Nat.mul_left_comm,Nat.mul_div_cancel_left _ (by omega)]
     rw [e1,mul_pw,pw_mul y,hy.2.1,one_pw]
     intro hone
     have:pw z (q^e*c)=1:=by rw [←hone];grind
     have hdv:=hz.dvd.1 this
     have:r∣q^e:=Nat.dvd_of_mul_dvd_mul_right hc0 hdv
     have:r=q:=hr.eq_of_dvd hq (hr.dvd_pow this)
     subst this
     exact hnd (Nat.dvd_mul_right r c)
theorem primitive (hp:Prime p): ∃g:Fin p,Ord g (p-1):=exists_ord hp (p-1) (Nat.dvd_refl _) (by have:=hp.1;omega)
end
end Go.Proofs.YtmalmijdjhkklaaGreat.Alg
end

section
namespace Go.Proofs.YtmalmijdjhkklaaGreat.Alg
def prodF:List (Nat×Nat)→Nat
 | []=>1
 | x :: t=>x.1^x.2*prodF t
theorem prodF_append (a b:List (Nat×Nat)):prodF (a ++ b)=prodF a*prodF b:=by
 induction a with
 | nil=>simp [prodF]
 | cons x t ih=>simp [prodF,ih,Nat.mul_assoc]
structure IsFac (n:Nat) (fs:List (Nat×Nat)):Prop where
 prod:prodF fs=n
 each: ∀x ∈ fs,Prime x.1∧1≤x.2
 rise:fs.Pairwise (fun x y=>x.1<y.1)
structure FacI (n m d:Nat) (fs:List (Nat×Nat)):Prop where
 prod:prodF fs*m=n
 m1:1≤m
 d2:2≤d
 each: ∀x ∈ fs,Prime x.1∧1≤x.2∧x.1<d
 rise:fs.Pairwise (fun x y=>x.1<y.1)
 big: ∀q,Prime q→q∣m→d≤q
theorem FacI.start (n:Nat) (h:1≤n):FacI n n 2 []:=⟨by simp [prodF],h,by omega,by simp,by simp,fun q hq _=>hq.1⟩
theorem FacI.done {n d:Nat} {fs:List (Nat×Nat)} (h:FacI n 1 d fs):IsFac n fs:=⟨by have:=h.prod;omega,fun x hx=>⟨(h.each x hx).1,(h.each x hx).2.1⟩,h.rise⟩
theorem FacI.le {n m d:Nat} {fs:List (Nat×Nat)} (h:FacI n m d fs) (hn:1≤n):m≤n:=by
 have:=h.prod
 have h0:0<prodF fs:=Nat.pos_of_ne_zero fun e=>by rw [e] at this;omega
 have:1*m≤prodF fs*m:=Nat.mul_le_mul_right m h0
 omega
theorem FacI.prime {n m d:Nat} {fs:List (Nat×Nat)} (h:FacI n m d fs) (hd:d∣m):Prime d:=by
 obtain ⟨q,hq,hqd⟩:=prime_factor d h.d2
 have:=h.big q hq (Nat.dvd_trans hqd hd)
 have:=Nat.le_of_dvd (by have:=h.d2;omega) hqd
 have:q=d:=by omega
 exact this ▸ hq
theorem FacI.last {n m d:Nat} {fs:List (Nat×Nat)} (h:FacI n m d fs) (hm:1<m) (hd:m<d*d):FacI n m m fs:=by
 obtain ⟨q,hq,hqm⟩:=prime_factor m hm
 have hdq:=h.big q hq hqm
 have hdm:d≤m:=by have:=Nat.le_of_dvd (by omega) hqm;omega
 refine ⟨h.prod,h.m1,by omega,fun x hx=>⟨(h.each x hx).1,(h.each x hx).2.1,by have:=(h.each x hx).2.2;omega⟩,h.rise,fun r hr hrm=>?_⟩
 obtain ⟨c,hc⟩:=hrm
 by_cases hc1:c≤1
 ·have:c=1:=by
   rcases Nat.eq_zero_or_pos c with h0|h0
   ·subst h0;omega
   ·omega
  subst this;omega
 ·obtain ⟨s,hs,hsc⟩:=prime_factor c (by omega)
  have h1:=h.big r hr ⟨c,hc⟩
  have h2:=h.big s hs (Nat.dvd_trans hsc ⟨r,by rw [hc,Nat.mul_comm]⟩)
  have h3:=Nat.le_of_dvd (by omega) hsc
  have:d*d≤r*c:=Nat.mul_le_mul h1 (by omega)
  omega
theorem FacI.d_le {n m d:Nat} {fs:List (Nat×Nat)} (h:FacI n m d fs) (hm:1<m):d≤m:=by
 obtain ⟨q,hq,hqm⟩:=prime_factor m hm
 have:=h.big q hq hqm
 have:=Nat.le_of_dvd (by omega) hqm
 omega
theorem FacI.skip {n m d:Nat} {fs:List (Nat×Nat)} (h:FacI n m d fs) (hd: ¬d∣m):FacI n m (d+1) fs:=
 ⟨h.prod,h.m1,by have:=h.d2;omega,fun x hx=>⟨(h.each x hx).1,(h.each x hx).2.1,by have:=(h.each x hx).2.2;omega⟩,h.rise,fun q hq hqm=>by
  have:=h.big q hq hqm
  have:q≠d:=fun e=>hd (e ▸ hqm)
  omega⟩
theorem FacI.take {n m d k e:Nat} {fs:List (Nat×Nat)} (h:FacI n m d fs) (he:1≤e) (hk:k*d^e=m) (hd: ¬d∣k):FacI n k (d+1) (fs ++ [(d,e)]):=by
 have hp:Prime d:=h.prime ⟨k*d^(e-1),by
  rw [←hk,show d^e=d^(e-1)*d by rw [←Nat.pow_succ,Nat.succ_eq_add_one,Nat.sub_add_cancel he]]
  rw [←Nat.mul_assoc,Nat.mul_comm]⟩
 have hk0:k≠0:=fun e0=>by subst e0;have:=h.m1;omega
 refine ⟨by rw [prodF_append];simp only [prodF,Nat.mul_one];rw [Nat.mul_assoc,Nat.mul_comm (d^e),hk];exact h.prod,by omega,by have:=h.d2;omega,fun x hx=>?_,?_,fun q hq hqk=>?_⟩
 ·rcases List.mem_append.1 hx with hx|hx
  ·have:=h.each x hx;exact ⟨this.1,this.2.1,by omega⟩
  ·simp only [List.mem_singleton] at hx;subst hx;exact ⟨hp,he,by simp⟩
 ·rw [List.pairwise_append]
  refine ⟨h.rise,by simp,fun a ha b hb=>?_⟩
  simp only [List.mem_singleton] at hb;subst hb
  exact (h.each a ha).2.2
 ·have:=h.big q hq (Nat.dvd_trans hqk ⟨d^e,hk.symm⟩)
  have:q≠d:=fun e=>hd (e ▸ hqk)
  omega
theorem len_le {n:Nat} {fs:List (Nat×Nat)} (h: ∀x ∈ fs,Prime x.1∧1≤x.2) (hp:prodF fs≤n):2^fs.length≤n:=by
 have:2^fs.length≤prodF fs:=by
  clear hp
  induction fs with
  | nil=>simp [prodF]
  | cons x t ih=>
   have hx:=h x (by simp)
   have:2^1≤x.1^x.2:=Nat.le_trans (Nat.pow_le_pow_left hx.1.1 1) (Nat.pow_le_pow_right (by have:=hx.1.1;omega) hx.2)
   rw [List.length_cons,Nat.pow_succ,prodF,Nat.mul_comm]
   exact Nat.mul_le_mul (by omega) (ih fun y hy=>h y (by simp [hy]))
 omega
theorem FacI.len {n m d:Nat} {fs:List (Nat×Nat)} (h:FacI n m d fs) (hn1:1≤n) (hn:n≤4294967296):fs.length≤32:=by
 have hp:=h.prod
 have hm:=h.m1
 have:prodF fs*1≤prodF fs*m:=Nat.mul_le_mul_left _ hm
 have:=len_le (n:=4294967296) (fun x hx=>⟨(h.each x hx).1,(h.each x hx).2.1⟩) (by omega)
 exact (Nat.pow_le_pow_iff_right (a:=2) (by omega)).1 (show 2^fs.length≤2^32 by omega)
theorem IsFac.dvd {n:Nat} {fs:List (Nat×Nat)} (h:IsFac n fs) {x:Nat×Nat} (hx:x ∈ fs):x.1∣n:=by
 rw [←h.prod]
 have he:=(h.each x hx).2
 clear h
 induction fs with
 | nil=>cases hx
 | cons y t ih=>
  simp only [prodF]
  rcases List.mem_cons.1 hx with rfl|hx
  ·refine Nat.dvd_trans ?_ (Nat.dvd_mul_right _ _)
   exact ⟨x.1^(x.2-1),by rw [Nat.mul_comm,←Nat.pow_succ,Nat.succ_eq_add_one,Nat.sub_add_cancel he]⟩
  ·exact Nat.dvd_trans (ih hx) (Nat.dvd_mul_left _ _)
theorem IsFac.mem {n:Nat} {fs:List (Nat×Nat)} (h:IsFac n fs) {q:Nat} (hq:Prime q) (hd:q∣n): ∃e,(q,e) ∈ fs:=by
 rw [←h.prod] at hd
 have he:=h.each
 clear h
 induction fs with
 | nil=>simp only [prodF] at hd;have:=Nat.le_of_dvd (by omega) hd;have:=hq.1;omega
 | cons y t ih=>
  simp only [prodF] at hd
  rcases hq.dvd_mul hd with h|h
  ·have:=hq.eq_of_dvd (he y (by simp)).1 (hq.dvd_pow h)
   exact ⟨y.2,by subst this;simp⟩
  ·obtain ⟨e,he'⟩:=ih h (fun x hx=>he x (by simp [hx]))
   exact ⟨e,by simp [he']⟩
theorem IsFac.prime_iff {n:Nat} {fs:List (Nat×Nat)} (h:IsFac n fs) (hn:2≤n):Prime n↔fs.length=1∧ ∀x ∈ fs,x.2=1:=by
 constructor
 ·intro hp
  have hall: ∀x ∈ fs,x.1=n:=fun x hx=>(h.each x hx).1.eq_of_dvd hp (h.dvd hx)
  match fs,h,hall with
  | [],h,_=>have:=h.prod;simp [prodF] at this;omega
  | [x],h,hall=>
   refine ⟨rfl,fun y hy=>?_⟩
   simp only [List.mem_singleton] at hy;subst hy
   have hp2:=h.prod
   have hx:=hall y (by simp)
   have hy2:=(h.each y (by simp)).2
   simp only [prodF,Nat.mul_one] at hp2
   rw [hx] at hp2
   have h3:n^y.2≤n^1:=by rw [Nat.pow_one,hp2];exact Nat.le_refl _
   have:=(Nat.pow_le_pow_iff_right (a:=n) (by omega)).1 h3
   omega
  | x :: y :: t,h,hall=>
   have hr:=(List.pairwise_cons.1 h.rise).1 y (by simp)
   have h1:=hall x (by simp)
   have h2:=hall y (by simp)
   omega
 ·rintro ⟨hl,he⟩
  match fs,h,hl,he with
  | [x],h,_,he=>
   have hp:=h.prod
   have h1:=he x (by simp)
   simp only [prodF,h1,Nat.pow_one,Nat.mul_one] at hp
   exact hp ▸ (h.each x (by simp)).1
end Go.Proofs.YtmalmijdjhkklaaGreat.Alg
end

section
namespace Go.Proofs.YtmalmijdjhkklaaGreat.Alg
def GenOk (p g:Nat):Prop:= ∀q,Prime q→q∣p-1→((g:Int)^((p-1)/q))%(p:Int)≠1
def IsGen (p g:Nat):Prop:=2≤g∧GenOk p g∧ ∀h,2≤h→h<g→ ¬GenOk p h
theorem IsGen.unique {p g h:Nat} (a:IsGen p g) (b:IsGen p h):g=h:=by
 rcases Nat.lt_trichotomy g h with h1|h1|h1
 ·exact absurd a.2.1 (b.2.2 g a.1 h1)
 ·exact h1
 ·exact absurd b.2.1 (a.2.2 h b.1 h1)
theorem zt_pow_one {p:Nat} [NeZero p] (hp:2≤p) (g k:Nat):((g:Int)^k)%(p:Int)=1↔pw (zt p g) k=1:=by
 rw [←zt_pow,←zt_one,zt_eq,Int.emod_eq_of_lt (show (0:Int)≤1 by omega) (by omega)]
theorem GenOk.ord {p g:Nat} [NeZero p] (hp:Prime p) (h:GenOk p g) (hg:zt p g≠0):Ord (zt p g) (p-1):=by
 have h2:=hp.1
 refine lucas (by omega) (fermat hp _ hg) fun q hq hqd hone=>?_
 exact h q hq hqd ((zt_pow_one h2 g _).2 hone)
theorem GenOk.of_ord {p g:Nat} [NeZero p] (hp:2≤p) (h:Ord (zt p g) (p-1)):GenOk p g:=by
 intro q hq hqd hone
 have h1:=(zt_pow_one hp g _).1 hone
 have hd:=h.dvd.1 h1
 have hq2:=hq.1
 have hlt:(p-1)/q<p-1:=Nat.div_lt_self (by have:=h.1;omega) hq2
 have hpos:0<(p-1)/q:=Nat.div_pos (Nat.le_of_dvd h.1 hqd) (by omega)
 have:=Nat.le_of_dvd hpos hd
 omega
theorem gen_bound {p:Nat} (hp:Prime p) (h3:3≤p): ∃r,2≤r∧r<p∧GenOk p r:=by
 haveI:NeZero p:=⟨by omega⟩
 obtain ⟨g,hg⟩:=primitive hp
 have hz:zt p ((g.val:Nat):Int)=g:=zt_of_val g
 refine ⟨g.val,?_,g.isLt,GenOk.of_ord hp.1 (by rw [hz];exact hg)⟩
 rcases Nat.lt_or_ge g.val 2 with h|h
 ·exfalso
  rcases Nat.lt_or_ge g.val 1 with h1|h1
  ·have hg0:g=0:=Fin.ext (by show g.val=0%p;rw [Nat.zero_mod];omega)
   have h2:=hg.2.1
   rw [hg0,show p-1=(p-2)+1 by omega,pw_succ] at h2
   exact one_ne_zero hp.1 (by rw [←h2];grind)
  ·have hg1:g=1:=Fin.ext (by show g.val=1%p;rw [Nat.mod_eq_of_lt (by omega)];omega)
   exact hg.2.2 1 (by omega) (by omega) (by rw [hg1,one_pw])
 ·exact h
theorem IsGen.lt {p g:Nat} (hp:Prime p) (h3:3≤p) (h:IsGen p g):g<p:=by
 obtain ⟨r,hr2,hrp,hr⟩:=gen_bound hp h3
 rcases Nat.lt_or_ge r g with h1|h1
 ·exact absurd hr (h.2.2 r hr2 h1)
 ·omega
theorem IsGen.ord {p g:Nat} [NeZero p] (hp:Prime p) (h3:3≤p) (h:IsGen p g):Ord (zt p g) (p-1):=by
 refine h.2.1.ord hp fun h0=>?_
 have h1:=zt_val (p:=p) (g:Int)
 rw [h0,Int.emod_eq_of_lt (by omega) (by have:=h.lt hp h3;omega)] at h1
 have:=h.1
 simp at h1
 omega
theorem test_iff {p g:Nat} {fs:List (Nat×Nat)} (hf:IsFac (p-1) fs):fs.any (fun x=>(g:Int)^(((p:Int)-1)/x.1).toNat%(p:Int) == 1)=false↔(1≤p→GenOk p g):=by
 have e: ∀x:Nat,1≤p→(((p:Int)-1)/(x:Int)).toNat=(p-1)/x:=fun x h1=>by
  have:((p:Int)-1)/(x:Int)=(((p-1)/x:Nat):Int):=by
   rw [Int.natCast_ediv];congr 1;omega
  rw [this];rfl
 rw [Bool.eq_false_iff]
 constructor
 ·intro h h1 q hq hqd hone
  obtain ⟨k,hk⟩:=hf.mem hq hqd
  exact h (List.any_eq_true.2 ⟨(q,k),hk,by simp only [e _ h1];simpa using hone⟩)
 ·intro h hany
  obtain ⟨x,hx,ht⟩:=List.any_eq_true.1 hany
  have h1:1≤p:=by
   rcases Nat.eq_zero_or_pos p with h0|h0
   ·subst h0
    have:=hf.prod
    have hd:=hf.dvd hx
    have hm:=(hf.each x hx).1.1
    exfalso
    have hp0: ∀l:List (Nat×Nat),(∀y ∈ l,Prime y.1∧1≤y.2)→1≤prodF l:=by
     intro l
     induction l with
     | nil=>intro _;simp [prodF]
     | cons y t ih=>
      intro hl
      have:=(hl y (by simp)).1.1
      exact Nat.mul_le_mul (Nat.pow_pos (by omega)) (ih fun z hz=>hl z (by simp [hz]))
    have:=hp0 fs hf.each
    omega
   ·exact h0
  exact h h1 x.1 (hf.each x hx).1 (hf.dvd hx) (by simp only [e _ h1] at ht;simpa using ht)
end Go.Proofs.YtmalmijdjhkklaaGreat.Alg
end

section
namespace Go.Proofs.YtmalmijdjhkklaaGreat.Alg
def dsum (t:Nat→Nat) (f:Nat):Nat→Nat→Nat:=
 Nat.rec (motive:=fun _=>Nat→Nat→Nat) (fun _ _=>99) (fun _ ih n d=>bif Nat.ble (d*d) n then (bif Nat.beq (n%d) 0 then (bif Nat.beq (n/d%d) 0 then ih (n/d) d else t d+ih (n/d) (d+1+d%2)) else ih n (d+1+d%2)) else (bif Nat.ble n 1 then 0 else t n)) f
def cnt (f:Nat):Nat→Nat:=
 Nat.rec (motive:=fun _=>Nat→Nat) (fun _=>99) (fun _ ih p=>bif Nat.beq p 2 then 0 else 1+dsum ih 160 (p-1) 2) f
theorem dsum_succ (t:Nat→Nat) (f n d:Nat):dsum t (f+1) n d=bif Nat.ble (d*d) n then (bif Nat.beq (n%d) 0 then (bif Nat.beq (n/d%d) 0 then dsum t f (n/d) d else t d+dsum t f (n/d) (d+1+d%2)) else dsum t f n (d+1+d%2)) else (bif Nat.ble n 1 then 0 else t n):=rfl
theorem cnt_succ (f p:Nat):cnt (f+1) p=bif Nat.beq p 2 then 0 else 1+dsum (cnt f) 160 (p-1) 2:=rfl
theorem next_prime {d q:Nat} (hd:d=2∨(3≤d∧d%2=1)) (hq:Prime q) (h:d<q):d+1+d%2≤q:=by
 rcases hd with rfl|⟨h3,ho⟩
 ·omega
 ·rcases Nat.lt_or_ge q (d+1+d%2) with h'|h'
  ·have:q=d+1:=by omega
   have h2:2∣q:=by omega
   rcases hq.2 2 h2 with h1|h1 <;> omega
  ·exact h'
theorem dsum_eq (t:Nat→Nat) (f:Nat): ∀n d:Nat,1≤n→(d=2∨(3≤d∧d%2=1))→(∀q,Prime q→q∣n→d≤q)→dsum t f n d<99→
  ∃L:List Nat,L.Nodup∧(∀q,q ∈ L↔Prime q∧q∣n)∧dsum t f n d=(L.map t).sum:=by
 induction f with
 | zero=>intro n d _ _ _ h;have h':99<99:=h;omega
 | succ f ih=>
  intro n d hn hd hq h
  have hd2:2≤d:=by omega
  rw [dsum_succ] at h ⊢
  cases hb:Nat.ble (d*d) n with
  | false=>
   have hlt:n<d*d:=by
    rcases Nat.lt_or_ge n (d*d) with h'|h'
    ·exact h'
    ·rw [Nat.ble_eq_true_of_le h'] at hb;cases hb
   rw [hb] at h
   simp only [cond_false] at h ⊢
   cases h1:Nat.ble n 1 with
   | true=>
    have:n=1:=by have:=Nat.le_of_ble_eq_true h1;omega
    subst this
    refine ⟨[],List.nodup_nil,fun q=>⟨fun h=>absurd h (by simp),fun h=>?_⟩,by simp⟩
    have:=Nat.dvd_one.1 h.2
    have:=h.1.1
    omega
   | false=>
    have hn2:2≤n:=by
     rcases Nat.lt_or_ge 1 n with h'|h'
     ·exact h'
     ·rw [Nat.ble_eq_true_of_le h'] at h1;cases h1
    have hp:Prime n:=by
     refine ⟨hn2,fun e he=>?_⟩
     rcases Nat.eq_or_lt_of_le (Nat.pos_of_dvd_of_pos he (by omega)) with e1|e1
     ·exact .inl e1.symm
     ·right
      obtain ⟨k,hk⟩:=he
      rcases Nat.lt_or_ge 1 k with hk1|hk1
      ·obtain ⟨q1,hp1,hd1⟩:=prime_factor e (by omega)
       obtain ⟨q2,hp2,hd2'⟩:=prime_factor k (by omega)
       have a1:=hq q1 hp1 (hk ▸ Nat.dvd_trans hd1 (Nat.dvd_mul_right e k))
       have a2:=hq q2 hp2 (hk ▸ Nat.dvd_trans hd2' (Nat.dvd_mul_left k e))
       have b1:=Nat.le_of_dvd (by omega) hd1
       have b2:=Nat.le_of_dvd (by omega) hd2'
       have:d*d≤e*k:=Nat.mul_le_mul (by omega) (by omega)
       omega
      ·have:k=1:=by
        rcases Nat.eq_zero_or_pos k with h0|h0
        ·subst h0;omega
        ·omega
       subst this;omega
    refine ⟨[n],by simp,fun q=>⟨fun h=>?_,fun h=>?_⟩,by simp⟩
    ·rw [List.mem_singleton.1 h];exact ⟨hp,Nat.dvd_refl n⟩
    ·exact List.mem_singleton.2 (h.1.eq_of_dvd hp h.2)
  | true=>
   have hle:d*d≤n:=Nat.le_of_ble_eq_true hb
   rw [hb] at h
   simp only [cond_true] at h ⊢
   have hd':d+1+d%2=2∨(3≤d+1+d%2∧(d+1+d%2)%2=1):=by omega
   cases h1:Nat.beq (n%d) 0 with
   | false=>
    have hnd: ¬d∣n:=fun hx=>by rw [Nat.mod_eq_zero_of_dvd hx] at h1;cases h1
    rw [h1] at h
    simp only [cond_false] at h ⊢
    exact ih n _ hn hd' (fun q hp hdv=>next_prime hd hp (by
     have:=hq q hp hdv
     rcases Nat.eq_or_lt_of_le this with e|e
     ·subst e;exact absurd hdv hnd
     ·exact e)) h
   | true=>
    have hdv:d∣n:=Nat.dvd_of_mod_eq_zero (Nat.eq_of_beq_eq_true h1)
    have hdp:Prime d:=by
     obtain ⟨q,hp,hqd⟩:=prime_factor d hd2
     have:=hq q hp (Nat.dvd_trans hqd hdv)
     have:=Nat.le_of_dvd (by omega) hqd
     have:q=d:=by omega
     exact this ▸ hp
    have hnd:d*(n/d)=n:=Nat.mul_div_cancel' hdv
    have hn1:1≤n/d:=Nat.div_pos (by have:=Nat.le_of_dvd (by omega) hdv;omega) (by omega)
    have hdiv:n/d∣n:=⟨d,by rw [Nat.mul_comm];exact hnd.symm⟩
    have hsp: ∀q,Prime q→q∣n→q=d∨q∣n/d:=fun q hp hx=>by
     rcases hp.dvd_mul (show q∣d*(n/d) by rw [hnd];exact hx) with h|h
     ·exact .inl (hp.eq_of_dvd hdp h)
     ·exact .inr h
    rw [h1] at h
    simp only [cond_true] at h ⊢
    cases h2:Nat.beq (n/d%d) 0 with
    | true=>
     have hdd:d∣n/d:=Nat.dvd_of_mod_eq_zero (Nat.eq_of_beq_eq_true h2)
     rw [h2] at h
     simp only [cond_true] at h ⊢
     obtain ⟨L,a,b,c⟩:=ih (n/d) d hn1 hd (fun q hp hx=>hq q hp (Nat.dvd_trans hx hdiv)) h
     refine ⟨L,a,fun q=>(b q).trans ⟨fun hx=>⟨hx.1,Nat.dvd_trans hx.2 hdiv⟩,fun hx=>⟨hx.1,?_⟩⟩,c⟩
     rcases hsp q hx.1 hx.2 with e|e
     ·rw [e];exact hdd
     ·exact e
    | false=>
     have hdd: ¬d∣n/d:=fun hx=>by rw [Nat.mod_eq_zero_of_dvd hx] at h2;cases h2
     rw [h2] at h
     simp only [cond_false] at h ⊢
     obtain ⟨L,a,b,c⟩:=ih (n/d) _ hn1 hd' (fun q hp hx=>next_prime hd hp (by
      have:=hq q hp (Nat.dvd_trans hx hdiv)
      rcases Nat.eq_or_lt_of_le this with e|e
      ·subst e;exact absurd hx hdd
      ·exact e)) (by omega)
     refine ⟨d :: L,List.nodup_cons.2 ⟨fun hx=>hdd ((b d).1 hx).2,a⟩,fun q=>⟨fun hx=>?_,fun hx=>?_⟩,by rw [List.map_cons,List.sum_cons,c]⟩
     ·rcases List.mem_cons.1 hx with e|e
      ·rw [e];exact ⟨hdp,hdv⟩
      ·exact ⟨((b q).1 e).1,Nat.dvd_trans ((b q).1 e).2 hdiv⟩
     ·rcases hsp q hx.1 hx.2 with e|e
      ·exact List.mem_cons.2 (.inl e)
      ·exact List.mem_cons.2 (.inr ((b q).2 ⟨hx.1,e⟩))
theorem perm_of_mem {α:Type} [DecidableEq α] {a b:List α} (ha:a.Nodup) (hb:b.Nodup) (h: ∀x,x ∈ a↔x ∈ b):a.Perm b:=by
 rw [List.perm_iff_count]
 intro x
 rw [ha.count,hb.count]
 by_cases hx:x ∈ a
 ·rw [if_pos hx,if_pos ((h x).1 hx)]
 ·rw [if_neg hx,if_neg (fun k=>hx ((h x).2 k))]
theorem perm_sum {a b:List Nat} (h:a.Perm b):a.sum=b.sum:=by
 induction h with
 | nil=>rfl
 | cons x _ ih=>simp only [List.sum_cons,ih]
 | swap x y l=>simp only [List.sum_cons];omega
 | trans _ _ h1 h2=>rw [h1,h2]
theorem cnt_fac {f p:Nat} {fs:List (Nat×Nat)} (hp:3≤p) (hf:IsFac (p-1) fs) (h:cnt (f+1) p<99):cnt (f+1) p=1+((fs.map (·.1)).map (cnt f)).sum:=by
 have hp2:Nat.beq p 2=false:=by
  cases hb:Nat.beq p 2 with
  | false=>rfl
  | true=>have:=Nat.eq_of_beq_eq_true hb;omega
 rw [cnt_succ,hp2,cond_false] at h ⊢
 obtain ⟨L,a,b,c⟩:=dsum_eq (cnt f) 160 (p-1) 2 (by omega) (.inl rfl) (fun q hq _=>hq.1) (by omega)
 rw [c]
 have hnd:(fs.map (·.1)).Nodup:=by
  exact List.Pairwise.map (R:=fun x y:Nat×Nat=>x.1<y.1) _ (fun x y hx=>by omega) hf.rise
 have:=perm_of_mem a hnd (fun q=>by
  rw [b q]
  constructor
  ·rintro ⟨hq,hd⟩
   obtain ⟨e,he⟩:=hf.mem hq hd
   exact List.mem_map.2 ⟨(q,e),he,rfl⟩
  ·intro hx
   obtain ⟨y,hy,rfl⟩:=List.mem_map.1 hx
   exact ⟨(hf.each y hy).1,hf.dvd hy⟩)
 rw [perm_sum (this.map (cnt f))]
def allC (k:Nat):Nat→Bool:=
 Nat.rec (motive:=fun _=>Nat→Bool) (fun _=>true) (fun _ ih p=>bif Nat.ble (cnt 16 p) 12 then ih (p+2) else false) k
theorem allC_ok (k:Nat): ∀p,allC k p=true→ ∀q,p≤q→q<p+2*k→q%2=p%2→cnt 16 q≤12:=by
 induction k with
 | zero=>intro p _ q h1 h2;omega
 | succ k ih=>
  intro p h q h1 h2 h3
  have h':(bif Nat.ble (cnt 16 p) 12 then allC k (p+2) else false)=true:=h
  cases hb:Nat.ble (cnt 16 p) 12 with
  | false=>rw [hb] at h';cases h'
  | true=>
   rw [hb,cond_true] at h'
   by_cases e:q=p
   ·rw [e];exact Nat.le_of_ble_eq_true hb
   ·exact ih (p+2) h' q (by omega) (by omega) (by omega)
theorem allC0:allC 1024 3=true:=by decide +kernel
theorem allC1:allC 1024 2051=true:=by decide +kernel
theorem allC2:allC 1024 4099=true:=by decide +kernel
theorem allC3:allC 1024 6147=true:=by decide +kernel
theorem allC4:allC 1024 8195=true:=by decide +kernel
theorem allC5:allC 1024 10243=true:=by decide +kernel
theorem allC6:allC 1024 12291=true:=by decide +kernel
theorem allC7:allC 1024 14339=true:=by decide +kernel
theorem allC8:allC 1024 16387=true:=by decide +kernel
theorem allC9:allC 1024 18435=true:=by decide +kernel
theorem allC10:allC 1024 20483=true:=by decide +kernel
theorem allC11:allC 1024 22531=true:=by decide +kernel
theorem allC12:allC 1024 24579=true:=by decide +kernel
theorem allC13:allC 1024 26627=true:=by decide +kernel
theorem allC14:allC 1024 28675=true:=by decide +kernel
theorem allC15:allC 1024 30723=true:=by decide +kernel
theorem allC16:allC 1024 32771=true:=by decide +kernel
theorem allC17:allC 1024 34819=true:=by decide +kernel
theorem allC18:allC 1024 36867=true:=by decide +kernel
theorem allC19:allC 1024 38915=true:=by decide +kernel
theorem allC20:allC 1024 40963=true:=by decide +kernel
theorem allC21:allC 1024 43011=true:=by decide +kernel
theorem allC22:allC 1024 45059=true:=by decide +kernel
theorem allC23:allC 1024 47107=true:=by decide +kernel
theorem allC24:allC 1024 49155=true:=by decide +kernel
theorem allC25:allC 1024 51203=true:=by decide +kernel
theorem allC26:allC 1024 53251=true:=by decide +kernel
theorem allC27:allC 1024 55299=true:=by decide +kernel
theorem allC28:allC 1024 57347=true:=by decide +kernel
theorem allC29:allC 1024 59395=true:=by decide +kernel
theorem allC30:allC 1024 61443=true:=by decide +kernel
theorem allC31:allC 1024 63491=true:=by decide +kernel
theorem cnt_le {p:Nat} (h3:3≤p) (hp:p≤65536) (ho:p%2=1):cnt 16 p≤12:=by
 rcases (show (3≤p∧p<2051)∨(2051≤p∧p<4099)∨(4099≤p∧p<6147)∨(6147≤p∧p<8195)∨(8195≤p∧p<10243)∨(10243≤p∧p<12291)∨(12291≤p∧p<14339)∨(14339≤p∧p<16387)∨(16387≤p∧p<18435)∨(18435≤p∧p<20483)∨(20483≤p∧p<22531)∨(22531≤p∧p<24579)∨(24579≤p∧p<26627)∨(26627≤p∧p<28675)∨(28675≤p∧p<30723)∨(30723≤p∧p<32771)∨(32771≤p∧p<34819)∨(34819≤p∧p<36867)∨(36867≤p∧p<38915)∨(38915≤p∧p<40963)∨(40963≤p∧p<43011)∨(43011≤p∧p<45059)∨(45059≤p∧p<47107)∨(47107≤p∧p<49155)∨(49155≤p∧p<51203)∨(51203≤p∧p<53251)∨(53251≤p∧p<55299)∨(55299≤p∧p<57347)∨(57347≤p∧p<59395)∨(59395≤p∧p<61443)∨(61443≤p∧p<63491)∨(63491≤p∧p<65539) by omega) with h|h|h|h|h|h|h|h|h|h|h|h|h|h|h|h|h|h|h|h|h|h|h|h|h|h|h|h|h|h|h|h
 ·exact allC_ok 1024 3 allC0 p h.1 h.2 (by omega)
 ·exact allC_ok 1024 2051 allC1 p h.1 h.2 (by omega)
 ·exact allC_ok 1024 4099 allC2 p h.1 h.2 (by omega)
 ·exact allC_ok 1024 6147 allC3 p h.1 h.2 (by omega)
 ·exact allC_ok 1024 8195 allC4 p h.1 h.2 (by omega)
 ·exact allC_ok 1024 10243 allC5 p h.1 h.2 (by omega)
 ·exact allC_ok 1024 12291 allC6 p h.1 h.2 (by omega)
 ·exact allC_ok 1024 14339 allC7 p h.1 h.2 (by omega)
 ·exact allC_ok 1024 16387 allC8 p h.1 h.2 (by omega)
 ·exact allC_ok 1024 18435 allC9 p h.1 h.2 (by omega)
 ·exact allC_ok 1024 20483 allC10 p h.1 h.2 (by omega)
 ·exact allC_ok 1024 22531 allC11 p h.1 h.2 (by omega)
 ·exact allC_ok 1024 24579 allC12 p h.1 h.2 (by omega)
 ·exact allC_ok 1024 26627 allC13 p h.1 h.2 (by omega)
 ·exact allC_ok 1024 28675 allC14 p h.1 h.2 (by omega)
 ·exact allC_ok 1024 30723 allC15 p h.1 h.2 (by omega)
 ·exact allC_ok 1024 32771 allC16 p h.1 h.2 (by omega)
 ·exact allC_ok 1024 34819 allC17 p h.1 h.2 (by omega)
 ·exact allC_ok 1024 36867 allC18 p h.1 h.2 (by omega)
 ·exact allC_ok 1024 38915 allC19 p h.1 h.2 (by omega)
 ·exact allC_ok 1024 40963 allC20 p h.1 h.2 (by omega)
 ·exact allC_ok 1024 43011 allC21 p h.1 h.2 (by omega)
 ·exact allC_ok 1024 45059 allC22 p h.1 h.2 (by omega)
 ·exact allC_ok 1024 47107 allC23 p h.1 h.2 (by omega)
 ·exact allC_ok 1024 49155 allC24 p h.1 h.2 (by omega)
 ·exact allC_ok 1024 51203 allC25 p h.1 h.2 (by omega)
 ·exact allC_ok 1024 53251 allC26 p h.1 h.2 (by omega)
 ·exact allC_ok 1024 55299 allC27 p h.1 h.2 (by omega)
 ·exact allC_ok 1024 57347 allC28 p h.1 h.2 (by omega)
 ·exact allC_ok 1024 59395 allC29 p h.1 h.2 (by omega)
 ·exact allC_ok 1024 61443 allC30 p h.1 h.2 (by omega)
 ·exact allC_ok 1024 63491 allC31 p h.1 h.2 (by omega)
end Go.Proofs.YtmalmijdjhkklaaGreat.Alg
end

section
namespace Go.Proofs.YtmalmijdjhkklaaGreat.Alg
section
variable {p:Nat} [NeZero p]
def dft (w:Fin p) (n:Nat) (a:Nat→Fin p) (i:Nat):Fin p:=sm n fun j=>pw w (i*j)*a j
theorem dft_congr {w:Fin p} {n:Nat} {a b:Nat→Fin p} (h: ∀j,j<n→a j=b j) (i:Nat):dft w n a i=dft w n b i:=
 sm_congr fun j hj=>by rw [h j hj]
theorem dft_one (w:Fin p) (a:Nat→Fin p) (i:Nat):dft w 1 a i=a 0:=by
 unfold dft
 rw [sm_succ,sm_zero,Nat.mul_zero,pw_zero];grind
theorem dft_period {w:Fin p} {n:Nat} (h:pw w n=1) (a:Nat→Fin p) (i k:Nat):dft w n a (i+n*k)=dft w n a i:=
 sm_congr fun j _=>by
  rw [Nat.add_mul,pw_add,Nat.mul_assoc,pw_mul w n,h,one_pw];grind
theorem sm_double (n:Nat) (f:Nat→Fin p):sm (2*n) f=sm n (fun i=>f (2*i))+sm n (fun i=>f (2*i+1)):=by
 induction n with
 | zero=>rw [Nat.mul_zero,sm_zero,sm_zero,sm_zero];grind
 | succ n ih=>rw [show 2*(n+1)=2*n+1+1 by omega,sm_succ,sm_succ,sm_succ,sm_succ,ih];grind
theorem sm_quad (n:Nat) (f:Nat→Fin p):sm (4*n) f=sm n (fun i=>f (4*i))+sm n (fun i=>f (4*i+1))+sm n (fun i=>f (4*i+2))+sm n (fun i=>f (4*i+3)):=by
 induction n with
 | zero=>rw [Nat.mul_zero,sm_zero,sm_zero,sm_zero,sm_zero,sm_zero];grind
 | succ n ih=>rw [show 4*(n+1)=4*n+1+1+1+1 by omega,sm_succ,sm_succ,sm_succ,sm_succ,sm_succ,sm_succ,sm_succ,sm_succ,ih];grind
theorem pw_two (w:Fin p) (k:Nat):pw w (2*k)=pw (w*w) k:=by rw [pw_mul];congr 1;rw [pw_succ,pw_one]
theorem pw_four (w:Fin p) (k:Nat):pw w (4*k)=pw (pw w 4) k:=pw_mul w 4 k
theorem dft_even_odd (w:Fin p) (m:Nat) (a:Nat→Fin p) (i:Nat):dft w (2*m) a i=dft (w*w) m (fun j=>a (2*j)) i+pw w i*dft (w*w) m (fun j=>a (2*j+1)) i:=by
 unfold dft
 rw [sm_double,←sm_mul]
 congr 1
 ·exact sm_congr fun j _=>by rw [show i*(2*j)=2*(i*j) by rw [Nat.mul_left_comm],pw_two]
 ·exact sm_congr fun j _=>by
   rw [show i*(2*j+1)=i+2*(i*j) by rw [Nat.mul_add,Nat.mul_left_comm,Nat.mul_one];omega,pw_add,pw_two];grind
theorem dft_up_low (w:Fin p) (m:Nat) (a:Nat→Fin p) (i:Nat):dft w (2*m) a i=dft (w*w) m (fun j=>a (2*j)) i+pw w i*dft (w*w) m (fun j=>a (2*j+1)) i:=dft_even_odd w m a i
theorem dft_up_high {w:Fin p} {m:Nat} (hm:pw w m= -1) (a:Nat→Fin p) (i:Nat):dft w (2*m) a (i+m)=dft (w*w) m (fun j=>a (2*j)) i-pw w i*dft (w*w) m (fun j=>a (2*j+1)) i:=by
 have h1:pw (w*w) m=1:=by rw [mul_pw,hm];grind
 have e:=fun b=>dft_period h1 b i 1
 simp only [Nat.mul_one] at e
 rw [dft_even_odd,e,e,pw_add,hm];grind
theorem dft_down_even {w:Fin p} {m:Nat} (hm:pw w m= -1) (a:Nat→Fin p) (i:Nat):dft w (2*m) a (2*i)=dft (w*w) m (fun j=>a j+a (j+m)) i:=by
 unfold dft
 rw [Nat.two_mul m,sm_split,←sm_add]
 refine sm_congr fun j _=>?_
 have h1:pw w (2*i*(m+j))=pw w (2*i*j):=by
  rw [Nat.mul_add,pw_add,show 2*i*m=m*(2*i) by rw [Nat.mul_comm],pw_mul w m,hm,pw_two,show (-1:Fin p)* -1=1 by grind,one_pw];grind
 rw [h1,show 2*i*j=2*(i*j) by rw [Nat.mul_assoc],pw_two,Nat.add_comm m j];grind
theorem dft_down_odd {w:Fin p} {m:Nat} (hm:pw w m= -1) (a:Nat→Fin p) (i:Nat):dft w (2*m) a (2*i+1)=dft (w*w) m (fun j=>pw w j*(a j-a (j+m))) i:=by
 unfold dft
 rw [Nat.two_mul m,sm_split,←sm_add]
 refine sm_congr fun j _=>?_
 have h1:pw w ((2*i+1)*(m+j))= - pw w ((2*i+1)*j):=by
  rw [Nat.mul_add,pw_add,show (2*i+1)*m=m*(2*i)+m by rw [Nat.add_mul,Nat.one_mul,Nat.mul_comm (2*i) m],pw_add,pw_mul w m,hm,pw_two,show (-1:Fin p)* -1=1 by grind,one_pw];grind
 rw [h1,show (2*i+1)*j=2*(i*j)+j by rw [Nat.add_mul,Nat.one_mul,Nat.mul_assoc],pw_add,pw_two,Nat.add_comm m j];grind
theorem dft_quarters (w:Fin p) (m:Nat) (a:Nat→Fin p) (i:Nat):dft w (4*m) a i =
  dft (pw w 4) m (fun j=>a (4*j)) i+pw w i*dft (pw w 4) m (fun j=>a (4*j+1)) i+pw w (2*i)*dft (pw w 4) m (fun j=>a (4*j+2)) i+pw w (3*i)*dft (pw w 4) m (fun j=>a (4*j+3)) i:=by
 unfold dft
 rw [sm_quad,←sm_mul,←sm_mul,←sm_mul]
 have e0: ∀j,i*(4*j)=4*(i*j):=fun j=>by rw [Nat.mul_left_comm]
 have e1: ∀j r,i*(4*j+r)=r*i+4*(i*j):=fun j r=>by rw [Nat.mul_add,Nat.mul_left_comm,Nat.mul_comm i r];omega
 congr 1
 ·congr 1
  ·congr 1
   ·exact sm_congr fun j _=>by rw [e0,pw_four]
   ·exact sm_congr fun j _=>by rw [e1,pw_add,pw_four,Nat.one_mul];grind
  ·exact sm_congr fun j _=>by rw [e1,pw_add,pw_four];grind
 ·exact sm_congr fun j _=>by rw [e1,pw_add,pw_four];grind
theorem geo (x:Fin p) (n:Nat):(1-x)*sm n (fun j=>pw x j)=1-pw x n:=by
 induction n with
 | zero=>rw [sm_zero,pw_zero];grind
 | succ n ih=>rw [sm_succ,pw_succ];grind
theorem sm_one_all (n:Nat):sm n (fun _=>(1:Fin p))=zt p (n:Int):=by
 induction n with
 | zero=>rw [sm_zero];exact zt_zero.symm
 | succ n ih=>rw [sm_succ,ih,Int.natCast_succ,zt_add,zt_one]
theorem orth {w:Fin p} {n:Nat} (hp:Prime p) (hw:Ord w n) (k:Nat):sm n (fun j=>pw w (k*j))=if n∣k then zt p (n:Int) else 0:=by
 split
 ·rename_i h
  obtain ⟨c,rfl⟩:=h
  rw [←sm_one_all]
  exact sm_congr fun j _=>by rw [Nat.mul_assoc,pw_mul,hw.2.1,one_pw]
 ·rename_i h
  have h1:pw w k≠1:=fun h1=>h (hw.dvd.1 h1)
  have h2:=geo (pw w k) n
  rw [←pw_mul,Nat.mul_comm k n,pw_mul,hw.2.1,one_pw] at h2
  rw [show sm n (fun j=>pw w (k*j))=sm n (fun j=>pw (pw w k) j) from sm_congr fun j _=>pw_mul w k j]
  rcases mul_zero_of hp (show (1-pw w k)*sm n (fun j=>pw (pw w k) j)=0 by rw [h2];grind) with h3|h3
  ·exact absurd (show pw w k=1 by grind) h1
  ·exact h3
theorem dft_back {w v:Fin p} {n:Nat} (hp:Prime p) (hw:Ord w n) (hv:w*v=1) (a:Nat→Fin p) (i:Nat) (hi:i<n):dft v n (dft w n a) i=zt p (n:Int)*a i:=by
 have hvn: ∀k,pw w k*pw v k=1:=fun k=>by rw [←mul_pw,hv,one_pw]
 have e1:dft v n (dft w n a) i=sm n (fun j=>sm n (fun k=>pw v (i*k)*pw w (k*j))*a j):=by
  unfold dft
  have:sm n (fun j=>pw v (i*j)*sm n (fun j_1=>pw w (j*j_1)*a j_1))=sm n (fun k=>sm n (fun j=>pw v (i*k)*pw w (k*j)*a j)):=sm_congr fun k _=>by
   rw [←sm_mul]
   exact sm_congr fun j _=>by grind
  rw [this,sm_swap]
  refine sm_congr fun j _=>?_
  rw [show sm n (fun i_1=>pw v (i*i_1)*pw w (i_1*j)*a j)=sm n (fun k=>a j*(pw v (i*k)*pw w (k*j))) from sm_congr fun k _=>by grind,sm_mul];grind
 rw [e1,sm_one i hi]
 ·congr 1
  rw [←sm_one_all]
  exact sm_congr fun k _=>by rw [Nat.mul_comm k i];have:=hvn (i*k);grind
 ·intro j hj hne
  have e2:sm n (fun k=>pw v (i*k)*pw w (k*j))=0:=by
   rcases Nat.lt_or_gt_of_ne hne with h|h
   ·
    have hv':pw v n=1:=by have:=hvn n;rw [hw.2.1] at this;grind
    have hvo:Ord v n:=by
     refine ⟨hw.1,hv',fun m h0 h1 h2=>hw.2.2 m h0 h1 ?_⟩
     have:=hvn m
     rw [h2] at this;grind
    have:=orth hp hvo (i-j)
    rw [if_neg (fun hd=>by have:=Nat.le_of_dvd (by omega) hd;omega)] at this
    rw [←this]
    refine sm_congr fun k _=>?_
    rw [show i*k=(i-j)*k+k*j by rw [Nat.sub_mul,Nat.mul_comm k j];have:j*k≤i*k:=Nat.mul_le_mul_right _ (by omega);omega,pw_add]
    have:=hvn (k*j);grind
   ·have:=orth hp hw (j-i)
    rw [if_neg (fun hd=>by have:=Nat.le_of_dvd (by omega) hd;omega)] at this
    rw [←this]
    refine sm_congr fun k _=>?_
    rw [show k*j=(j-i)*k+i*k by rw [Nat.sub_mul,Nat.mul_comm k j];have:i*k≤j*k:=Nat.mul_le_mul_right _ (by omega);omega,pw_add]
    have:=hvn (i*k);grind
  rw [e2];grind
end
end Go.Proofs.YtmalmijdjhkklaaGreat.Alg
end

section
namespace Go.Proofs.YtmalmijdjhkklaaGreat
open Alg
section
variable {p:Nat} [NeZero p]
theorem zMk {x:Fin p} (hp:Prime p) (h:x*x=1) (h1:x≠1):x= -1:=by
 rcases mul_zero_of hp (show (x-1)*(x+1)=0 by grind) with h2|h2
 ·exact absurd (show x=1 by grind) h1
 ·grind
theorem zIN {Ω:Fin p} {N h:Nat} (hp:Prime p) (hΩ:Ord Ω N) (hN:N=2*h):pw Ω h= -1:=by
 have h0:=hΩ.1
 refine zMk hp ?_ (hΩ.2.2 h (by omega) (by omega))
 rw [←pw_add,show h+h=N by omega]
 exact hΩ.2.1
theorem zP2 {Ω:Fin p} {m s:Nat} (hp:Prime p) (hΩ:Ord Ω (4*m*s)) (a:Nat→Fin p) (i:Nat) (hi:i<4*m) (hm:0<m)
  {t:Nat→Nat→Fin p} (ht: ∀q k,q<4→k<m→t q k=pw Ω (q*k*s)*dft (pw Ω (4*s)) m (fun j=>a (q+4*j)) k):
  dft (pw Ω s) (4*m) a i =
   if i/m=0 then (t 0 (i%m)+t 2 (i%m))+(t 1 (i%m)+t 3 (i%m))
   else if i/m=1 then (t 0 (i%m)-t 2 (i%m))+pw Ω (m*s)*(t 1 (i%m)-t 3 (i%m))
   else if i/m=2 then (t 0 (i%m)+t 2 (i%m))-(t 1 (i%m)+t 3 (i%m))
   else (t 0 (i%m)-t 2 (i%m))-pw Ω (m*s)*(t 1 (i%m)-t 3 (i%m)):=by
 have hj:pw Ω (m*s)*pw Ω (m*s)= -1:=by
  rw [←pw_add]
  refine zIN hp hΩ ?_
  have:4*m*s=4*(m*s):=Nat.mul_assoc 4 m s
  omega
 have hk:i%m<m:=Nat.mod_lt _ hm
 have hr:i/m<4:=Nat.div_lt_of_lt_mul (by rw [Nat.mul_comm];exact hi)
 have hd:=Nat.div_add_mod i m
 obtain ⟨k,hke⟩: ∃k,k=i%m:=⟨_,rfl⟩
 obtain ⟨r,hre⟩: ∃r,r=i/m:=⟨_,rfl⟩
 rw [←hke,←hre] at hd
 rw [←hke] at hk ⊢
 rw [←hre] at hr ⊢
 clear hke hre
 have hw4:pw (pw Ω s) 4=pw Ω (4*s):=by rw [←pw_mul,Nat.mul_comm]
 have hper:pw (pw Ω (4*s)) m=1:=by
  rw [←pw_mul,show 4*s*m=4*m*s by rw [Nat.mul_assoc,Nat.mul_comm s m,Nat.mul_assoc]];exact hΩ.2.1
 have hF: ∀b:Nat→Fin p,dft (pw Ω (4*s)) m b i=dft (pw Ω (4*s)) m b k:=fun b=>by
  rw [show i=k+m*r by omega,dft_period hper]
 have hw: ∀q,pw (pw Ω s) (q*i)=pw Ω (q*k*s)*pw (pw Ω (m*s)) (q*r):=fun q=>by
  rw [←pw_mul,←pw_mul,←pw_add]
  congr 1
  rw [show i=m*r+k by omega,Nat.mul_add,Nat.mul_add]
  have e1:s*(q*(m*r))=m*s*(q*r):=by
   rw [Nat.mul_left_comm s q,Nat.mul_left_comm s m,Nat.mul_comm s r,Nat.mul_left_comm q m,Nat.mul_assoc m s,Nat.mul_left_comm s q,Nat.mul_comm s r]
  have e2:s*(q*k)=q*k*s:=Nat.mul_comm _ _
  omega
 rw [dft_quarters,hw4,hF,hF,hF,hF]
 have h1:=hw 1
 have h2:=hw 2
 have h3:=hw 3
 rw [Nat.one_mul] at h1
 rw [h1,h2,h3,ht 0 k (by omega) hk,ht 1 k (by omega) hk,ht 2 k (by omega) hk,ht 3 k (by omega) hk]
 have e0:(fun j=>a (0+4*j))=(fun j=>a (4*j)):=by funext j;rw [Nat.zero_add]
 have e1:(fun j=>a (1+4*j))=(fun j=>a (4*j+1)):=by funext j;rw [Nat.add_comm]
 have e2:(fun j=>a (2+4*j))=(fun j=>a (4*j+2)):=by funext j;rw [Nat.add_comm]
 have e3:(fun j=>a (3+4*j))=(fun j=>a (4*j+3)):=by funext j;rw [Nat.add_comm]
 rw [e0,e1,e2,e3]
 generalize dft (pw Ω (4*s)) m (fun j=>a (4*j)) k=F0
 generalize dft (pw Ω (4*s)) m (fun j=>a (4*j+1)) k=F1
 generalize dft (pw Ω (4*s)) m (fun j=>a (4*j+2)) k=F2
 generalize dft (pw Ω (4*s)) m (fun j=>a (4*j+3)) k=F3
 generalize pw Ω (m*s)=j at *
 rw [Nat.zero_mul,Nat.zero_mul,pw_zero]
 generalize pw Ω (1*k*s)=x1
 generalize pw Ω (2*k*s)=x2
 generalize pw Ω (3*k*s)=x3
 have p2:pw j 2= -1:=by rw [pw_succ,pw_one];exact hj
 have p3:pw j 3= -j:=by rw [pw_succ,p2];grind
 have p4:pw j 4=1:=by rw [pw_succ,p3];grind
 have p6:pw j 6= -1:=by rw [show 6=4+2 from rfl,pw_add,p4,p2];grind
 have p9:pw j 9=j:=by rw [show 9=4+4+1 from rfl,pw_add,pw_add,p4,pw_one];grind
 rcases (show r=0∨r=1∨r=2∨r=3 by omega) with rfl|rfl|rfl|rfl
 ·rw [if_pos rfl];simp only [Nat.mul_zero,pw_zero];grind
 ·rw [if_neg (by omega),if_pos rfl,Nat.mul_one,Nat.mul_one,Nat.mul_one,pw_one,p2,p3];grind
 ·rw [if_neg (by omega),if_neg (by omega),if_pos rfl,show 1*2=2 from rfl,show 2*2=4 from rfl,show 3*2=6 from rfl,p2,p4,p6];grind
 ·rw [if_neg (by omega),if_neg (by omega),if_neg (by omega),show 1*3=3 from rfl,show 2*3=6 from rfl,show 3*3=9 from rfl,p3,p6,p9];grind
theorem zF5 {w:Fin p} (h:w= -1) (a:Nat→Fin p):dft w 2 a 0=a 0+a 1∧dft w 2 a 1=a 0-a 1:=by
 unfold dft
 rw [sm_succ,sm_succ,sm_zero,sm_succ,sm_succ,sm_zero]
 simp only [Nat.zero_mul,Nat.mul_zero,Nat.one_mul,pw_zero,pw_one,h]
 exact ⟨by grind,by grind⟩
end
end Go.Proofs.YtmalmijdjhkklaaGreat
end

/-
  The great field in plain Lean: a block's bits as a number, products, the document's way of them; no program in sight.
-/
import Derived.Test.YtnojbjconiddoaaGal
import Derived.KernelRfl
namespace Gh

/-- One step: times x, and what is too much taken away. -/
def T (a : Nat) : Nat := (a * 2 % 340282366920938463463374607431768211456) ^^^ (if a.testBit 127 then 135 else 0)
def mul (a b : Nat) : Nat := Gal.mul T 128 a b

theorem two128 : (340282366920938463463374607431768211456 : Nat) = 2 ^ 128 := by decide
theorem T_lt (a : Nat) : T a < 2 ^ 128 := by
  unfold T
  rw [two128]
  refine Nat.xor_lt_two_pow (Nat.mod_lt _ (Nat.two_pow_pos 128)) ?_
  split
  · decide
  · exact Nat.two_pow_pos 128
theorem T_xor (a b : Nat) : T (a ^^^ b) = T a ^^^ T b := by
  unfold T
  rw [two128]
  have e1 : (a ^^^ b) * 2 % 2 ^ 128 = (a * 2 % 2 ^ 128) ^^^ (b * 2 % 2 ^ 128) := by
    have h1 : (a ^^^ b) * 2 = a * 2 ^^^ b * 2 := by
      have := Nat.shiftLeft_xor_distrib (a := a) (b := b) (i := 1)
      simpa [Nat.shiftLeft_eq] using this
    rw [h1]
    exact Nat.xor_mod_two_pow (n := 128)
  rw [e1, Nat.testBit_xor]
  rcases a.testBit 127 <;> rcases b.testBit 127 <;> simp
  · rw [Nat.xor_assoc]
  · rw [Nat.xor_assoc, Nat.xor_assoc, Nat.xor_comm 135]
  · rw [Gal.xor4]; simp
theorem lin : Gal.Lin 128 T := ⟨fun a _ => T_lt a, fun a b _ _ => T_xor a b⟩
theorem base : ∀ i, i < 128 → Gal.iter T i 1 = 2 ^ i := by decide +kernel
theorem fld : Gal.Field 128 T := ⟨lin, base, by omega⟩

theorem mul_lt (a b : Nat) (ha : a < 2 ^ 128) : mul a b < 2 ^ 128 := Gal.mul_lt lin 128 a b ha
theorem mul_comm (a b : Nat) (ha : a < 2 ^ 128) (hb : b < 2 ^ 128) : mul a b = mul b a := Gal.mul_comm fld a b ha hb
theorem mul_assoc (a b c : Nat) (ha : a < 2 ^ 128) (hb : b < 2 ^ 128) (hc : c < 2 ^ 128) : mul a (mul b c) = mul (mul a b) c := Gal.mul_assoc fld a b c ha hb hc
theorem mul_xor (a b c : Nat) (ha : a < 2 ^ 128) : mul a (b ^^^ c) = mul a b ^^^ mul a c := Gal.mul_xor_right lin 128 a b c ha
theorem xor_mul (a b c : Nat) (ha : a < 2 ^ 128) (hb : b < 2 ^ 128) : mul (a ^^^ b) c = mul a c ^^^ mul b c := Gal.mul_xor_left lin 128 a b c ha hb
theorem mul_one (a : Nat) (ha : a < 2 ^ 128) : mul a 1 = a := Gal.mul_one fld a ha
theorem mul_zero (a : Nat) : mul a 0 = 0 := Gal.mul_zero_right 128 a
theorem zero_mul (b : Nat) : mul 0 b = 0 := Gal.mul_zero_left lin 128 b

/-! ### No two but 0 make 0 -/
/-- The square. -/
def sq (a : Nat) : Nat := mul a a
theorem sq_lt (a : Nat) (ha : a < 2 ^ 128) : sq a < 2 ^ 128 := mul_lt a a ha
theorem sq_xor (a b : Nat) (ha : a < 2 ^ 128) (hb : b < 2 ^ 128) : sq (a ^^^ b) = sq a ^^^ sq b := by
  unfold sq
  rw [xor_mul a b _ ha hb, mul_xor a a b ha, mul_xor b a b hb, mul_comm b a hb ha]
  rw [Nat.xor_assoc, ← Nat.xor_assoc (mul a b), Nat.xor_self, Nat.zero_xor]
theorem sq_mul (a b : Nat) (ha : a < 2 ^ 128) (hb : b < 2 ^ 128) : sq (mul a b) = mul (sq a) (sq b) := by
  unfold sq
  have hab := mul_lt a b ha
  rw [mul_assoc (mul a b) a b hab ha hb, mul_comm (mul a b) a hab ha, mul_assoc a a b ha ha hb, ← mul_assoc (mul a a) b b (mul_lt a a ha) hb hb]
/-- Squared k times. -/
def fr : Nat → Nat → Nat
  | 0, a => a
  | k + 1, a => sq (fr k a)
theorem fr_lt (k a : Nat) (ha : a < 2 ^ 128) : fr k a < 2 ^ 128 := by
  induction k with
  | zero => exact ha
  | succ k ih => exact sq_lt _ ih
theorem fr_xor (k a b : Nat) (ha : a < 2 ^ 128) (hb : b < 2 ^ 128) : fr k (a ^^^ b) = fr k a ^^^ fr k b := by
  induction k with
  | zero => rfl
  | succ k ih => simp only [fr]; rw [ih, sq_xor _ _ (fr_lt k a ha) (fr_lt k b hb)]
theorem fr_mul (k a b : Nat) (ha : a < 2 ^ 128) (hb : b < 2 ^ 128) : fr k (mul a b) = mul (fr k a) (fr k b) := by
  induction k with
  | zero => rfl
  | succ k ih => simp only [fr]; rw [ih, sq_mul _ _ (fr_lt k a ha) (fr_lt k b hb)]
theorem fr_zero (k : Nat) : fr k 0 = 0 := by
  induction k with
  | zero => rfl
  | succ k ih => simp only [fr]; rw [ih]; exact zero_mul 0
theorem fr_one (k : Nat) : fr k 1 = 1 := by
  induction k with
  | zero => rfl
  | succ k ih => simp only [fr]; rw [ih]; exact mul_one 1 (by decide)
theorem fr_two : fr 128 2 = 2 := by kernel_rfl
theorem mul_two (a : Nat) (ha : a < 2 ^ 128) : mul a 2 = T a := by
  have := Gal.mul_pow lin 128 1 a ha (by omega)
  simpa [Gal.iter, mul] using this
theorem fr_base (i : Nat) (hi : i < 128) : fr 128 (2 ^ i) = 2 ^ i := by
  induction i with
  | zero => exact fr_one 128
  | succ i ih =>
    have h1 : 2 ^ i < 2 ^ 128 := Nat.pow_lt_pow_right (by omega) (by omega)
    have e : 2 ^ (i + 1) = mul (2 ^ i) 2 := by
      rw [mul_two _ h1, ← base i (by omega), ← base (i + 1) hi]
      rfl
    rw [e, fr_mul 128 _ _ h1 (by decide), ih (by omega), fr_two]
theorem fr_all (a : Nat) (ha : a < 2 ^ 128) : fr 128 a = a :=
  Gal.ext_pows (fun a => fr 128 a) (fun a => a) (fr_zero 128) rfl 128 (fun x y hx hy => fr_xor 128 x y hx hy) (fun _ _ _ _ => rfl) fr_base a ha
/-- What a makes with all its squares. -/
def P : Nat → Nat → Nat
  | 0, _ => 1
  | k + 1, a => mul (P k a) (fr k a)
def R : Nat → Nat → Nat
  | 0, _ => 1
  | k + 1, a => mul (R k a) (fr (k + 1) a)
theorem P_lt (k a : Nat) : P k a < 2 ^ 128 := by
  induction k with
  | zero => exact (by decide : 1 < 2 ^ 128)
  | succ k ih => exact mul_lt _ _ ih
theorem R_lt (k a : Nat) : R k a < 2 ^ 128 := by
  induction k with
  | zero => exact (by decide : 1 < 2 ^ 128)
  | succ k ih => exact mul_lt _ _ ih
theorem sq_P (k a : Nat) (ha : a < 2 ^ 128) : sq (P k a) = R k a := by
  induction k with
  | zero => exact mul_one 1 (by decide)
  | succ k ih => simp only [P, R]; rw [sq_mul _ _ (P_lt k a) (fr_lt k a ha), ih]; rfl
theorem P_R (k a : Nat) (ha : a < 2 ^ 128) : P (k + 1) a = mul a (R k a) := by
  induction k with
  | zero => simp only [P, R, fr]; rw [mul_comm 1 a (by decide) ha]
  | succ k ih => rw [P, ih, R, mul_assoc a _ _ ha (R_lt k a) (fr_lt _ a ha)]
theorem P_a (k a : Nat) (ha : a < 2 ^ 128) : mul (P k a) a = fr k a := by
  induction k with
  | zero => simp only [P, fr]; rw [mul_comm 1 a (by decide) ha, mul_one a ha]
  | succ k ih =>
    rw [P, mul_comm (P k a) _ (P_lt k a) (fr_lt k a ha), ← mul_assoc _ _ _ (fr_lt k a ha) (P_lt k a) ha, ih]
    rfl
theorem sq_e (a : Nat) (ha : a < 2 ^ 128) : sq (P 128 a) = P 128 a := by
  rw [sq_P 128 a ha, P_R 127 a ha]
  show mul (R 127 a) (fr 128 a) = _
  rw [fr_all a ha, mul_comm _ a (R_lt 127 a) ha]
/-- What leads back from 'a + the square of a', but for the bit 0. -/
def Ls : List Nat := [54969562866131847669016652494142573320, 305526867633558886955404559995676324868, 305526867633558886955404559995676324870, 104469799312523126935073530960423461388, 305526867633558886955404559995676324866, 56734434906695435454005472259553578602, 104469799312523126935073530960423461380, 271830150077582418345900040240152313368, 305526867633558886955404559995676324882, 104470118804432205535668098632526617412, 56734434906695435454005472259553578570, 227145695117876428321601179286510436182, 104469799312523126935073530960423461444, 305967500991204419130524647600360013666, 271830150077582418345900040240152313496, 227728627380917811012951187023350445606, 305526867633558886955404559995676325138, 56815181714465587187729576693626853178, 104470118804432205535668098632526616900, 2537993204061707162883588357039153916, 56734434906695435454005472259553577546, 3012428575888700110705650160495551628, 227145695117876428321601179286510434134, 275671395948664093117384310641479295528, 104469799312523126935073530960423465540, 271915852323952067842399232303023203416, 305967500991204419130524647600360005474, 102998777379450204286412735627287799860, 271830150077582418345900040240152297112, 272209106874770544727132909282711537316, 227728627380917811012951187023350412838, 135325830696997074197434372310186257282, 305526867633558886955404559995676390674, 57232084741685004684866676497372669754, 56815181714465587187729576693626984250, 135411474552265958872087683058005180738, 104470118804432205535668098632526879044, 275757512462385460142162890854388625828, 2537993204061707162883588357039678204, 274842411402277094064293402576501149528, 56734434906695435454005472259554626122, 175382474467339210118195525752143821788, 3012428575888700110705650160497648780, 5261797816253387317062014170447638976, 227145695117876428321601179286514628438, 272210066766835802062006483639670336468, 275671395948664093117384310641470906920, 225136856268418471551472419225175749014, 104469799312523126935073530960440242756, 102164174349821125137969924442995585924, 271915852323952067842399232302989648984, 226936647763116174786496543602468507498, 305967500991204419130524647600427114338, 305532029585887981283514747020026657774, 102998777379450204286412735627422017588, 133211003395652039953403666705387164366, 271830150077582418345900040239883861656, 102148097239065330920971689869502701364, 272209106874770544727132909283248408228, 173139448164521758332819425568250980204, 227728627380917811012951187022276671014, 305961988162602755697098987302884752222, 135325830696997074197434372312333740930, 175397880387343143921058595535091746080, 305526867633558886955404559991381423378, 329634352286836299080082914081100, 57232084741685004684866676505962604346, 172705286512742171128536335012890908524, 56815181714465587187729576710806853434, 303614986222712004812458293485509624930, 135411474552265958872087683023645442370, 170536380025231687221712635462198253856, 104470118804432205535668098701246355780, 225051247907070202050589524227723711914, 275757512462385460142162890991827579300, 308170559265311564786252692292247708062, 2537993204061707162883588082161771260, 102169133813289299704984590013427707636, 274842411402277094064293402026745335640, 303326766809063102477989677003176958226, 56734434906695435454005473359066253898, 172841837191359616877872241477191677152, 175382474467339210118195523553120566236, 54888141419452711199816878900948880442, 3012428575888700110705654558544159884, 307799342647640341558117533281787318686, 5261797816253387317062022966540661184, 273119276677551945356669168913118222868, 227145695117876428321601196878700672854, 272311600527812781647585363233504111460, 272210066766835802062006518824042425300, 5181299727675599870287693023180209980, 275671395948664093117384240272726729256, 305525142620375929691910208574098026146, 225136856268418471551472278487687393686, 307772801086609188417528170053220769746, 104469799312523126935073249485463532100, 54596111748351997025280216654447342278, 102164174349821125137970487392949007236, 308164931596625094656266467235253809106, 271915852323952067842398106403082806360, 227647953955287367714133036452945544742, 226936647763116174786494291802654822250, 308170555145571807541189819739699809694, 305967500991204419130520144000799743842, 133105130754254600986622393405343152142, 305532029585887981283523754219281398766, 172410759080424577518324870893406614048, 102998777379450204286394721228912535604, 54969320214588899006126198736319185926, 133211003395652039953439695502406128334, 227375442280390979429973553919662004774, 271830150077582418345827982645845933720, 4955917326648230773508684280683823104, 102148097239065330921115805057578557236, 172885700256406002458384310923462859152, 272209106874770544726844678907096696484, 56538291399058816093646072645906817530, 173139448164521758332242964815947556716, 55418003596362017635628740176384579466, 227728627380917811014104108526883517990, 0, 305961988162602755699404830312098446174, 178356100567250831900639352525185366892, 135325830696997074202046058330761128834, 189481146061086134017106552491789565356, 175397880387343143911835223498236970272, 75361565302940573017734093940626417402]
def app : List Nat → Nat → Nat
  | [], _ => 0
  | l :: ls, v => (if v % 2 = 1 then l else 0) ^^^ app ls (v / 2)
theorem app_xor (ls : List Nat) : ∀ v w, app ls (v ^^^ w) = app ls v ^^^ app ls w := by
  induction ls with
  | nil => intro v w; simp [app]
  | cons l ls ih =>
    intro v w
    simp only [app, Gal.xor_div2, ih, Gal.xor_mod2]
    rcases Nat.mod_two_eq_zero_or_one v with hv | hv <;> rcases Nat.mod_two_eq_zero_or_one w with hw | hw <;> simp [hv, hw]
    · rw [← Nat.xor_assoc, ← Nat.xor_assoc, Nat.xor_comm l]
    · rw [Nat.xor_assoc]
    · rw [Gal.xor4]; simp
theorem app_zero (ls : List Nat) : app ls 0 = 0 := by
  induction ls with
  | nil => rfl
  | cons l ls ih => simp [app, ih]
theorem app_base : ∀ i, i < 128 → app Ls (sq (2 ^ i) ^^^ 2 ^ i) = 2 ^ i ^^^ (2 ^ i % 2) := by decide +kernel
theorem app_all (e : Nat) (he : e < 2 ^ 128) : app Ls (sq e ^^^ e) = e ^^^ (e % 2) := by
  refine Gal.ext_pows (fun e => app Ls (sq e ^^^ e)) (fun e => e ^^^ (e % 2)) ?_ rfl 128 (fun x y hx hy => ?_) (fun x y _ _ => ?_) app_base e he
  · show app Ls (sq 0 ^^^ 0) = 0
    rw [show sq 0 = 0 from zero_mul 0]
    exact app_zero Ls
  · show app Ls (sq (x ^^^ y) ^^^ (x ^^^ y)) = _
    rw [sq_xor x y hx hy, Gal.xor4, app_xor]
  · show (x ^^^ y) ^^^ ((x ^^^ y) % 2) = _
    rw [show (x ^^^ y) % 2 = (x % 2) ^^^ (y % 2) from Nat.xor_mod_two_pow (n := 1), Gal.xor4]
theorem idem (e : Nat) (he : e < 2 ^ 128) (h : sq e = e) : e = 0 ∨ e = 1 := by
  have h1 := app_all e he
  rw [h, Nat.xor_self, app_zero] at h1
  have h2 : e = e % 2 := by
    have h3 : e ^^^ (e ^^^ e % 2) = e ^^^ 0 := by rw [← h1]
    rw [← Nat.xor_assoc, Nat.xor_self, Nat.zero_xor, Nat.xor_zero] at h3
    exact h3.symm
  omega
/-- Each but 0 has what leads it back to 1. -/
theorem has_inv (a : Nat) (ha : a < 2 ^ 128) (h0 : a ≠ 0) : ∃ b, b < 2 ^ 128 ∧ mul b a = 1 := by
  refine ⟨R 127 a, R_lt 127 a, ?_⟩
  rw [mul_comm _ a (R_lt 127 a) ha, ← P_R 127 a ha]
  rcases idem _ (P_lt 128 a) (sq_e a ha) with h | h
  · have h1 := P_a 128 a ha
    rw [h, zero_mul, fr_all a ha] at h1
    exact absurd h1.symm h0
  · exact h
theorem no_zero (a b : Nat) (ha : a < 2 ^ 128) (hb : b < 2 ^ 128) : mul a b = 0 ↔ a = 0 ∨ b = 0 := by
  constructor
  · intro h
    by_cases h0 : a = 0
    · exact .inl h0
    · obtain ⟨c, hc, h1⟩ := has_inv a ha h0
      have h2 : mul c (mul a b) = b := by rw [mul_assoc c a b hc ha hb, h1, mul_comm 1 b (by decide) hb, mul_one b hb]
      rw [h, mul_zero] at h2
      exact .inr h2.symm
  · rintro (rfl | rfl)
    · exact zero_mul b
    · exact mul_zero a
end Gh

/- The law's own check of what the document fixes, carried out: chapter 11. -/
import Derived.Test.YteobailpkkljpaaGreatDoorC1
import Derived.KernelRfl
set_option linter.unusedSimpArgs false
set_option linter.unusedVariables false
set_option maxRecDepth 1000000
namespace Go.Jq
variable {G:Nat→SFunc} {h:AH} {R:Value→AH→Prop}
def A11n_list:List (Nat×SFunc):=[(22,c22),(23,c23),(30,c30),(31,c31),(33,c33),(36,c36),(37,c37),(38,c38),(39,c39),(40,c40),(41,c41),(52,c52),(56,c56),(57,c57),(58,c58),(59,c59),(60,c60),(61,c61),(62,c62),(63,c63),(64,c64),(65,c65),(66,c66),(67,c67),(68,c68),(69,c69),(70,c70),(78,c78),(80,c80),(81,c81),(82,c82),(83,c83),(84,c84),(85,c85),(86,c86),(87,c87),(98,c98),(100,c100),(101,c101),(102,c102),(103,c103),(104,c104),(105,c105),(106,c106),(107,c107),(108,c108),(109,c109),(110,c110),(111,c111),(112,c112),(113,c113),(114,c114),(115,c115),(116,c116),(117,c117),(118,c118),(119,c119),(120,c120),(121,c121),(122,c122),(123,c123),(124,c124),(140,c140),(141,c141),(147,c147),(148,c148),(149,c149),(150,c150),(151,c151),(153,c153),(154,c154),(171,c171),(173,c173),(174,c174),(176,c176),(177,c177),(178,c178),(180,c180),(187,c187),(196,c196),(199,c199),(200,c200),(201,c201),(223,c223),(231,c231),(250,c250)]
theorem aw11n_run:okTrue ((mach (triOf A11n_list) 100000).call 23 [] ⟨0,.leaf⟩)=true:=by kernel_rfl
theorem aw11n_spec(g:∀x∈A11n_list,G x.1=x.2)(k:∀h1,Ext h h1→R (.bool true) h1):WC G 23 [] h R:=carried_true g aw11n_run rfl k
end Go.Jq

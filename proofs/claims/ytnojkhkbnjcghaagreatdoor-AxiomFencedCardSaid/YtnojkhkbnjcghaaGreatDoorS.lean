/- Each function of this translation has the small code that was printed for it. -/
import Derived.Test.YtnojkhkbnjcghaaGreatDoorRows
import Derived.KernelRfl
import Derived.Test.YtnojkhkbnjcghaaGreatDoorM3
import Derived.Test.YtnojkhkbnjcghaaGreatDoorC
import Derived.Test.YtnojkhkbnjcghaaGreatDoorC1
import Derived.Test.YtnojkhkbnjcghaaGreatDoorK2
import Derived.Test.YtnojkhkbnjcghaaGreatDoorR3
set_option linter.unusedSimpArgs false
set_option linter.unusedVariables false
namespace Go.Jq
open Go.Proofs
set_option maxRecDepth 100000
def afNames:Names:=[(361,3),(270,4),(335,5),(21,6),(35,7),(274,8),(275,9),(341,10),(342,11),(343,12),(344,13),(345,14),(346,15),(19,16),(20,17),(71,18),(72,19),(73,20),(74,21),(75,22),(76,23),(77,24),(30,25),(280,26),(281,27),(282,28),(348,29),(295,30),(352,31),(28,32),(29,33),(31,34),(32,35),(33,36),(34,37),(36,38),(125,39),(126,40),(127,41),(128,42),(129,43),(130,44),(131,45),(38,46),(102,47),(52,48),(132,49),(56,50),(133,51),(134,52),(135,53),(136,54),(137,55),(138,56),(139,57),(57,58),(58,59),(298,60),(291,61),(296,62),(297,63),(353,64),(354,65),(355,66),(356,67),(347,68),(51,69),(53,70),(54,71),(55,72),(59,73),(60,74),(61,75),(62,76),(63,77),(64,78),(65,79),(66,80),(67,81),(68,82),(69,83),(70,84),(78,85),(79,86),(182,87),(183,88),(103,89),(98,90),(184,91),(185,92),(186,93),(299,94),(300,95),(357,96),(358,97),(359,98),(360,99),(99,100),(100,101),(101,102),(104,103),(105,104),(106,105),(107,106),(108,107),(109,108),(110,109),(111,110),(112,111),(113,112),(114,113),(115,114),(116,115),(117,116),(118,117),(119,118),(120,119),(121,120),(122,121),(123,122),(124,123),(140,124),(141,125),(142,126),(143,127),(144,128),(145,129),(146,130),(301,131),(340,132),(170,133),(171,134),(172,135),(173,136),(174,137),(175,138),(176,139),(177,140),(178,141),(179,142),(147,143),(180,144),(181,145),(187,146),(195,154),(196,155),(197,156),(198,157),(349,158),(350,159),(351,160),(222,161),(223,162),(229,168),(230,169),(249,170),(250,171)]
def afG:Nat→SFunc
  | 361=>c361
  | 338=>c338
  | 270=>c270
  | 335=>c335
  | 21=>c21
  | 35=>c35
  | 274=>c274
  | 275=>c275
  | 341=>c341
  | 342=>c342
  | 343=>c343
  | 344=>c344
  | 345=>c345
  | 346=>c346
  | 19=>c19
  | 20=>c20
  | 71=>c71
  | 72=>c72
  | 73=>c73
  | 74=>c74
  | 75=>c75
  | 76=>c76
  | 77=>c77
  | 30=>c30
  | 280=>c280
  | 281=>c281
  | 282=>c282
  | 348=>c348
  | 295=>c295
  | 352=>c352
  | 28=>c28
  | 29=>c29
  | 31=>c31
  | 32=>c32
  | 33=>c33
  | 34=>c34
  | 36=>c36
  | 125=>c125
  | 126=>c126
  | 127=>c127
  | 128=>c128
  | 129=>c129
  | 130=>c130
  | 131=>c131
  | 38=>c38
  | 102=>c102
  | 52=>c52
  | 132=>c132
  | 56=>c56
  | 133=>c133
  | 134=>c134
  | 135=>c135
  | 136=>c136
  | 137=>c137
  | 138=>c138
  | 139=>c139
  | 57=>c57
  | 58=>c58
  | 298=>c298
  | 291=>c291
  | 296=>c296
  | 297=>c297
  | 353=>c353
  | 354=>c354
  | 355=>c355
  | 356=>c356
  | 347=>c347
  | 51=>c51
  | 53=>c53
  | 54=>c54
  | 55=>c55
  | 59=>c59
  | 60=>c60
  | 61=>c61
  | 62=>c62
  | 63=>c63
  | 64=>c64
  | 65=>c65
  | 66=>c66
  | 67=>c67
  | 68=>c68
  | 69=>c69
  | 70=>c70
  | 78=>c78
  | 79=>c79
  | 182=>c182
  | 183=>c183
  | 103=>c103
  | 98=>c98
  | 184=>c184
  | 185=>c185
  | 186=>c186
  | 299=>c299
  | 300=>c300
  | 357=>c357
  | 358=>c358
  | 359=>c359
  | 360=>c360
  | 99=>c99
  | 100=>c100
  | 101=>c101
  | 104=>c104
  | 105=>c105
  | 106=>c106
  | 107=>c107
  | 108=>c108
  | 109=>c109
  | 110=>c110
  | 111=>c111
  | 112=>c112
  | 113=>c113
  | 114=>c114
  | 115=>c115
  | 116=>c116
  | 117=>c117
  | 118=>c118
  | 119=>c119
  | 120=>c120
  | 121=>c121
  | 122=>c122
  | 123=>c123
  | 124=>c124
  | 140=>c140
  | 141=>c141
  | 142=>c142
  | 143=>c143
  | 144=>c144
  | 145=>c145
  | 146=>c146
  | 301=>c301
  | 340=>c340
  | 170=>c170
  | 171=>c171
  | 172=>c172
  | 173=>c173
  | 174=>c174
  | 175=>c175
  | 176=>c176
  | 177=>c177
  | 178=>c178
  | 179=>c179
  | 147=>c147
  | 180=>c180
  | 181=>c181
  | 187=>c187
  | 195=>c195
  | 196=>c196
  | 197=>c197
  | 198=>c198
  | 349=>c349
  | 350=>c350
  | 351=>c351
  | 222=>c222
  | 223=>c223
  | 229=>c229
  | 230=>c230
  | 249=>c249
  | 250=>c250
  | _=>⟨0,0,.skip,[]⟩
theorem af_c361:cFunc Tryz.prog afNames.ψ Tryz.f3 [[0],[3],[3,4],[3,4],[3,4,18],[3,4,5],[3,4,5,6],[3,4,5,6],[3,4,5,6,28],[3,4,5,6,7],[3,4,5,6,7,41],[3,4,5,6,7,44],[3,4,5,6,7],[3,4,5,6],[3,4,5,6],[3,4],[3,4],[8,9],[8,64],[2],[8,10],[8,10],[8,10,69],[8,10,11],[8,10,92],[2],[8,10],[2]]=some c361:=by kernel_rfl
theorem af_c270:cFunc Tryz.prog afNames.ψ Tryz.f4 [[0,1,4],[4]]=some c270:=by kernel_rfl
theorem af_c335:cFunc Tryz.prog afNames.ψ Tryz.f5 [[1,2],[1,2,6],[1,2,6,7],[1,2,6,7],[1,2,6,7,22],[1,2,6,7],[1,2,6,7],[1,2,6,8],[1,2,6,8,9],[1,2,6,8,9],[1,2,6,8,9,36],[1,2,6,8,9,10],[1,2,6,8,9,10,11],[1,2,6,8,9,10,11],[1,2,6,8,9,10,11,58],[1,2,6,8,9,10,11],[1,2,6,8,9,10,11,71],[4,5],[1,2,6,8,9,10,11],[1,2,6,8,9,10,12],[1,2,6,8,9,10,12],[1,2,6,8,9,10,12,76],[1,2,6,8,9,10,12,13],[1,2,6,8,9,10,12,13],[1,2,6,8,9,10,12,13,84],[1,2,6,8,9,10,12,13,14],[1,2,6,8,9,10,12,13,14],[1,2,6,8,9,10,12,13,14,95],[1,2,6,8,9,10,12,13,14,15],[1,2,6,8,9,10,12,13,14,15,108],[1,2,6,8,9,10,12,13,14],[1,2,6,8,9,10,12,13,14],[1,2,6,8,9,10,12,13],[1,2,6,8,9,10,12],[1,2,6,8,9,10,135],[1,2,6,8,9,137],[4,5],[1,2,6,8,9],[1,2,8,16],[16,17],[16,145],[4,5],[4,5]]=some c335:=by kernel_rfl
theorem af_c21:cFunc Tryz.prog afNames.ψ Tryz.f6 [[],[1,2],[1,2,3,4],[0]]=some c21:=by kernel_rfl
theorem af_c35:cFunc Tryz.prog afNames.ψ Tryz.f7 [[0,3],[0,3,25],[4],[0,3,5,6,7,8],[0,3,5,6,9],[4]]=some c35:=by kernel_rfl
theorem af_c274:cFunc Tryz.prog afNames.ψ Tryz.f8 [[1,2],[1,2,3],[1,2,3,4],[1,2,3,4],[1,2,3,4,18],[1,2,3,4,5],[1,2,3,4,5,6],[1,2,3,4,5,6],[1,2,3,4,5,6,25],[1,2,3,4,5,6,40],[1,2,3,4,5,6],[1,2,3,4,5,6],[1,2,3,4],[1,2,3,4],[1,2,3,7],[1,2,3,7],[1,2,3,7,57],[1,2,3,7,8],[1,2,3,7,8,9],[1,2,3,7,8,9],[1,2,3,7,8,9,67],[1,2,3,7,8,9,10],[1,2,3,7,8,9,10,80],[1,2,3,7,8,9,10],[1,2,3,7,8,9],[1,2,3,7,8,9],[1,2,3,7],[1,2,3,7],[2]]=some c274:=by kernel_rfl
theorem af_c275:cFunc Tryz.prog afNames.ψ Tryz.f9 [[1,2,4],[1,2,4,5],[1,2,4,5,6],[1,4,5,7],[1,4,5,7,8],[1,4,5,7,8,9],[1,4,5,7,8,9,32],[1,4,5,7,8,9],[1,4,5,7,8,9,10],[1,4,5,7,8,9,10,11],[1,4,5,7,8,9,10,11],[1,4,5,7,8,9,10,11,44],[1,4,5,7,8,9,10,11,12],[1,4,5,7,8,9,10,11,12,13],[1,4,5,7,8,9,10,11,12,13],[1,4,5,7,8,9,10,11,12,13,57],[1,4,5,7,8,9,10,11,12,13,14],[1,4,5,7,8,9,10,11,12,13,14,15],[1,4,5,7,8,9,10,11,12,13,14,15,16],[1,4,5,7,8,9,10,11,12,13,14,15,16,74],[1,4,5,7,8,9,10,11,12,13,14,15,16],[1,4,5,7,8,9,10,11,12,13,14,15,16,17],[1,4,5,7,8,9,10,11,12,13,15,16,17,83],[1,4,5,7,8,9,10,11,12,13,15,16,17,83,95],[1,4,5,7,8,9,10,11,12,13,15,16,17,83,95],[1,4,5,7,8,9,10,11,12,13,15,16,17,83,95],[1,4,5,7,8,9,10,11,12,13,15,16,17,83,95],[1,4,5,7,8,9,10,11,12,13],[1,4,5,7,8,9,10,11,12,13],[1,4,5,7,8,9,10,11,12,13,15,16,17,83,108],[1,4,5,7,8,9,10,11,12,13,15,16,17,83,108],[1,4,5,7,8,9,10,11,12,13,15,16,17,83,108],[1,4,5,7,8,9,10,11,12,13,15,16,17,83,108],[1,4,5,7,8,9,10,11,12,13],[1,4,5,7,8,9,10,11,12,13],[1,4,5,7,8,9,10,11,12,13,15,16,17,83,121],[1,4,5,7,8,9,10,11,12,13],[1,4,5,7,8,9,10,11,12,13,15,16,17,83,127],[1,4,5,7,8,9,10,11,12,13],[1,4,5,7,8,9,10,11,12,13],[1,4,5,7,8,9,10,11,12,13,15,16,17,139],[1,4,5,7,8,9,10,11,12,13],[1,4,5,7,8,9,10,11,12,13],[1,4,5,7,8,9,10,11,12,13],[1,4,5,7,8,9,10,11,12,13],[1,4,5,7,8,9,10,11],[1,4,5,7,8,9,10,11],[4,5,18],[4,5,18,158],[4,5],[4]]=some c275:=by kernel_rfl
theorem af_c341:cFunc Tryz.prog afNames.ψ Tryz.f10 [[1],[1,3],[1,3,4],[1,3,4],[1,3,4,11],[1,3,4,5],[1,3,4,5],[1,3,4,5,21],[1,3,4,5,6],[1,3,4,5,38],[1,3,4,5],[1,3,4,5],[1,3,4],[2]]=some c341:=by kernel_rfl
theorem af_c342:cFunc Tryz.prog afNames.ψ Tryz.f11 [[1,2,4,5,6,9],[1,2,4,5,6,9,23],[12],[1,2,4,5,6,9,13,14,15],[1,2,4,5,6,9,13,14,34],[12],[1,2,4,5,6,9,16],[1,2,4,5,6,9,18],[1,2,4,5,6,9,18,19],[1,2,4,5,6,9,18,19],[1,2,4,5,6,9,18,19,53],[1,2,4,5,6,9,18,19],[1,2,4,5,6,9,18,19],[12]]=some c342:=by kernel_rfl
theorem af_c343:cFunc Tryz.prog afNames.ψ Tryz.f12 [[1],[2]]=some c343:=by kernel_rfl
theorem af_c344:cFunc Tryz.prog afNames.ψ Tryz.f13 [[0,1],[0,1,5],[0,1,5],[0,1,5,9],[0,1,5,17],[4],[0,1,5],[4]]=some c344:=by kernel_rfl
theorem af_c345:cFunc Tryz.prog afNames.ψ Tryz.f14 [[1,2,4,5,6,9],[1,2,4,5,6,9,18],[12],[1,2,4,5,6,9,13],[1,2,4,5,6,9,13],[1,2,4,5,6,9,13,30],[1,2,4,5,6,9,13,50],[12],[1,2,4,5,6,9,13],[12]]=some c345:=by kernel_rfl
theorem af_c346:cFunc Tryz.prog afNames.ψ Tryz.f15 [[1],[1,3],[1,3,4],[1,3,4],[1,3,4,9],[1,3,4],[1,3,4],[2]]=some c346:=by kernel_rfl
theorem af_c19:cFunc Tryz.prog afNames.ψ Tryz.f16 [[3,4,5],[3,4,5,15],[6,7],[3,4,5],[3,4,5,8],[3,4,5,8,9],[5,8],[8,26],[6,7],[8],[6,7]]=some c19:=by kernel_rfl
theorem af_c20:cFunc Tryz.prog afNames.ψ Tryz.f17 [[0],[0,1],[0]]=some c20:=by kernel_rfl
theorem af_c71:cFunc Tryz.prog afNames.ψ Tryz.f18 [[1],[1,3],[1,3,4],[1,4,23],[2],[2]]=some c71:=by kernel_rfl
theorem af_c72:cFunc Tryz.prog afNames.ψ Tryz.f19 [[1],[1,9],[2],[1,11,12,13],[1,11,12,13],[1,11,12,13,14],[1,3,4,11,12,13],[1,3,11,12,13,20],[1,3,5,11,12,13],[1,6,11,12,13],[1,11,12,13,32],[2],[1,11,12,13],[2]]=some c72:=by kernel_rfl
theorem af_c73:cFunc Tryz.prog afNames.ψ Tryz.f20 [[1,2,3,4,5],[1,2,3,4,5,22],[1,2,3,4,5,6],[1,2,3,4,5,6,7],[1,2,3,4,5,7],[1,2,3,4,5,7,33,34,35],[1,2,3,4,5,7,33,34,35],[1,2,3,4,5,7,33,34,35,36],[1,2,3,4,5,7,8,9,33,34,35],[1,2,3,4,5,7,8,33,34,35,42],[1,2,3,4,5,7,33,34,35],[1,2,3,4,5,7,33,34,35],[1,2,3,4,5],[1,2,3,4,5,53,54,55],[1,2,3,4,5,53,54,55],[1,2,3,4,5,53,54,55,56],[1,2,3,4,5,11,53,54,55],[1,2,3,4,5,11,53,54,55,59,60,61],[1,2,3,4,5,11,53,54,55,59,60,61],[1,2,3,4,5,11,53,54,55,59,60,61,62],[1,2,3,4,5,11,12,13,53,54,55,59,60,61],[1,2,3,4,5,11,13,53,54,55,59,60,61,69,70,71],[1,2,3,4,5,11,13,53,54,55,59,60,61,69,70,71],[1,2,3,4,5,11,13,53,54,55,59,60,61,69,70,71,72],[1,2,3,4,5,11,13,15,53,54,55,59,60,61,69,70,71],[1,2,3,4,5,11,13,53,54,55,59,60,61,69,70,71],[1,2,3,4,5,11,13,53,54,55,59,60,61,69,70,71],[1,2,3,4,5,11,53,54,55,59,60,61],[1,2,3,4,5,53,54,55],[1,2,3,4,5,83,84,85],[1,2,3,4,5,83,84,85],[1,2,3,4,5,83,84,85,86],[1,2,3,4,5,16,17,83,84,85],[1,2,3,4,5,16,17,83,84,85,91],[1,2,3,4,5,16,17,83,84,85],[1,2,3,4,5,16,83,84,85,98,99,100],[1,2,3,4,5,16,83,84,85,98,99,100],[1,2,3,4,5,16,83,84,85,98,99,100,101],[1,2,3,4,5,16,19,83,84,85,98,99,100],[1,2,3,4,5,16,19,83,84,85,98,99,100,106],[1,2,3,4,5,16,83,84,85,98,99,100],[1,2,3,4,5,16,83,84,85,98,99,100],[1,2,3,4,5,83,84,85],[2,3,4,5]]=some c73:=by kernel_rfl
theorem af_c74:cFunc Tryz.prog afNames.ψ Tryz.f21 [[2,3,4],[4]]=some c74:=by kernel_rfl
theorem af_c75:cFunc Tryz.prog afNames.ψ Tryz.f22 [[3,4,5],[6]]=some c75:=by kernel_rfl
theorem af_c76:cFunc Tryz.prog afNames.ψ Tryz.f23 [[0,4,5,6],[0,4,5,6,14],[0,4,5,6,14,16],[6],[0,4,5,6,14,19],[0,4,5,6,19],[6],[0,4,5,6,7],[0,4,5,6,7,8],[0,4,6,7,8,29,30,31],[0,4,6,7,8,29,30,31],[0,4,6,7,8,29,30,31,32],[0,4,6,7,8,10,29,30,31],[0,4,6,7,8,10,11,12,29,30,31],[0,4,6,7,8,10,13,29,30,31],[0,4,6,7,8,10,29,30,31,80],[0,4,6,7,8,29,30,31],[0,4,6,7,8,29,30,31],[6]]=some c76:=by kernel_rfl
theorem af_c77:cFunc Tryz.prog afNames.ψ Tryz.f24 [[2,3,4],[2,3,4,5],[2,4,5,13,14,15],[2,4,5,13,14,15],[2,4,5,13,14,15,16],[2,4,5,7,13,14,15],[2,4,5,7,8,13,14,15],[2,4,5,7,13,14,15,38],[2,4,5,13,14,15],[2,4,5,13,14,15],[4]]=some c77:=by kernel_rfl
theorem af_c30:cFunc Tryz.prog afNames.ψ Tryz.f25 [[1],[3],[3,8,9],[3,8,9],[3,8,9,10],[3,4,8,9],[3,8,9,17],[2],[3,8,9],[2]]=some c30:=by kernel_rfl
theorem af_c280:cFunc Tryz.prog afNames.ψ Tryz.f26 [[1],[1,3],[1,3,4],[1,3,4],[1,3,4,15],[1,3,4],[1,3,4],[1,3,5],[1,3,5],[1,3,5,30],[1,3,5,6],[1,3,5,6],[1,3,5,6,40],[1,3,5,6],[1,3,5,6],[1,3,5],[1,3,7],[1,3,7],[1,3,7,59],[1,3,7,8],[1,3,7,8],[1,3,7,8,70],[1,3,7,8],[1,3,7,8],[1,3,7],[3,9],[3,9,10],[3,9,10],[3,9,10,86],[3,9,10,91],[3,9,10],[3,9,10],[2]]=some c280:=by kernel_rfl
theorem af_c281:cFunc Tryz.prog afNames.ψ Tryz.f27 [[1,2],[1,2,5],[1,2,5],[1,2,5,10],[1,2,5,20],[4],[1,2,5],[4]]=some c281:=by kernel_rfl
theorem af_c282:cFunc Tryz.prog afNames.ψ Tryz.f28 [[0,1],[0,1],[0,1,8],[2],[2]]=some c282:=by kernel_rfl
theorem af_c348:cFunc Tryz.prog afNames.ψ Tryz.f29 [[1,2,3,7],[1,2,3,7,19],[6,7,8],[1,2,3,7,9],[1,2,3,7,9,10],[1,2,3,7,9,10,11],[1,2,3,7,9,10,11],[1,2,3,7,9,10,11,12,13],[1,2,3,7,9,10,11,12,32],[6,7,8],[1,2,3,7,9,10,11,12,14],[1,2,3,7,9,10,11,12,14,42],[1,2,3,7,9,10,11,12,46],[6,7,8],[1,2,3,7,9,10,11,12,14],[1,2,3,7,9,10,11,12,14],[1,2,3,7,9,10,11,14,15],[1,2,3,7,9,10,11,14,15],[1,2,3,7,9,10,11,14],[1,2,3,7,9,10,11]]=some c348:=by kernel_rfl
theorem af_c295:cFunc Tryz.prog afNames.ψ Tryz.f30 [[1,3,5,6],[1,3,5,6,28],[6,7],[6,8],[6,8,46],[6,7],[6,7]]=some c295:=by kernel_rfl
theorem af_c352:cFunc Tryz.prog afNames.ψ Tryz.f31 [[2,3,4,5],[2,3,4,5,9],[2,3,4,5,9,22],[2,3,4,5,9,10],[2,3,4,5,9,10,11],[2,3,4,5,9,10,11],[2,3,4,5,9,10,11,28],[2,3,4,5,9,10,11,36],[2,3,4,5,9,10,11],[2,3,4,5,9,10,11],[8],[2,3,4,5,9,12],[2,3,4,5,9,12,61],[8],[2,3,4,5,9,12,13],[2,3,4,5,9,12,13],[2,3,4,5,9,12,13,79],[2,3,4,5,9,12,13,14],[2,3,4,5,9,12,13,107],[2,3,4,5,9,12,13,122],[8],[2,3,4,5,9,12,13],[8]]=some c352:=by kernel_rfl
theorem af_c28:cFunc Tryz.prog afNames.ψ Tryz.f32 [[0,1],[4]]=some c28:=by kernel_rfl
theorem af_c29:cFunc Tryz.prog afNames.ψ Tryz.f33 [[1,2,4],[1,2,4,5],[1,2,4,5,6],[1,2,4,5,6,7],[1,2,4,5,6,7,22,23,24],[1,2,4,5,6,7,22,23,24],[1,2,4,5,6,7,22,23,24,25],[1,2,4,5,6,7,8,9,22,23,24],[1,2,4,5,6,7,8,9,22,23,24,31],[1,2,4,5,6,7,8,9,22,23,24,35,36,37],[1,2,4,5,6,7,8,9,22,23,24,35,36,37],[1,2,4,5,6,7,8,9,22,23,24,35,36,37,38],[1,2,4,5,6,7,8,9,11,22,23,24,35,36,37],[1,2,4,5,6,7,8,9,11,22,23,24,35,36,37,45],[1,2,4,5,6,7,8,9,11,22,23,24,35,36,37,49,50,51],[1,2,4,5,6,7,8,9,11,22,23,24,35,36,37,49,50,51],[1,2,4,5,6,7,8,9,11,22,23,24,35,36,37,49,50,51,52],[1,2,4,5,6,7,8,9,11,13,22,23,24,35,36,37,49,50,51],[1,2,4,5,6,7,8,9,11,13,22,23,24,35,36,37,49,50,51,58,59,60],[1,2,4,5,6,7,8,9,11,13,22,23,24,35,36,37,49,50,51,58,59,60],[1,2,4,5,6,7,8,9,11,13,22,23,24,35,36,37,49,50,51,58,59,60,61],[1,2,4,5,6,7,8,9,11,13,15,22,23,24,35,36,37,49,50,51,58,59,60],[1,2,4,5,6,7,8,9,11,13,15,22,23,24,35,36,37,49,50,51,58,59,60,66],[1,2,4,5,6,7,8,9,11,13,22,23,24,35,36,37,49,50,51,58,59,60],[1,2,4,5,6,7,8,9,11,13,22,23,24,35,36,37,49,50,51,58,59,60],[1,2,4,5,6,7,8,9,11,22,23,24,35,36,37,49,50,51],[1,2,4,5,6,7,8,9,22,23,24,35,36,37],[1,2,4,5,6,7,8,22,23,24,83],[1,2,4,5,6,7,22,23,24],[1,2,4,5,6,7,22,23,24],[4]]=some c29:=by kernel_rfl
theorem af_c31:cFunc Tryz.prog afNames.ψ Tryz.f34 [[1,2,3],[1,2,3,12],[3,6],[3,6,23,24,25],[3,6,23,24,25],[3,6,23,24,25,26],[3,6,7,8,23,24,25],[3,6,23,24,25],[3,6,23,24,25],[3,6,48,49],[3,6,48,49],[3,6,48,49,50],[3,6,9,48,49],[3,6,9,48,49],[3,6,48,49],[3,6,48,49],[]]=some c31:=by kernel_rfl
theorem af_c32:cFunc Tryz.prog afNames.ψ Tryz.f35 [[0,1,2,3,4,5],[8]]=some c32:=by kernel_rfl
theorem af_c33:cFunc Tryz.prog afNames.ψ Tryz.f36 [[5,6,7,8,9],[6,7,8,9,11],[6,7,9,11,12],[6,7,9,11,13],[10]]=some c33:=by kernel_rfl
theorem af_c34:cFunc Tryz.prog afNames.ψ Tryz.f37 [[1,2,3,4],[2,3,4,8],[2,3],[5]]=some c34:=by kernel_rfl
theorem af_c36:cFunc Tryz.prog afNames.ψ Tryz.f38 [[]]=some c36:=by kernel_rfl
theorem af_c125:cFunc Tryz.prog afNames.ψ Tryz.f39 [[0,1],[3]]=some c125:=by kernel_rfl
theorem af_c126:cFunc Tryz.prog afNames.ψ Tryz.f40 [[0,1],[4]]=some c126:=by kernel_rfl
theorem af_c127:cFunc Tryz.prog afNames.ψ Tryz.f41 [[0,1],[3]]=some c127:=by kernel_rfl
theorem af_c128:cFunc Tryz.prog afNames.ψ Tryz.f42 [[0,1],[4]]=some c128:=by kernel_rfl
theorem af_c129:cFunc Tryz.prog afNames.ψ Tryz.f43 [[0,1],[3]]=some c129:=by kernel_rfl
theorem af_c130:cFunc Tryz.prog afNames.ψ Tryz.f44 [[1,2],[1,9,10,11],[1,9,10,11],[1,9,10,11,12],[1,6,9,10,11],[1,6,7,9,10,11],[1,6,7,9,10,11,19],[4],[1,9,10,11],[4]]=some c130:=by kernel_rfl
theorem af_c131:cFunc Tryz.prog afNames.ψ Tryz.f45 [[0,1],[0,1,7,8],[0,1,7,8],[0,1,7,8,9],[0,1,5,7,8],[0,1,5,7,8,16],[4],[0,1,7,8],[4]]=some c131:=by kernel_rfl
theorem af_c38:cFunc Tryz.prog afNames.ψ Tryz.f46 [[0,2],[2]]=some c38:=by kernel_rfl
theorem af_c102:cFunc Tryz.prog afNames.ψ Tryz.f47 [[0,1],[4]]=some c102:=by kernel_rfl
theorem af_c52:cFunc Tryz.prog afNames.ψ Tryz.f48 [[0,2],[0,2,10],[2],[0,2,3],[0,2,3,15,16,17],[0,2,3,15,16,17],[0,2,3,15,16,17,18],[0,2,3,4,5,15,16,17],[0,2,3,4,5,15,16,17,22,23,24],[0,2,3,4,5,15,16,17,22,23,24],[0,2,3,4,5,15,16,17,22,23,24,25],[0,2,3,4,5,6,7,15,16,17,22,23,24],[0,2,3,4,5,6,15,16,17,22,23,24,55],[0,2,3,4,5,15,16,17,22,23,24],[0,2,3,4,5,15,16,17,22,23,24],[0,2,3,15,16,17],[2]]=some c52:=by kernel_rfl
theorem af_c132:cFunc Tryz.prog afNames.ψ Tryz.f49 [[1,2,4],[1,2,4,5],[1,2,4,5,11,12],[1,2,4,5,11,12],[1,2,4,5,11,12,13],[1,2,4,5,6,11,12],[1,2,4,5,6,11,12,17],[1,2,4,5,11,12],[1,2,4,5,11,12],[4]]=some c132:=by kernel_rfl
theorem af_c56:cFunc Tryz.prog afNames.ψ Tryz.f50 [[1,2,3,6],[1,2,3,6,14],[3,6],[6]]=some c56:=by kernel_rfl
theorem af_c133:cFunc Tryz.prog afNames.ψ Tryz.f51 [[2,3,4,6],[2,3,4,6,7],[2,3,4,6,7,16,17],[2,3,4,6,7,16,17],[2,3,4,6,7,16,17,18],[2,3,4,6,7,8,16,17],[2,3,4,6,7,16,17],[2,3,4,6,7,16,17],[6]]=some c133:=by kernel_rfl
theorem af_c134:cFunc Tryz.prog afNames.ψ Tryz.f52 [[0,1],[4]]=some c134:=by kernel_rfl
theorem af_c135:cFunc Tryz.prog afNames.ψ Tryz.f53 [[2,3,4],[2,3,4,5],[2,4,5,14,15,16],[2,4,5,14,15,16],[2,4,5,14,15,16,17],[2,4,5,7,14,15,16],[2,4,5,7,8,9,14,15,16],[2,4,5,7,14,15,16,46],[2,4,5,14,15,16],[2,4,5,14,15,16],[4]]=some c135:=by kernel_rfl
theorem af_c136:cFunc Tryz.prog afNames.ψ Tryz.f54 [[2,3,4],[2,3,4,5],[3,4,5,13,14,15],[3,4,5,13,14,15],[3,4,5,13,14,15,16],[3,4,5,6,7,13,14,15],[3,4,5,6,13,14,15,21],[3,4,5,13,14,15],[3,4,5,13,14,15],[3,4,5,8],[3,4,5,8,30,31],[3,4,5,8,30,31],[3,4,5,8,30,31,32],[3,4,5,8,9,30,31],[3,4,5,8,9,30,31,39,40,41],[3,4,5,8,9,30,31,39,40,41],[3,4,5,8,9,30,31,39,40,41,42],[3,4,5,8,9,11,30,31,39,40,41],[3,4,5,8,9,30,31,39,40,41],[3,4,5,8,9,30,31,39,40,41],[3,4,5,8,30,31],[4]]=some c136:=by kernel_rfl
theorem af_c137:cFunc Tryz.prog afNames.ψ Tryz.f55 [[1],[2]]=some c137:=by kernel_rfl
theorem af_c138:cFunc Tryz.prog afNames.ψ Tryz.f56 [[1],[1,3],[1,3,8,9],[1,3,8,9],[1,3,8,9,10],[1,3,4,8,9],[1,3,4,8,9,16,17,18],[1,3,4,8,9,16,17,18],[1,3,4,8,9,16,17,18,19],[1,3,4,6,8,9,16,17,18],[1,3,4,8,9,16,17,18],[1,3,4,8,9,16,17,18],[1,3,8,9],[2]]=some c138:=by kernel_rfl
theorem af_c139:cFunc Tryz.prog afNames.ψ Tryz.f57 [[1,2,3],[6]]=some c139:=by kernel_rfl
theorem af_c57:cFunc Tryz.prog afNames.ψ Tryz.f58 [[1,2],[1,2,6,7],[1,2,6,7],[1,2,6,7,8],[1,2,3,6,7],[1,2,3,6,7,11,12],[1,2,3,6,7,11,12],[1,2,3,6,7,11,12,13],[1,2,3,4,6,7,11,12],[1,2,3,4,6,7,11,12,20],[1,2,3,6,7,11,12],[1,2,3,6,7,11,12],[1,2,6,7],[2]]=some c57:=by kernel_rfl
theorem af_c58:cFunc Tryz.prog afNames.ψ Tryz.f59 [[0,1],[4]]=some c58:=by kernel_rfl
theorem af_c298:cFunc Tryz.prog afNames.ψ Tryz.f60 [[1,2],[4]]=some c298:=by kernel_rfl
theorem af_c291:cFunc Tryz.prog afNames.ψ Tryz.f61 [[1,2,4],[1,2,4,8],[4],[4]]=some c291:=by kernel_rfl
theorem af_c296:cFunc Tryz.prog afNames.ψ Tryz.f62 [[2,3,4,6],[2,3,4,6,8],[2,3,4,6,8,9],[6],[2,3,4,6,8,18],[6],[2,3,4,6,24],[2,3,4,6,31],[6],[6],[6]]=some c296:=by kernel_rfl
theorem af_c297:cFunc Tryz.prog afNames.ψ Tryz.f63 [[1,3,4,6,8],[1,3,4,6,8,9,10],[1,3,4,6,8,9,19],[8],[1,3,4,6,8,9,28],[1,4,6,8],[1,4,6,8],[8]]=some c297:=by kernel_rfl
theorem af_c353:cFunc Tryz.prog afNames.ψ Tryz.f64 [[0,2],[0,2,3],[0,2,3,9],[2],[0,2,3],[0,2,3,4],[0,2,3,4],[0,2,3,4,17],[0,2,3,4,5],[0,2,3,4,5],[0,2,3,4,5,23],[0,2,3,4,5,73],[0,2,3,4,5],[0,2,3,4,5],[0,2,3,4],[2]]=some c353:=by kernel_rfl
theorem af_c354:cFunc Tryz.prog afNames.ψ Tryz.f65 [[]]=some c354:=by kernel_rfl
theorem af_c355:cFunc Tryz.prog afNames.ψ Tryz.f66 [[1],[1,3],[1,3,4],[1,3,4],[1,3,4,10],[1,3,4,15],[2],[1,3,4],[2]]=some c355:=by kernel_rfl
theorem af_c356:cFunc Tryz.prog afNames.ψ Tryz.f67 [[2,3,4,5],[2,3,4,5,9],[2,3,4,5,9,19],[2,3],[8],[2,3,4,5,9,10],[2,3,4,5,9,10,11],[2,3,4,5,9,10,11],[2,3,4,5,9,10,11,37],[2,3,4,5,9,10,11,60],[2,3,4,5,9,10,11],[2,3,4,5,9,10,11],[8]]=some c356:=by kernel_rfl
theorem af_c347:cFunc Tryz.prog afNames.ψ Tryz.f68 [[1],[2]]=some c347:=by kernel_rfl
theorem af_c51:cFunc Tryz.prog afNames.ψ Tryz.f69 [[0,1,2],[5]]=some c51:=by kernel_rfl
theorem af_c53:cFunc Tryz.prog afNames.ψ Tryz.f70 [[1,2],[1,2,8],[4],[4]]=some c53:=by kernel_rfl
theorem af_c54:cFunc Tryz.prog afNames.ψ Tryz.f71 [[0],[0,3],[0,3],[0,3,5],[0,3],[0,3],[2]]=some c54:=by kernel_rfl
theorem af_c55:cFunc Tryz.prog afNames.ψ Tryz.f72 [[0,1,2],[0,1,2,7],[0,1,2,7,19],[0,2,7],[2,7,31],[7],[6]]=some c55:=by kernel_rfl
theorem af_c59:cFunc Tryz.prog afNames.ψ Tryz.f73 [[1],[1,37],[2],[1,39,40,41],[1,39,40,41],[1,39,40,41,42],[1,3,4,39,40,41],[1,39,40,41,63],[2],[1,39,40,41],[1,5],[5,67,68,69],[5,67,68,69],[5,67,68,69,70],[5,7,67,68,69],[5,67,68,69,85],[2],[5,67,68,69],[2]]=some c59:=by kernel_rfl
theorem af_c60:cFunc Tryz.prog afNames.ψ Tryz.f74 [[1,2,4],[4]]=some c60:=by kernel_rfl
theorem af_c61:cFunc Tryz.prog afNames.ψ Tryz.f75 [[0,1,4],[0,1,4],[0,1,4,5,6],[0,1,4,5,6],[0,1,4,5,32],[0,1,4,5,7,8],[0,1,4,5,7,42],[],[0,1,4],[0,1,4]]=some c61:=by kernel_rfl
theorem af_c62:cFunc Tryz.prog afNames.ψ Tryz.f76 [[0],[0,3],[0,3,4],[0,3,4],[0,3,4,21,22,23],[0,3,4,21,22,23],[0,3,4,21,22,23,24],[0,3,4,5,6,21,22,23],[0,3,4,5,6,21,22,23,30],[0,3,4,5,6,21,22,23],[0,3,4,5,6,7,21,22,23],[0,3,4,5,6,7,21,22,23],[0,3,4,5,6,7,21,22,23,39],[0,3,4,5,6,7,21,22,23,53],[0,3,4,5,6,7,8,21,22,23],[0,3,4,5,6,7,8,21,22,23],[0,3,4,5,6,7,8,21,22,23],[0,3,4,5,6,7,8,21,22,23,77],[0,3,4,5,6,7,21,22,23,79],[2],[0,3,4,5,6,7,21,22,23],[0,3,4,5,21,22,23,86],[2],[0,3,4,21,22,23],[0,3,4,21,22,23],[2]]=some c62:=by kernel_rfl
theorem af_c63:cFunc Tryz.prog afNames.ψ Tryz.f77 [[1,2],[1,5],[5,12,13,14],[5,12,13,14],[5,12,13,14,15],[5,6,7,12,13,14],[5,6,7,12,13,14,20],[5,12,13,14],[5,12,13,14],[4]]=some c63:=by kernel_rfl
theorem af_c64:cFunc Tryz.prog afNames.ψ Tryz.f78 [[1,2],[1,2,3],[1,2,3,10,11],[1,2,3,10,11],[1,2,3,10,11,12],[1,2,3,4,10,11],[1,2,3,4,5,10,11],[1,2,3,4,5,10,11],[1,2,3,4,5,10,11,19],[1,2,3,4,5,10,11],[1,2,3,4,5,10,11],[1,2,3,10,11],[2]]=some c64:=by kernel_rfl
theorem af_c65:cFunc Tryz.prog afNames.ψ Tryz.f79 [[0,1,2,3],[6]]=some c65:=by kernel_rfl
theorem af_c66:cFunc Tryz.prog afNames.ψ Tryz.f80 [[3,4,5],[3,4,5,7],[3,4,5,7,8],[3,8],[6]]=some c66:=by kernel_rfl
theorem af_c67:cFunc Tryz.prog afNames.ψ Tryz.f81 [[3,4,5],[3,4,5,7],[3,4,5,7,8],[8],[6]]=some c67:=by kernel_rfl
theorem af_c68:cFunc Tryz.prog afNames.ψ Tryz.f82 [[0,1,2,3],[5]]=some c68:=by kernel_rfl
theorem af_c69:cFunc Tryz.prog afNames.ψ Tryz.f83 [[0],[0,4],[2],[2]]=some c69:=by kernel_rfl
theorem af_c70:cFunc Tryz.prog afNames.ψ Tryz.f84 [[0],[0,4],[2],[2]]=some c70:=by kernel_rfl
theorem af_c78:cFunc Tryz.prog afNames.ψ Tryz.f85 [[0,1,4],[]]=some c78:=by kernel_rfl
theorem af_c79:cFunc Tryz.prog afNames.ψ Tryz.f86 [[2,3],[4]]=some c79:=by kernel_rfl
theorem af_c182:cFunc Tryz.prog afNames.ψ Tryz.f87 [[0,1],[0,1,7,8],[0,1,7,8],[0,1,7,8,9],[0,1,5,7,8],[0,1,5,7,8,16],[4],[0,1,7,8],[4]]=some c182:=by kernel_rfl
theorem af_c183:cFunc Tryz.prog afNames.ψ Tryz.f88 [[0,1],[0,1,7,8],[0,1,7,8],[0,1,7,8,9],[0,1,5,7,8],[0,1,5,7,8,16],[4],[0,1,7,8],[4]]=some c183:=by kernel_rfl
theorem af_c103:cFunc Tryz.prog afNames.ψ Tryz.f89 [[0],[0,8],[2],[2]]=some c103:=by kernel_rfl
theorem af_c98:cFunc Tryz.prog afNames.ψ Tryz.f90 [[1,2],[4]]=some c98:=by kernel_rfl
theorem af_c184:cFunc Tryz.prog afNames.ψ Tryz.f91 [[0],[0],[0,7],[2],[2]]=some c184:=by kernel_rfl
theorem af_c185:cFunc Tryz.prog afNames.ψ Tryz.f92 [[1],[2]]=some c185:=by kernel_rfl
theorem af_c186:cFunc Tryz.prog afNames.ψ Tryz.f93 [[2,3,4],[2,3,4,5],[2,3,4,5,6],[2,3,4,5,6,19,20],[2,3,4,5,6,19,20],[2,3,4,5,6,19,20,21],[2,3,4,5,6,7,19,20],[2,3,4,5,6,7,8,19,20],[2,3,4,5,6,7,8,19,20],[2,3,4,5,6,7,8,19,20,30],[2,3,4,5,6,7,8,19,20],[2,3,4,5,6,7,8,19,20],[2,3,4,5,6,19,20],[4]]=some c186:=by kernel_rfl
theorem af_c299:cFunc Tryz.prog afNames.ψ Tryz.f94 [[1,3,5,6],[1,3,5,6],[1,3,5,6,17],[1,3,5,6,7],[1,3,5,6,7,28],[1,3,5,6,7,28,30],[1,3,5,6,7,8],[1,3,5,6,7,8,38],[1,3,5,6,7,8],[1,3,5,6],[1,3,5,6],[1,3,5,6,7,59],[1,3,5,6,7,69],[1,3,5,6],[1,3,5,6],[6],[6]]=some c299:=by kernel_rfl
theorem af_c300:cFunc Tryz.prog afNames.ψ Tryz.f95 [[2,3],[2,3,12],[4],[4]]=some c300:=by kernel_rfl
theorem af_c357:cFunc Tryz.prog afNames.ψ Tryz.f96 [[1,2],[1,2,3],[1,2,3],[1,2,3,8],[1,2,3,4],[1,2,3,4],[1,2,3,4,14],[1,2,3,4,19],[1,2,3,4],[1,2,3,4],[1,2,3],[2]]=some c357:=by kernel_rfl
theorem af_c358:cFunc Tryz.prog afNames.ψ Tryz.f97 [[0,1,2],[6]]=some c358:=by kernel_rfl
theorem af_c359:cFunc Tryz.prog afNames.ψ Tryz.f98 [[0,3],[0,3,5,6],[0,3,5,6],[0,3,5,6,12],[0,3,5,6,7],[0,3,5,6,7,23],[0,3,5,6],[0,3,5,6],[0,3,5,39],[4],[0,3,5],[0,3,5],[0],[4]]=some c359:=by kernel_rfl
theorem af_c360:cFunc Tryz.prog afNames.ψ Tryz.f99 [[2,3,4,5,6,7],[2,3,4,5,6,7,17],[12],[2,3,4,5,6,7,13],[2,3,4,5,6,7,13],[2,3,4,5,6,7,13,37],[2,3,4,5,6,7,13,14],[2,3,4,5,6,7,13,65],[12],[2,3,4,5,6,7,13],[12]]=some c360:=by kernel_rfl
theorem af_c99:cFunc Tryz.prog afNames.ψ Tryz.f100 [[0],[0,4],[2],[2]]=some c99:=by kernel_rfl
theorem af_c100:cFunc Tryz.prog afNames.ψ Tryz.f101 [[1],[2]]=some c100:=by kernel_rfl
theorem af_c101:cFunc Tryz.prog afNames.ψ Tryz.f102 [[1],[2]]=some c101:=by kernel_rfl
theorem af_c104:cFunc Tryz.prog afNames.ψ Tryz.f103 [[1],[1,3],[3,7,8,9],[3,7,8,9],[3,7,8,9,10],[3,5,7,8,9],[3,7,8,9],[3,7,8,9],[2]]=some c104:=by kernel_rfl
theorem af_c105:cFunc Tryz.prog afNames.ψ Tryz.f104 [[0],[2]]=some c105:=by kernel_rfl
theorem af_c106:cFunc Tryz.prog afNames.ψ Tryz.f105 [[0,1],[3]]=some c106:=by kernel_rfl
theorem af_c107:cFunc Tryz.prog afNames.ψ Tryz.f106 [[0],[0,5,6,7],[0,5,6,7],[0,5,6,7,8],[0,3,4,5,6,7],[0,5,6,7,29],[2],[0,5,6,7],[2]]=some c107:=by kernel_rfl
theorem af_c108:cFunc Tryz.prog afNames.ψ Tryz.f107 [[0,1],[4]]=some c108:=by kernel_rfl
theorem af_c109:cFunc Tryz.prog afNames.ψ Tryz.f108 [[1,2],[3]]=some c109:=by kernel_rfl
theorem af_c110:cFunc Tryz.prog afNames.ψ Tryz.f109 [[1,2],[1,2,5],[1,2,5,6],[1,2,5,6,11],[1,2,5,6,11,12],[1,2,5],[2,5,6],[1,2,5,6,11,29],[1,2,5],[2,5,6],[1,2,5,6,11,46],[1,2,5,11,48],[1,2,5],[2,5,6],[2,5,11,81],[2,5],[2,5,6],[2,5,129],[2,5],[2,5,6],[4],[4]]=some c110:=by kernel_rfl
theorem af_c111:cFunc Tryz.prog afNames.ψ Tryz.f110 [[0,3,4],[0,3,4],[0,3,4,19],[0,3,4,5],[0,3,4,5,6,7],[0,3,4,5,6,7,34],[0,3,4,5,6,7,34,36],[0,3,4,5,6,8,9],[0,3,4,5,6,8,46],[0,3,4,5,6],[0,3,4],[0,3,4,5,6,7,52],[0,3,4,5,56],[0,3,4],[4],[0,3,4],[4]]=some c111:=by kernel_rfl
theorem af_c112:cFunc Tryz.prog afNames.ψ Tryz.f111 [[1,2],[1,2,13],[4],[4]]=some c112:=by kernel_rfl
theorem af_c113:cFunc Tryz.prog afNames.ψ Tryz.f112 [[1,3,5,6],[5,6,8],[5,6,8,22],[6,7],[6,9],[6,9,36],[6,7],[6,7]]=some c113:=by kernel_rfl
theorem af_c114:cFunc Tryz.prog afNames.ψ Tryz.f113 [[2,3,4,6],[2,3,4,6,9],[2,3,4,6,9,10],[6,7],[2,3,4,6,9,19],[6,7],[2,3,4,6,25],[2,3,4,6,32],[6,7],[6,7],[6,7]]=some c114:=by kernel_rfl
theorem af_c115:cFunc Tryz.prog afNames.ψ Tryz.f114 [[0,1,3,6],[0,1,3,6,8],[0,1,3,6,8],[0,1,3,6,8],[0,1,6],[0,1,6,46],[]]=some c115:=by kernel_rfl
theorem af_c116:cFunc Tryz.prog afNames.ψ Tryz.f115 [[1,3,4,6,8],[1,3,4,6,8,9,10],[1,3,4,6,8,9,19],[8],[1,3,4,6,8,9,28],[1,4,6,8],[1,4,6,8],[8]]=some c116:=by kernel_rfl
theorem af_c117:cFunc Tryz.prog afNames.ψ Tryz.f116 [[0],[0,4],[2],[2]]=some c117:=by kernel_rfl
theorem af_c118:cFunc Tryz.prog afNames.ψ Tryz.f117 [[0,1,2,6],[0,1,2,6,7],[0,1,2,6,7,8],[0,1,6,7],[0,1,6],[0,1],[]]=some c118:=by kernel_rfl
theorem af_c119:cFunc Tryz.prog afNames.ψ Tryz.f118 [[0],[0,4],[0,4,5],[0,4,5,6],[0,4,5,6,33,34,35],[0,4,5,6,33,34,35],[0,4,5,6,33,34,35,36],[0,4,5,6,7,8,33,34,35],[0,4,5,6,8,33,34,35],[0,4,5,6,33,34,35],[0,4,5,6,33,34,35],[0,4,5,6,53,54,55],[0,4,5,6,53,54,55],[0,4,5,6,53,54,55,56],[0,4,5,6,10,53,54,55],[0,4,5,6,53,54,55,60,61,62],[0,4,5,6,53,54,55,60,61,62],[0,4,5,6,53,54,55,60,61,62,63],[0,4,5,6,12,53,54,55,60,61,62],[0,4,5,6,12,13,53,54,55,60,61,62],[0,4,5,6,12,13,53,54,55,60,61,62,67],[0,4,5,6,12,13,53,54,55,60,61,62],[0,4,5,6,13,14,53,54,55,60,61,62],[0,4,5,6,13,14,53,54,55,60,61,62,85],[0,4,5,6,13,53,54,55,60,61,62],[0,4,5,6,53,54,55,60,61,62],[0,4,5,6,53,54,55,60,61,62],[0,4,5,6,53,54,55],[2,3]]=some c119:=by kernel_rfl
theorem af_c120:cFunc Tryz.prog afNames.ψ Tryz.f119 [[0,1,5],[0,1,5,12,13,14],[0,1,5,12,13,14],[0,1,5,12,13,14,15],[0,1,5,7,8,12,13,14],[0,1,5,7,8,12,13,14,26],[0,1,5,12,13,14,40],[6],[0,1,5,12,13,14],[6]]=some c120:=by kernel_rfl
theorem af_c121:cFunc Tryz.prog afNames.ψ Tryz.f120 [[0,1,2,3,4,5],[0,1,2,3,4,5,15],[7],[0,1,2,4,5,19,20,21],[0,1,2,4,5,19,20,21],[0,1,2,4,5,19,20,21,22],[0,1,2,4,5,9,19,20,21],[0,1,2,4,5,9,19,20,21,38],[0,1,2,4,5,9,19,20,21],[0,1,2,4,5,10,19,20,21],[0,1,2,4,5,10,19,20,21],[0,1,2,4,5,19,20,21,54],[7],[0,1,2,4,5,19,20,21],[7]]=some c121:=by kernel_rfl
theorem af_c122:cFunc Tryz.prog afNames.ψ Tryz.f121 [[0],[0,3],[3,6,7,8],[3,6,7,8],[3,6,7,8,9],[3,5,6,7,8],[3,6,7,8],[3,6,7,8],[2]]=some c122:=by kernel_rfl
theorem af_c123:cFunc Tryz.prog afNames.ψ Tryz.f122 [[1,2,3,4,5,6],[1,2,3,4,5,6,13],[2,3,8],[3,8,16,17,18],[3,8,16,17,18],[3,8,16,17,18,19],[3,8,9,10,16,17,18],[3,8,16,17,18],[3,8,16,17,18],[7],[7]]=some c123:=by kernel_rfl
theorem af_c124:cFunc Tryz.prog afNames.ψ Tryz.f123 [[0,1,2,3],[2,3],[5]]=some c124:=by kernel_rfl
theorem af_c140:cFunc Tryz.prog afNames.ψ Tryz.f124 [[0,1,2,3,4,10],[0,1,2,3,4,10,11],[0,1,2,3,4,10,11],[0,1,2,3,4,10,11,12],[0,1,2,3,4,10,11,12,25],[],[0,1,2,3,4,10,11,12,32],[],[0,1,2,3,4,10,11,12,39],[0,1,2,3,4,10,11,12],[0,1,2,3,4,10,11,12],[0,1,2,3,4,10,11,12,13,14],[0,1,2,3,4,10,11,12,13,14,56],[0,1,2,3,4,10,11,12,13],[0,1,2,3,4,10,11,12,13],[0,1,2,3,4,10,11,12,13,14],[0,1,2,3,4,10,11,12,13,75],[0,1,2,3,4,10,11,12,13,80],[0,1,2,3,4,10,11,12,13,97],[0,2,3,4,10,11,15],[0,1,2,3,4,10,11],[0,1,2,3,4,12,16,17],[0,1,2,3,4,11,12,16],[0,1,2,3,4,11,12,16,18,19],[0,1,2,3,4,11,16,18,19,20],[0,1,2,3,4,11,16,18,19,20,125],[0,1,2,3,4,10,11,16],[0,2,3,4,10,11,16],[0,1,2,3,4,10,11],[0,1,2,3,4,10,11,16],[0,1,3,4,10,11,16],[0,1,2,3,4,10,11]]=some c140:=by kernel_rfl
theorem af_c141:cFunc Tryz.prog afNames.ψ Tryz.f125 [[0],[2],[2]]=some c141:=by kernel_rfl
theorem af_c142:cFunc Tryz.prog afNames.ψ Tryz.f126 [[0],[0,3],[3,6,7,8],[3,6,7,8],[3,6,7,8,9],[3,5,6,7,8],[3,5,6,7,8,14],[2],[3,6,7,8],[2]]=some c142:=by kernel_rfl
theorem af_c143:cFunc Tryz.prog afNames.ψ Tryz.f127 [[0,1,2],[0,1,2,11,12,13],[0,1,2,11,12,13],[0,1,2,11,12,13,14],[0,1,2,7,8,11,12,13],[0,1,2,7,8,11,12,13,21],[6],[0,1,2,8,9,11,12,13],[0,1,2,10,11,12,13],[0,1,2,10,11,12,13,31],[6],[0,1,2,11,12,13],[38],[6],[6]]=some c143:=by kernel_rfl
theorem af_c144:cFunc Tryz.prog afNames.ψ Tryz.f128 [[2,3],[4]]=some c144:=by kernel_rfl
theorem af_c145:cFunc Tryz.prog afNames.ψ Tryz.f129 [[0,1],[0,1,9,10,11],[0,1,9,10,11],[0,1,9,10,11,12],[0,1,5,6,9,10,11],[0,1,5,6,9,10,11,19],[4],[0,1,6,7,9,10,11],[0,1,8,9,10,11],[0,1,8,9,10,11,28],[4],[0,1,9,10,11],[35],[4],[4]]=some c145:=by kernel_rfl
theorem af_c146:cFunc Tryz.prog afNames.ψ Tryz.f130 [[0,1,2],[0,1,2,11,12,13],[0,1,2,11,12,13],[0,1,2,11,12,13,14],[0,1,2,7,8,11,12,13],[0,1,2,7,8,11,12,13,21],[6],[0,1,2,8,9,11,12,13],[0,1,2,10,11,12,13],[0,1,2,10,11,12,13,31],[6],[0,1,2,11,12,13],[38],[6],[6]]=some c146:=by kernel_rfl
theorem af_c301:cFunc Tryz.prog afNames.ψ Tryz.f131 [[0,1,2],[0,1,2,8],[0,1,2,8],[1,2,8,13],[1,2,8,13,14],[6,7],[1,2,8,13,22],[6,7],[1,2,8,13,30],[6,7],[1,2,8,13,38],[6,7],[1,2,8,13,43],[6,7],[1,2,8,13,48],[6,7],[1,2,8,13,53],[6,7],[1,2,8,13,60],[6,7],[1,2,13,65],[9],[1,2,13,70],[9],[1,2,75],[9],[6,7],[80],[6,7],[6,7]]=some c301:=by kernel_rfl
theorem af_c340:cFunc Tryz.prog afNames.ψ Tryz.f132 [[2,3],[2,3,5],[2,3,5,15],[4],[2,3,6],[2,3,6,23],[4],[2,3,7],[2,3,7],[2,3,7,36],[2,3,7,8],[2,3,7,8,51],[4],[2,3,7],[4]]=some c340:=by kernel_rfl
theorem af_c171:cFunc Tryz.prog afNames.ψ Tryz.f134 [[0,1],[0,1,7,8],[0,1,7,8],[0,1,7,8,9],[0,1,5,7,8],[0,1,5,7,8,16],[4],[0,1,7,8],[4]]=some c171:=by kernel_rfl
theorem af_c172:cFunc Tryz.prog afNames.ψ Tryz.f135 [[1],[2]]=some c172:=by kernel_rfl
theorem af_c173:cFunc Tryz.prog afNames.ψ Tryz.f136 [[0],[2]]=some c173:=by kernel_rfl
theorem af_c174:cFunc Tryz.prog afNames.ψ Tryz.f137 [[2,3],[2,3,12],[4],[4]]=some c174:=by kernel_rfl
theorem af_c175:cFunc Tryz.prog afNames.ψ Tryz.f138 [[0,1,2],[0,1,2,8],[1,2,8,12],[1,2,8,12,13],[6,7],[1,2,8,12,18],[6,7],[1,2,8,12,23],[6,7],[1,2,8,12,28],[6,7],[1,2,8,12,33],[6,7],[1,2,8,12,38],[6,7],[1,2,8,12,43],[6,7],[1,2,8,12,48],[6,7],[1,2,12,53],[6,7],[1,2,12,59],[6,7],[1,2,65],[6,7],[6,7]]=some c175:=by kernel_rfl
theorem af_c176:cFunc Tryz.prog afNames.ψ Tryz.f139 [[0,1,2,11],[]]=some c176:=by kernel_rfl
theorem af_c177:cFunc Tryz.prog afNames.ψ Tryz.f140 [[0],[2]]=some c177:=by kernel_rfl
theorem af_c178:cFunc Tryz.prog afNames.ψ Tryz.f141 [[0],[2]]=some c178:=by kernel_rfl
theorem af_c179:cFunc Tryz.prog afNames.ψ Tryz.f142 [[0],[2]]=some c179:=by kernel_rfl
theorem af_c147:cFunc Tryz.prog afNames.ψ Tryz.f143 [[1],[1,3],[3,7,8,9],[3,7,8,9],[3,7,8,9,10],[3,4,5,7,8,9],[3,7,8,9],[3,7,8,9],[2]]=some c147:=by kernel_rfl
theorem af_c180:cFunc Tryz.prog afNames.ψ Tryz.f144 [[0,1],[0,1,10],[0,1],[0,5,6],[0,6,26],[0,6],[0,7],[7,8],[7,8],[7,8,37],[7,8],[4]]=some c180:=by kernel_rfl
theorem af_c181:cFunc Tryz.prog afNames.ψ Tryz.f145 [[1,2],[3]]=some c181:=by kernel_rfl
theorem af_c187:cFunc Tryz.prog afNames.ψ Tryz.f146 [[0,1,2,3,8],[0,1,2,3,8],[0,1,2,3,8,14],[0,1,2,3,8,9],[0,1,2,3,8,9],[0,1,2,3,8,9,34],[0,1,2,3,8,9],[0,1,2,3,8,9],[0,1,2,3,8]]=some c187:=by kernel_rfl
theorem af_c195:cFunc Tryz.prog afNames.ψ Tryz.f154 [[0,2],[0,2,4],[0],[0,2],[0,2,8],[0,2],[0,2],[2]]=some c195:=by kernel_rfl
theorem af_c196:cFunc Tryz.prog afNames.ψ Tryz.f155 [[0,2],[0,2,4],[0],[0,2],[0,2,8],[0,2],[0,2],[0,2,14],[0,2],[0,2],[2]]=some c196:=by kernel_rfl
theorem af_c197:cFunc Tryz.prog afNames.ψ Tryz.f156 [[0,1],[0,1,5],[0,1,5,6],[0,1,6,11],[12],[4],[4],[0,1,13],[4],[0,1,16],[4],[19],[4],[4]]=some c197:=by kernel_rfl
theorem af_c198:cFunc Tryz.prog afNames.ψ Tryz.f157 [[0,1],[0,1,5],[0,1,5,6],[0,1,6,11],[12],[4],[4],[0,1,13],[4],[0,1,16],[4],[19],[4],[4]]=some c198:=by kernel_rfl
theorem af_c349:cFunc Tryz.prog afNames.ψ Tryz.f158 [[0,1],[0,1,5],[0,1,5],[0,1,5,19],[0,1,5,6,7],[0,1,5,8],[0,1,5,8,9],[0,1,5,8,9],[0,1,5,8,9,62],[0,1,5,8,9,68],[4],[0,1,5,8,9],[0,1,5],[4]]=some c349:=by kernel_rfl
theorem af_c350:cFunc Tryz.prog afNames.ψ Tryz.f159 [[0,1],[0,1,5],[0,1,5],[0,1,5,16],[0,1,5,6],[0,1,5,6,29],[4],[0,1,5],[4]]=some c350:=by kernel_rfl
theorem af_c351:cFunc Tryz.prog afNames.ψ Tryz.f160 [[0,1],[0,1,5],[4],[9],[4],[4]]=some c351:=by kernel_rfl
theorem af_c222:cFunc Tryz.prog afNames.ψ Tryz.f161 [[0],[3],[2],[2]]=some c222:=by kernel_rfl
theorem af_c223:cFunc Tryz.prog afNames.ψ Tryz.f162 [[0,1],[6,7],[4,5],[8,9],[4,5]]=some c223:=by kernel_rfl
theorem af_c229:cFunc Tryz.prog afNames.ψ Tryz.f168 [[0],[2]]=some c229:=by kernel_rfl
theorem af_c230:cFunc Tryz.prog afNames.ψ Tryz.f169 [[0],[2]]=some c230:=by kernel_rfl
theorem af_c249:cFunc Tryz.prog afNames.ψ Tryz.f170 [[0,1],[6],[4,5]]=some c249:=by kernel_rfl
theorem af_c250:cFunc Tryz.prog afNames.ψ Tryz.f171 [[0,1],[0,1,6],[0,1,6,7],[0,1,6,7,8],[0,1,6,7,8,9],[0,1,6,7,8,9,10],[0,1,6,7,9,11],[0,1,6,7,9,11,12],[0,1,6,7,9,12,13],[0,1,7,9,12,13],[0,1,4],[4,5]]=some c250:=by kernel_rfl
theorem afKnown:Known Tryz.prog afNames afG where
  ok:=by kernel_rfl
  calls:=by
    intro x hx
    simp only [afNames,List.mem_cons,List.not_mem_nil,or_false] at hx
    rcases hx with rfl | rfl | rfl | rfl | rfl | rfl | rfl | rfl | rfl | rfl | rfl | rfl | rfl | rfl | rfl | rfl | rfl | rfl | rfl | rfl | rfl | rfl | rfl | rfl | rfl | rfl | rfl | rfl | rfl | rfl | rfl | rfl | rfl | rfl | rfl | rfl | rfl | rfl | rfl | rfl | rfl | rfl | rfl | rfl | rfl | rfl | rfl | rfl | rfl | rfl | rfl | rfl | rfl | rfl | rfl | rfl | rfl | rfl | rfl | rfl | rfl | rfl | rfl | rfl | rfl | rfl | rfl | rfl | rfl | rfl | rfl | rfl | rfl | rfl | rfl | rfl | rfl | rfl | rfl | rfl | rfl | rfl | rfl | rfl | rfl | rfl | rfl | rfl | rfl | rfl | rfl | rfl | rfl | rfl | rfl | rfl | rfl | rfl | rfl | rfl | rfl | rfl | rfl | rfl | rfl | rfl | rfl | rfl | rfl | rfl | rfl | rfl | rfl | rfl | rfl | rfl | rfl | rfl | rfl | rfl | rfl | rfl | rfl | rfl | rfl | rfl | rfl | rfl | rfl | rfl | rfl | rfl | rfl | rfl | rfl | rfl | rfl | rfl | rfl | rfl | rfl | rfl | rfl | rfl | rfl | rfl | rfl | rfl | rfl | rfl | rfl | rfl | rfl | rfl | rfl | rfl | rfl
    · exact Tryz.call3
    · exact Tryz.call4
    · exact Tryz.call5
    · exact Tryz.call6
    · exact Tryz.call7
    · exact Tryz.call8
    · exact Tryz.call9
    · exact Tryz.call10
    · exact Tryz.call11
    · exact Tryz.call12
    · exact Tryz.call13
    · exact Tryz.call14
    · exact Tryz.call15
    · exact Tryz.call16
    · exact Tryz.call17
    · exact Tryz.call18
    · exact Tryz.call19
    · exact Tryz.call20
    · exact Tryz.call21
    · exact Tryz.call22
    · exact Tryz.call23
    · exact Tryz.call24
    · exact Tryz.call25
    · exact Tryz.call26
    · exact Tryz.call27
    · exact Tryz.call28
    · exact Tryz.call29
    · exact Tryz.call30
    · exact Tryz.call31
    · exact Tryz.call32
    · exact Tryz.call33
    · exact Tryz.call34
    · exact Tryz.call35
    · exact Tryz.call36
    · exact Tryz.call37
    · exact Tryz.call38
    · exact Tryz.call39
    · exact Tryz.call40
    · exact Tryz.call41
    · exact Tryz.call42
    · exact Tryz.call43
    · exact Tryz.call44
    · exact Tryz.call45
    · exact Tryz.call46
    · exact Tryz.call47
    · exact Tryz.call48
    · exact Tryz.call49
    · exact Tryz.call50
    · exact Tryz.call51
    · exact Tryz.call52
    · exact Tryz.call53
    · exact Tryz.call54
    · exact Tryz.call55
    · exact Tryz.call56
    · exact Tryz.call57
    · exact Tryz.call58
    · exact Tryz.call59
    · exact Tryz.call60
    · exact Tryz.call61
    · exact Tryz.call62
    · exact Tryz.call63
    · exact Tryz.call64
    · exact Tryz.call65
    · exact Tryz.call66
    · exact Tryz.call67
    · exact Tryz.call68
    · exact Tryz.call69
    · exact Tryz.call70
    · exact Tryz.call71
    · exact Tryz.call72
    · exact Tryz.call73
    · exact Tryz.call74
    · exact Tryz.call75
    · exact Tryz.call76
    · exact Tryz.call77
    · exact Tryz.call78
    · exact Tryz.call79
    · exact Tryz.call80
    · exact Tryz.call81
    · exact Tryz.call82
    · exact Tryz.call83
    · exact Tryz.call84
    · exact Tryz.call85
    · exact Tryz.call86
    · exact Tryz.call87
    · exact Tryz.call88
    · exact Tryz.call89
    · exact Tryz.call90
    · exact Tryz.call91
    · exact Tryz.call92
    · exact Tryz.call93
    · exact Tryz.call94
    · exact Tryz.call95
    · exact Tryz.call96
    · exact Tryz.call97
    · exact Tryz.call98
    · exact Tryz.call99
    · exact Tryz.call100
    · exact Tryz.call101
    · exact Tryz.call102
    · exact Tryz.call103
    · exact Tryz.call104
    · exact Tryz.call105
    · exact Tryz.call106
    · exact Tryz.call107
    · exact Tryz.call108
    · exact Tryz.call109
    · exact Tryz.call110
    · exact Tryz.call111
    · exact Tryz.call112
    · exact Tryz.call113
    · exact Tryz.call114
    · exact Tryz.call115
    · exact Tryz.call116
    · exact Tryz.call117
    · exact Tryz.call118
    · exact Tryz.call119
    · exact Tryz.call120
    · exact Tryz.call121
    · exact Tryz.call122
    · exact Tryz.call123
    · exact Tryz.call124
    · exact Tryz.call125
    · exact Tryz.call126
    · exact Tryz.call127
    · exact Tryz.call128
    · exact Tryz.call129
    · exact Tryz.call130
    · exact Tryz.call131
    · exact Tryz.call132
    · exact Tryz.call133
    · exact Tryz.call134
    · exact Tryz.call135
    · exact Tryz.call136
    · exact Tryz.call137
    · exact Tryz.call138
    · exact Tryz.call139
    · exact Tryz.call140
    · exact Tryz.call141
    · exact Tryz.call142
    · exact Tryz.call143
    · exact Tryz.call144
    · exact Tryz.call145
    · exact Tryz.call146
    · exact Tryz.call154
    · exact Tryz.call155
    · exact Tryz.call156
    · exact Tryz.call157
    · exact Tryz.call158
    · exact Tryz.call159
    · exact Tryz.call160
    · exact Tryz.call161
    · exact Tryz.call162
    · exact Tryz.call168
    · exact Tryz.call169
    · exact Tryz.call170
    · exact Tryz.call171
  code:=by
    intro x hx
    simp only [afNames,List.mem_cons,List.not_mem_nil,or_false] at hx
    rcases hx with rfl | rfl | rfl | rfl | rfl | rfl | rfl | rfl | rfl | rfl | rfl | rfl | rfl | rfl | rfl | rfl | rfl | rfl | rfl | rfl | rfl | rfl | rfl | rfl | rfl | rfl | rfl | rfl | rfl | rfl | rfl | rfl | rfl | rfl | rfl | rfl | rfl | rfl | rfl | rfl | rfl | rfl | rfl | rfl | rfl | rfl | rfl | rfl | rfl | rfl | rfl | rfl | rfl | rfl | rfl | rfl | rfl | rfl | rfl | rfl | rfl | rfl | rfl | rfl | rfl | rfl | rfl | rfl | rfl | rfl | rfl | rfl | rfl | rfl | rfl | rfl | rfl | rfl | rfl | rfl | rfl | rfl | rfl | rfl | rfl | rfl | rfl | rfl | rfl | rfl | rfl | rfl | rfl | rfl | rfl | rfl | rfl | rfl | rfl | rfl | rfl | rfl | rfl | rfl | rfl | rfl | rfl | rfl | rfl | rfl | rfl | rfl | rfl | rfl | rfl | rfl | rfl | rfl | rfl | rfl | rfl | rfl | rfl | rfl | rfl | rfl | rfl | rfl | rfl | rfl | rfl | rfl | rfl | rfl | rfl | rfl | rfl | rfl | rfl | rfl | rfl | rfl | rfl | rfl | rfl | rfl | rfl | rfl | rfl | rfl | rfl | rfl | rfl | rfl | rfl | rfl | rfl
    · exact .inl ⟨_,_,Tryz.func3,af_c361⟩
    · exact .inl ⟨_,_,Tryz.func4,af_c270⟩
    · exact .inl ⟨_,_,Tryz.func5,af_c335⟩
    · exact .inl ⟨_,_,Tryz.func6,af_c21⟩
    · exact .inl ⟨_,_,Tryz.func7,af_c35⟩
    · exact .inl ⟨_,_,Tryz.func8,af_c274⟩
    · exact .inl ⟨_,_,Tryz.func9,af_c275⟩
    · exact .inl ⟨_,_,Tryz.func10,af_c341⟩
    · exact .inl ⟨_,_,Tryz.func11,af_c342⟩
    · exact .inl ⟨_,_,Tryz.func12,af_c343⟩
    · exact .inl ⟨_,_,Tryz.func13,af_c344⟩
    · exact .inl ⟨_,_,Tryz.func14,af_c345⟩
    · exact .inl ⟨_,_,Tryz.func15,af_c346⟩
    · exact .inl ⟨_,_,Tryz.func16,af_c19⟩
    · exact .inl ⟨_,_,Tryz.func17,af_c20⟩
    · exact .inl ⟨_,_,Tryz.func18,af_c71⟩
    · exact .inl ⟨_,_,Tryz.func19,af_c72⟩
    · exact .inl ⟨_,_,Tryz.func20,af_c73⟩
    · exact .inl ⟨_,_,Tryz.func21,af_c74⟩
    · exact .inl ⟨_,_,Tryz.func22,af_c75⟩
    · exact .inl ⟨_,_,Tryz.func23,af_c76⟩
    · exact .inl ⟨_,_,Tryz.func24,af_c77⟩
    · exact .inl ⟨_,_,Tryz.func25,af_c30⟩
    · exact .inl ⟨_,_,Tryz.func26,af_c280⟩
    · exact .inl ⟨_,_,Tryz.func27,af_c281⟩
    · exact .inl ⟨_,_,Tryz.func28,af_c282⟩
    · exact .inl ⟨_,_,Tryz.func29,af_c348⟩
    · exact .inl ⟨_,_,Tryz.func30,af_c295⟩
    · exact .inl ⟨_,_,Tryz.func31,af_c352⟩
    · exact .inl ⟨_,_,Tryz.func32,af_c28⟩
    · exact .inl ⟨_,_,Tryz.func33,af_c29⟩
    · exact .inl ⟨_,_,Tryz.func34,af_c31⟩
    · exact .inl ⟨_,_,Tryz.func35,af_c32⟩
    · exact .inl ⟨_,_,Tryz.func36,af_c33⟩
    · exact .inl ⟨_,_,Tryz.func37,af_c34⟩
    · exact .inl ⟨_,_,Tryz.func38,af_c36⟩
    · exact .inl ⟨_,_,Tryz.func39,af_c125⟩
    · exact .inl ⟨_,_,Tryz.func40,af_c126⟩
    · exact .inl ⟨_,_,Tryz.func41,af_c127⟩
    · exact .inl ⟨_,_,Tryz.func42,af_c128⟩
    · exact .inl ⟨_,_,Tryz.func43,af_c129⟩
    · exact .inl ⟨_,_,Tryz.func44,af_c130⟩
    · exact .inl ⟨_,_,Tryz.func45,af_c131⟩
    · exact .inl ⟨_,_,Tryz.func46,af_c38⟩
    · exact .inl ⟨_,_,Tryz.func47,af_c102⟩
    · exact .inl ⟨_,_,Tryz.func48,af_c52⟩
    · exact .inl ⟨_,_,Tryz.func49,af_c132⟩
    · exact .inl ⟨_,_,Tryz.func50,af_c56⟩
    · exact .inl ⟨_,_,Tryz.func51,af_c133⟩
    · exact .inl ⟨_,_,Tryz.func52,af_c134⟩
    · exact .inl ⟨_,_,Tryz.func53,af_c135⟩
    · exact .inl ⟨_,_,Tryz.func54,af_c136⟩
    · exact .inl ⟨_,_,Tryz.func55,af_c137⟩
    · exact .inl ⟨_,_,Tryz.func56,af_c138⟩
    · exact .inl ⟨_,_,Tryz.func57,af_c139⟩
    · exact .inl ⟨_,_,Tryz.func58,af_c57⟩
    · exact .inl ⟨_,_,Tryz.func59,af_c58⟩
    · exact .inl ⟨_,_,Tryz.func60,af_c298⟩
    · exact .inl ⟨_,_,Tryz.func61,af_c291⟩
    · exact .inl ⟨_,_,Tryz.func62,af_c296⟩
    · exact .inl ⟨_,_,Tryz.func63,af_c297⟩
    · exact .inl ⟨_,_,Tryz.func64,af_c353⟩
    · exact .inl ⟨_,_,Tryz.func65,af_c354⟩
    · exact .inl ⟨_,_,Tryz.func66,af_c355⟩
    · exact .inl ⟨_,_,Tryz.func67,af_c356⟩
    · exact .inl ⟨_,_,Tryz.func68,af_c347⟩
    · exact .inl ⟨_,_,Tryz.func69,af_c51⟩
    · exact .inl ⟨_,_,Tryz.func70,af_c53⟩
    · exact .inl ⟨_,_,Tryz.func71,af_c54⟩
    · exact .inl ⟨_,_,Tryz.func72,af_c55⟩
    · exact .inl ⟨_,_,Tryz.func73,af_c59⟩
    · exact .inl ⟨_,_,Tryz.func74,af_c60⟩
    · exact .inl ⟨_,_,Tryz.func75,af_c61⟩
    · exact .inl ⟨_,_,Tryz.func76,af_c62⟩
    · exact .inl ⟨_,_,Tryz.func77,af_c63⟩
    · exact .inl ⟨_,_,Tryz.func78,af_c64⟩
    · exact .inl ⟨_,_,Tryz.func79,af_c65⟩
    · exact .inl ⟨_,_,Tryz.func80,af_c66⟩
    · exact .inl ⟨_,_,Tryz.func81,af_c67⟩
    · exact .inl ⟨_,_,Tryz.func82,af_c68⟩
    · exact .inl ⟨_,_,Tryz.func83,af_c69⟩
    · exact .inl ⟨_,_,Tryz.func84,af_c70⟩
    · exact .inl ⟨_,_,Tryz.func85,af_c78⟩
    · exact .inl ⟨_,_,Tryz.func86,af_c79⟩
    · exact .inl ⟨_,_,Tryz.func87,af_c182⟩
    · exact .inl ⟨_,_,Tryz.func88,af_c183⟩
    · exact .inl ⟨_,_,Tryz.func89,af_c103⟩
    · exact .inl ⟨_,_,Tryz.func90,af_c98⟩
    · exact .inl ⟨_,_,Tryz.func91,af_c184⟩
    · exact .inl ⟨_,_,Tryz.func92,af_c185⟩
    · exact .inl ⟨_,_,Tryz.func93,af_c186⟩
    · exact .inl ⟨_,_,Tryz.func94,af_c299⟩
    · exact .inl ⟨_,_,Tryz.func95,af_c300⟩
    · exact .inl ⟨_,_,Tryz.func96,af_c357⟩
    · exact .inl ⟨_,_,Tryz.func97,af_c358⟩
    · exact .inl ⟨_,_,Tryz.func98,af_c359⟩
    · exact .inl ⟨_,_,Tryz.func99,af_c360⟩
    · exact .inl ⟨_,_,Tryz.func100,af_c99⟩
    · exact .inl ⟨_,_,Tryz.func101,af_c100⟩
    · exact .inl ⟨_,_,Tryz.func102,af_c101⟩
    · exact .inl ⟨_,_,Tryz.func103,af_c104⟩
    · exact .inl ⟨_,_,Tryz.func104,af_c105⟩
    · exact .inl ⟨_,_,Tryz.func105,af_c106⟩
    · exact .inl ⟨_,_,Tryz.func106,af_c107⟩
    · exact .inl ⟨_,_,Tryz.func107,af_c108⟩
    · exact .inl ⟨_,_,Tryz.func108,af_c109⟩
    · exact .inl ⟨_,_,Tryz.func109,af_c110⟩
    · exact .inl ⟨_,_,Tryz.func110,af_c111⟩
    · exact .inl ⟨_,_,Tryz.func111,af_c112⟩
    · exact .inl ⟨_,_,Tryz.func112,af_c113⟩
    · exact .inl ⟨_,_,Tryz.func113,af_c114⟩
    · exact .inl ⟨_,_,Tryz.func114,af_c115⟩
    · exact .inl ⟨_,_,Tryz.func115,af_c116⟩
    · exact .inl ⟨_,_,Tryz.func116,af_c117⟩
    · exact .inl ⟨_,_,Tryz.func117,af_c118⟩
    · exact .inl ⟨_,_,Tryz.func118,af_c119⟩
    · exact .inl ⟨_,_,Tryz.func119,af_c120⟩
    · exact .inl ⟨_,_,Tryz.func120,af_c121⟩
    · exact .inl ⟨_,_,Tryz.func121,af_c122⟩
    · exact .inl ⟨_,_,Tryz.func122,af_c123⟩
    · exact .inl ⟨_,_,Tryz.func123,af_c124⟩
    · exact .inl ⟨_,_,Tryz.func124,af_c140⟩
    · exact .inl ⟨_,_,Tryz.func125,af_c141⟩
    · exact .inl ⟨_,_,Tryz.func126,af_c142⟩
    · exact .inl ⟨_,_,Tryz.func127,af_c143⟩
    · exact .inl ⟨_,_,Tryz.func128,af_c144⟩
    · exact .inl ⟨_,_,Tryz.func129,af_c145⟩
    · exact .inl ⟨_,_,Tryz.func130,af_c146⟩
    · exact .inl ⟨_,_,Tryz.func131,af_c301⟩
    · exact .inl ⟨_,_,Tryz.func132,af_c340⟩
    · exact .inr ⟨0,rfl⟩
    · exact .inl ⟨_,_,Tryz.func134,af_c171⟩
    · exact .inl ⟨_,_,Tryz.func135,af_c172⟩
    · exact .inl ⟨_,_,Tryz.func136,af_c173⟩
    · exact .inl ⟨_,_,Tryz.func137,af_c174⟩
    · exact .inl ⟨_,_,Tryz.func138,af_c175⟩
    · exact .inl ⟨_,_,Tryz.func139,af_c176⟩
    · exact .inl ⟨_,_,Tryz.func140,af_c177⟩
    · exact .inl ⟨_,_,Tryz.func141,af_c178⟩
    · exact .inl ⟨_,_,Tryz.func142,af_c179⟩
    · exact .inl ⟨_,_,Tryz.func143,af_c147⟩
    · exact .inl ⟨_,_,Tryz.func144,af_c180⟩
    · exact .inl ⟨_,_,Tryz.func145,af_c181⟩
    · exact .inl ⟨_,_,Tryz.func146,af_c187⟩
    · exact .inl ⟨_,_,Tryz.func154,af_c195⟩
    · exact .inl ⟨_,_,Tryz.func155,af_c196⟩
    · exact .inl ⟨_,_,Tryz.func156,af_c197⟩
    · exact .inl ⟨_,_,Tryz.func157,af_c198⟩
    · exact .inl ⟨_,_,Tryz.func158,af_c349⟩
    · exact .inl ⟨_,_,Tryz.func159,af_c350⟩
    · exact .inl ⟨_,_,Tryz.func160,af_c351⟩
    · exact .inl ⟨_,_,Tryz.func161,af_c222⟩
    · exact .inl ⟨_,_,Tryz.func162,af_c223⟩
    · exact .inl ⟨_,_,Tryz.func168,af_c229⟩
    · exact .inl ⟨_,_,Tryz.func169,af_c230⟩
    · exact .inl ⟨_,_,Tryz.func170,af_c249⟩
    · exact .inl ⟨_,_,Tryz.func171,af_c250⟩
end Go.Jq
namespace Go.Jq
set_option maxRecDepth 10000 in
theorem afRun:∀ x ∈ AW_list,afG x.1=x.2:=by
  intro x hx
  simp only [AW_list,List.mem_cons,List.not_mem_nil,or_false] at hx
  repeat' rcases hx with rfl | hx
  all_goals first | rfl | (subst hx;rfl)
theorem afAx:AxG afG:=by constructor <;> (repeat' (first | rfl | constructor))
theorem afAll:AllG afG:=by constructor <;> (repeat' (first | rfl | constructor))
theorem afComp:CompG afG:=by repeat' (first | rfl | constructor)
theorem afLaw:FencG afG:=⟨afAx,afAll,afComp,rfl,fun _ _ k=>aw12_spec ⟨afAx,rfl,rfl,afRun⟩ k⟩
end Go.Jq
